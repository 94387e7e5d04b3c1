/-
  A generic law on the model: a region whose order the model draws may be proved in one fixed order, if what is shown of each operation is stable under what the others may do.
  Laws over XPo: a region that draws its order, step by step, where all but its tail turns nothing old.
  Laws over XPo: a region that draws its order, where stores into blocks made in it stand in their place among what only reads older blocks.
  A law on the model: a region that draws its order, by what holds of every set of operations that may be done.
  A law on the model: a region that draws its order: operations that read, and a chain of operations (calls, stores) one behind another.
  A law on the model: a region that draws its order: operations that read, and a chain of operations (calls, stores) one behind another; what a call gives may be a value that is not known ahead (a ghost).
  A law on the model: append of bytes to a row of one's own: where the row lies behind it, and pieces that lie elsewhere stand.
  An activation of known size is a written frame; behind a region that wrote some slots.
  Loops taken out of a function.
-/
import Derived.Orders
import Derived.KernelRfl
import Derived.Test.YtdkhgpnidamalaaDoorGA
import Derived.BigQuiet
namespace Go.Bl
set_option linter.unusedVariables false

inductive Kind where
  | val
  | mem
  | call
  | tail
  deriving DecidableEq

def dstOf (ops : Array Oper) (i : Nat) : Option Tmp := (ops[i]?).bind (·.dst)
def slot (a : Act) (t : Nat) : Value := a.tmps.getD t undef
def looks (ops : Array Oper) (i : Nat) : List Tmp := match ops[i]? with | some o => o.looksAt ops | none => []
def afters (ops : Array Oper) (i : Nat) : List Nat := match ops[i]? with | some o => (o.after.toList.filter (Region.binds .any)).map (·.on) | none => []

/-- what comes of a result that ends normally -/
def outV (P : Program) (Kv : Value → World → Prop) : Result Next → Prop
  | .ok (.value v) w' => Kv v w'
  | .ok .skip w' => Kv undef w'
  | .ok (.enter f args) w' => Calls P f args w' fun
      | .returned v, w'' => Kv v w''
      | _, _ => False
  | .ok (.row row args) w' => Rows P row args w' fun v w'' => Kv v w''
  | _ => False

theorem outV_mono {P : Program} {K K' : Value → World → Prop} (h : ∀ v w, K v w → K' v w) : ∀ {r : Result Next}, outV P K r → outV P K' r
  | .ok (.value v) w', hr => h _ _ hr
  | .ok .skip w', hr => h _ _ hr
  | .ok (.enter f args) w', hr => Calls.mono hr fun e w he => by cases e <;> first | exact h _ _ he | exact he
  | .ok (.row row args) w', hr => Rows.mono hr fun v w he => h _ _ he

theorem outV_ex {P : Program} {K : Value → World → Prop} : ∀ {r : Result Next}, outV P K r → ∃ v w, K v w
  | .ok (.value v) w', hr => ⟨_, _, hr⟩
  | .ok .skip w', hr => ⟨_, _, hr⟩
  | .ok (.enter f args) w', hr => by
    obtain ⟨e, w', fr, he, -⟩ := hr []
    cases e with
    | returned v => exact ⟨_, _, he⟩
    | panicked c => exact he.elim
    | outgrown => exact he.elim
  | .ok (.row row args) w', hr => by
    obtain ⟨v, w', he, -⟩ := hr default []
    exact ⟨_, _, he⟩

def opV (P : Program) (ops : Array Oper) (i : Nat) (a : Act) (u : World) (Kv : Value → World → Prop) : Prop :=
  match ops[i]? with
  | none => False
  | some o => if Region.wanted o (yielded ops a.tmps) = true then outV P Kv ((execOp a.eval o).run P u) else Kv undef u

def runV (P : Program) (ops : Array Oper) (i : Nat) (a : Act) (u : World) : Option (Value × World) :=
  match ops[i]? with
  | none => none
  | some o => if Region.wanted o (yielded ops a.tmps) = true then
      (match (execOp a.eval o).run P u with
       | .ok (.value v) p => some (v, p)
       | .ok .skip p => some (undef, p)
       | _ => none)
    else some (undef, u)

theorem opV_mono {P : Program} {ops : Array Oper} {i : Nat} {a : Act} {u : World} {K K' : Value → World → Prop} (h : ∀ v w, K v w → K' v w)
    (hh : opV P ops i a u K) : opV P ops i a u K' := by
  unfold opV at *
  split
  · simp_all
  · rename_i o ho
    simp only [ho] at hh
    split
    · rename_i hw; simp only [hw, if_true] at hh; exact outV_mono h hh
    · rename_i hw; simp only [hw] at hh; exact h _ _ hh

theorem opV_ex {P : Program} {ops : Array Oper} {i : Nat} {a : Act} {u : World} {K : Value → World → Prop}
    (hh : opV P ops i a u K) : ∃ v w, K v w := by
  unfold opV at hh
  split at hh
  · exact hh.elim
  · split at hh
    · exact outV_ex hh
    · exact ⟨_, _, hh⟩

theorem wpOp_of_opV {P : Program} {ops : Array Oper} {Q : Exit → Act → World → Prop} {i : Nat} {a : Act} {w : World} {K : Act → World → Prop} {Kv : Value → World → Prop}
    (hh : opV P ops i a w Kv) (hK : ∀ v p, Kv v p → K (a.put (dstOf ops i) v) p) : wpOp P ops Q i K a w := by
  unfold opV at hh
  unfold wpOp
  split at hh
  · exact hh.elim
  · rename_i o ho
    have hd : dstOf ops i = o.dst := by simp [dstOf, ho]
    rw [hd] at hK
    simp only [ho]
    split
    · rename_i hw
      simp only [hw, if_true] at hh
      refine .inl ?_
      unfold Oper.wp
      generalize (execOp a.eval o).run P w = r at *
      cases r with
      | ok n w' =>
        cases n <;> simp only [Oper.upon, outV] at hh ⊢
        case value v => exact hK _ _ hh
        case skip => exact hK _ _ hh
        case enter f args => exact Calls.mono hh fun e w he => by cases e <;> first | exact hK _ _ he | exact he.elim
        case row row args => exact Rows.mono hh fun v w he => hK _ _ he
      | halt x w' => exact hh.elim
    · rename_i hw
      simp only [hw] at hh
      exact hK _ _ hh

theorem wpOp_of_runV {P : Program} {ops : Array Oper} {Q : Exit → Act → World → Prop} {i : Nat} {a : Act} {w : World} {K : Act → World → Prop} {v : Value} {p : World}
    (hh : runV P ops i a w = some (v, p)) (hK : K (a.put (dstOf ops i) v) p) : wpOp P ops Q i K a w := by
  refine wpOp_of_opV (Kv := fun v' p' => v' = v ∧ p' = p) ?_ (fun v' p' h => by rw [h.1, h.2]; exact hK)
  unfold runV at hh
  unfold opV
  split at hh
  · cases hh
  · rename_i o ho
    split at hh
    · rename_i hw
      simp only [hw, if_true]
      split at hh <;> rename_i hr
      · rw [hr]; cases hh; exact ⟨rfl, rfl⟩
      · rw [hr]; cases hh; exact ⟨rfl, rfl⟩
      · cases hh
    · rename_i hw
      simp only [hw]
      cases hh
      exact ⟨rfl, rfl⟩

/-! agreement of two frames on what an operation looks at -/

theorem exec_agree {ops : Array Oper} {o : Oper} (hs : ∀ cs b, o.op ≠ .select cs b) {a a' : Act}
    (h : ∀ t ∈ o.looksAt ops, slot a t = slot a' t) : execOp a.eval o = execOp a'.eval o :=
  execOp_congr o hs fun x hx => by
    cases x with
    | tmp t => exact h t (List.mem_append_left _ (List.mem_filterMap.2 ⟨.tmp t, by simpa using hx, rfl⟩))
    | _ => rfl

theorem getElem?_agree {x y : Array Value} {t : Nat} (hsz : x.size = y.size) (h : x.getD t undef = y.getD t undef) : x[t]? = y[t]? := by
  rcases Nat.lt_or_ge t x.size with hl | hl
  · have hl' : t < y.size := hsz ▸ hl
    simp only [Array.getD, hl, hl', dif_pos] at h
    simp only [Array.getElem?_eq_getElem hl, Array.getElem?_eq_getElem hl']
    exact congrArg some h
  · rw [Array.getElem?_eq_none hl, Array.getElem?_eq_none (hsz ▸ hl)]

theorem wanted_agree {ops : Array Oper} {o : Oper} {a a' : Act} (hsz : a.tmps.size = a'.tmps.size)
    (h : ∀ t ∈ o.looksAt ops, slot a t = slot a' t) : Region.wanted o (yielded ops a.tmps) = Region.wanted o (yielded ops a'.tmps) := by
  unfold Region.wanted
  cases hg : o.guard with
  | none => rfl
  | some gw =>
    obtain ⟨g, want⟩ := gw
    have hy : yielded ops a.tmps g = yielded ops a'.tmps g := by
      unfold yielded
      cases ht : (ops[g]?).bind (·.dst) with
      | none => rfl
      | some t =>
        have hm : t ∈ o.looksAt ops := by simp [Oper.looksAt, hg, ht]
        have := getElem?_agree hsz (h t hm)
        simp only [Option.bind_some, this]
    simp only [hy]

section
variable {P : Program} {ops : Array Oper} (hns : Region.noSelect ops = true)
include hns

theorem runV_agree {i : Nat} {a a' : Act} (hsz : a.tmps.size = a'.tmps.size) (h : ∀ t ∈ looks ops i, slot a t = slot a' t) (u : World) :
    runV P ops i a u = runV P ops i a' u := by
  unfold runV
  cases ho : ops[i]? with
  | none => rfl
  | some o =>
    have h' : ∀ t ∈ o.looksAt ops, slot a t = slot a' t := by simpa [looks, ho] using h
    simp only [wanted_agree hsz h', exec_agree (Region.noSelect_spec hns i o · · ho) h']

theorem opV_agree {i : Nat} {a a' : Act} (hsz : a.tmps.size = a'.tmps.size) (h : ∀ t ∈ looks ops i, slot a t = slot a' t) (u : World) (K : Value → World → Prop) :
    opV P ops i a u K = opV P ops i a' u K := by
  unfold opV
  cases ho : ops[i]? with
  | none => rfl
  | some o =>
    have h' : ∀ t ∈ o.looksAt ops, slot a t = slot a' t := by simpa [looks, ho] using h
    simp only [wanted_agree hsz h', exec_agree (Region.noSelect_spec hns i o · · ho) h']
end

theorem slot_put_self {a : Act} {d : Tmp} {v : Value} (h : d < a.tmps.size) : slot (a.put (some d) v) d = v := by
  simp [slot, Act.put, h]
theorem slot_put_ne {a : Act} {d : Option Tmp} {t : Nat} {v : Value} (h : d ≠ some t) : slot (a.put d v) t = slot a t := by
  cases d with
  | none => rfl
  | some d =>
    have hne : d ≠ t := fun e => h (by rw [e])
    simp [slot, Act.put, Array.getElem?_setIfInBounds_ne hne]
theorem size_put (a : Act) (d : Option Tmp) (v : Value) : (a.put d v).tmps.size = a.tmps.size := by cases d <;> simp [Act.put]
theorem defers_put (a : Act) (d : Option Tmp) (v : Value) : (a.put d v).defers = a.defers := by cases d <;> rfl

theorem act_ext {a b : Act} (hsz : a.tmps.size = b.tmps.size) (hd : a.defers = b.defers) (h : ∀ t, slot a t = slot b t) : a = b := by
  obtain ⟨x, dx⟩ := a
  obtain ⟨y, dy⟩ := b
  simp only at hd hsz
  subst hd
  congr 1
  exact Array.ext_getElem? fun t => getElem?_agree hsz (h t)

/-! the static look -/

def maskOf (tbl : List Nat) : List Nat → Nat
  | [] => 0
  | k :: l => (2 ^ k ||| tbl.getD k 0) ||| maskOf tbl l
def anc (tbl : List Nat) (i j : Nat) : Bool := (tbl.getD i 0).testBit j
def mkTbl (ops : Array Oper) : List Nat := (List.range ops.size).foldl (fun tbl i => tbl ++ [maskOf tbl (afters ops i)]) []

def okFrom (ops : Array Oper) (tbl : List Nat) : List (Kind × Nat) → List Nat → Bool
  | [], _ => true
  | (k, i) :: r, done => !done.contains i && decide (i < ops.size) && (afters ops i).all done.contains && (decide (k ≠ .call ∧ k ≠ .tail) || done.all (anc tbl i)) && (decide (k ≠ .tail) || r.all fun s => decide (s.1 = .tail)) && okFrom ops tbl r (i :: done)

def staticOk (ops : Array Oper) (tbl : List Nat) (π : List (Kind × Nat)) (sz : Nat) : Bool :=
  Region.noSelect ops &&
  ((List.range ops.size).all fun i => (afters ops i).all (fun k => decide (k < i)) && (tbl.getD i 0 == maskOf tbl (afters ops i))) &&
  okFrom ops tbl π [] && ((List.range ops.size).all fun i => π.any (fun s => s.2 == i)) &&
  ((List.range ops.size).all fun i => (List.range ops.size).all fun j => i == j || match dstOf ops j with
    | none => true
    | some d => dstOf ops i != some d && (!(looks ops i).contains d || anc tbl i j || anc tbl j i)) &&
  ((List.range ops.size).all fun i => match dstOf ops i with | none => true | some d => decide (d < sz))

theorem anc_maskOf {tbl : List Nat} {j : Nat} : ∀ {l : List Nat}, (maskOf tbl l).testBit j = true → ∃ k ∈ l, j = k ∨ anc tbl k j = true
  | [], h => by simp [maskOf] at h
  | k :: l, h => by
    simp only [maskOf, Nat.testBit_or, Bool.or_eq_true] at h
    rcases h with (h | h) | h
    · exact ⟨k, by simp, .inl (by
        have := Nat.testBit_two_pow (n := k) (m := j)
        rw [this] at h
        exact (of_decide_eq_true h).symm)⟩
    · exact ⟨k, by simp, .inr h⟩
    · obtain ⟨k', hk, h'⟩ := anc_maskOf h
      exact ⟨k', by simp [hk], h'⟩

section
variable (P : Program) (ops : Array Oper) (Q : Exit → Act → World → Prop) (RF RC : World → World → Prop) (w0 : World)

/-- the walk in the fixed order -/
def poW : List (Kind × Nat) → Act → World → Prop
  | [], ac, wc => ∀ w', RF wc w' → Q .normal ac w'
  | (.val, i) :: r, ac, wc => ∃ v, (∀ u, RC w0 u → runV P ops i ac u = some (v, u)) ∧ poW r (ac.put (dstOf ops i) v) wc
  | (.mem, i) :: r, ac, wc => ∀ u, RC w0 u → ∃ v p, runV P ops i ac u = some (v, p) ∧ RF u p ∧ ∀ w', RF wc w' → RC p w' → poW r (ac.put (dstOf ops i) v) w'
  | (.call, i) :: r, ac, wc => ∀ u, RF wc u → opV P ops i ac u fun v p => RC u p ∧ poW r (ac.put (dstOf ops i) v) p
  | (.tail, i) :: r, ac, wc => ∀ u, RF wc u → opV P ops i ac u fun v p => poW r (ac.put (dstOf ops i) v) p

/-- the same with what has been done -/
def G (dn : Nat → Bool) (a : Act) (w : World) : List (Kind × Nat) → Act → World → Prop
  | [], ac, wc => ∀ w', RF wc w' → Q .normal ac w'
  | (.val, i) :: r, ac, wc => ∃ v, (∀ u, RC w0 u → runV P ops i ac u = some (v, u)) ∧ (dn i = true → ∀ d, dstOf ops i = some d → slot a d = v) ∧ G dn a w r (ac.put (dstOf ops i) v) wc
  | (.mem, i) :: r, ac, wc =>
    (dn i = true → ∃ v p, (∀ d, dstOf ops i = some d → slot a d = v) ∧ RC p w ∧ ∀ w', RF wc w' → RC p w' → G dn a w r (ac.put (dstOf ops i) v) w') ∧
    (dn i = false → ∀ u, RC w0 u → ∃ v p, runV P ops i ac u = some (v, p) ∧ RF u p ∧ ∀ w', RF wc w' → RC p w' → G dn a w r (ac.put (dstOf ops i) v) w')
  | (.call, i) :: r, ac, wc => dn i = false ∧ ∀ u, RF wc u → opV P ops i ac u fun v p => RC u p ∧ G dn a w r (ac.put (dstOf ops i) v) p
  | (.tail, i) :: r, ac, wc => dn i = false ∧ ∀ u, RF wc u → opV P ops i ac u fun v p => G dn a w r (ac.put (dstOf ops i) v) p
end

section
variable {P : Program} {ops : Array Oper} {Q : Exit → Act → World → Prop} {RF RC : World → World → Prop} {w0 : World}

theorem G_of_poW (a : Act) (w : World) : ∀ (π : List (Kind × Nat)) (ac : Act) (wc : World), poW P ops Q RF RC w0 π ac wc → G P ops Q RF RC w0 (fun _ => false) a w π ac wc
  | [], _, _, h => h
  | (.val, i) :: r, ac, wc, ⟨v, h1, h2⟩ => ⟨v, h1, fun h => (by cases h), G_of_poW a w r _ _ h2⟩
  | (.mem, i) :: r, ac, wc, h => ⟨fun h => (by cases h), fun _ u hu => by
      obtain ⟨v, p, h1, h2, h3⟩ := h u hu
      exact ⟨v, p, h1, h2, fun w' a1 a2 => G_of_poW a w r _ _ (h3 w' a1 a2)⟩⟩
  | (.call, i) :: r, ac, wc, h => ⟨rfl, fun u hu => opV_mono (fun v p hh => ⟨hh.1, G_of_poW a w r _ _ hh.2⟩) (h u hu)⟩
  | (.tail, i) :: r, ac, wc, h => ⟨rfl, fun u hu => opV_mono (fun v p hh => G_of_poW a w r _ _ hh) (h u hu)⟩

/-- what has been done stays done while other things come -/
theorem G_mono {dn dn' : Nat → Bool} {a a' : Act} {w p : World} (hRC : ∀ x, RC x w → RC x p) :
    ∀ (π : List (Kind × Nat)), (∀ s ∈ π, dn' s.2 = dn s.2) → (∀ s ∈ π, dn s.2 = true → ∀ d, dstOf ops s.2 = some d → slot a' d = slot a d) →
      ∀ (ac : Act) (wc : World), G P ops Q RF RC w0 dn a w π ac wc → G P ops Q RF RC w0 dn' a' p π ac wc
  | [], _, _, _, _, h => h
  | (.val, i) :: r, hd, hs, ac, wc, ⟨v, h1, h2, h3⟩ =>
    have hdi := hd (.val, i) (by simp)
    ⟨v, h1, fun hi d hdd => (hs (.val, i) (by simp) (hdi ▸ hi) d hdd).trans (h2 (hdi ▸ hi) d hdd),
      G_mono hRC r (fun s hm => hd s (by simp [hm])) (fun s hm => hs s (by simp [hm])) _ _ h3⟩
  | (.mem, i) :: r, hd, hs, ac, wc, ⟨h1, h2⟩ =>
    have hdi := hd (.mem, i) (by simp)
    have ih := G_mono hRC r (fun s hm => hd s (by simp [hm])) (fun s hm => hs s (by simp [hm]))
    ⟨fun hi => by
      obtain ⟨v, p', e1, e2, e3⟩ := h1 (hdi ▸ hi)
      exact ⟨v, p', fun d hdd => (hs (.mem, i) (by simp) (hdi ▸ hi) d hdd).trans (e1 d hdd), hRC _ e2, fun w' a1 a2 => ih _ _ (e3 w' a1 a2)⟩,
     fun hi u hu => by
      obtain ⟨v, p', e1, e2, e3⟩ := h2 (hdi ▸ hi) u hu
      exact ⟨v, p', e1, e2, fun w' a1 a2 => ih _ _ (e3 w' a1 a2)⟩⟩
  | (.call, i) :: r, hd, hs, ac, wc, ⟨h1, h2⟩ =>
    have hdi := hd (.call, i) (by simp)
    have ih := G_mono hRC r (fun s hm => hd s (by simp [hm])) (fun s hm => hs s (by simp [hm]))
    ⟨by rw [hdi]; exact h1, fun u hu => opV_mono (fun v p' hh => ⟨hh.1, ih _ _ hh.2⟩) (h2 u hu)⟩
  | (.tail, i) :: r, hd, hs, ac, wc, ⟨h1, h2⟩ =>
    have hdi := hd (.tail, i) (by simp)
    have ih := G_mono hRC r (fun s hm => hd s (by simp [hm])) (fun s hm => hs s (by simp [hm]))
    ⟨by rw [hdi]; exact h1, fun u hu => opV_mono (fun v p' hh => ih _ _ hh) (h2 u hu)⟩

/-- a tail leans on nothing that came before -/
theorem G_tail {w0' : World} {dn dn' : Nat → Bool} {a a' : Act} {w p : World} :
    ∀ (π : List (Kind × Nat)), (∀ s ∈ π, s.1 = .tail) → (∀ s ∈ π, dn' s.2 = false) →
      ∀ (ac : Act) (wc : World), G P ops Q RF RC w0 dn a w π ac wc → G P ops Q RF RC w0' dn' a' p π ac wc
  | [], _, _, _, _, h => h
  | (.tail, i) :: r, ht, hd, ac, wc, ⟨h1, h2⟩ =>
    ⟨hd (.tail, i) (by simp), fun u hu => opV_mono (fun v p' hh => G_tail r (fun s hm => ht s (by simp [hm])) (fun s hm => hd s (by simp [hm])) _ _ hh) (h2 u hu)⟩
  | (.val, i) :: r, ht, _, _, _, _ => absurd (ht (.val, i) (by simp)) (by simp)
  | (.mem, i) :: r, ht, _, _, _, _ => absurd (ht (.mem, i) (by simp)) (by simp)
  | (.call, i) :: r, ht, _, _, _, _ => absurd (ht (.call, i) (by simp)) (by simp)

variable (hF : ∀ x, RF x x) (hFF : ∀ x y z, RF x y → RF y z → RF x z) (hC : ∀ x, RC x x) (hCC : ∀ x y z, RC x y → RC y z → RC x z) (hFC : ∀ x y, RF x y → RC x y)
variable (hns : Region.noSelect ops = true)

include hF in
/-- all that stands ahead is done: pass on to what follows -/
theorem passDone {dn : Nat → Bool} {a : Act} {w : World} (rest : List (Kind × Nat)) : ∀ (π : List (Kind × Nat)), (∀ s ∈ π, dn s.2 = true) →
    ∀ (ac : Act) (wc : World), G P ops Q RF RC w0 dn a w (π ++ rest) ac wc → RF wc w → ac.tmps.size = a.tmps.size → ac.defers = a.defers →
      (∀ i d, dstOf ops i = some d → d < a.tmps.size) →
      (∀ t, (∀ s ∈ π ++ rest, dn s.2 = true → dstOf ops s.2 ≠ some t) → slot ac t = slot a t) →
      ∃ ac' wc', G P ops Q RF RC w0 dn a w rest ac' wc' ∧ RF wc' w ∧ ac'.tmps.size = a.tmps.size ∧ ac'.defers = a.defers ∧
        (∀ t, (∀ s ∈ rest, dn s.2 = true → dstOf ops s.2 ≠ some t) → slot ac' t = slot a t)
  | [], _, ac, wc, h, hw, hz, hd, hb, hg => ⟨ac, wc, h, hw, hz, hd, hg⟩
  | s :: π, hdn, ac, wc, h, hw, hz, hd, hb, hg => by
    have hs := hdn s (by simp)
    have next : ∀ v wc', G P ops Q RF RC w0 dn a w (π ++ rest) (ac.put (dstOf ops s.2) v) wc' → RF wc' w → (∀ d, dstOf ops s.2 = some d → slot a d = v) →
        ∃ ac' wc', G P ops Q RF RC w0 dn a w rest ac' wc' ∧ RF wc' w ∧ ac'.tmps.size = a.tmps.size ∧ ac'.defers = a.defers ∧
          (∀ t, (∀ s ∈ rest, dn s.2 = true → dstOf ops s.2 ≠ some t) → slot ac' t = slot a t) := by
      intro v wc' h' hw' hv
      refine passDone rest π (fun s hm => hdn s (by simp [hm])) _ _ h' hw' (by rw [size_put, hz]) (by rw [defers_put, hd]) hb (fun t ht => ?_)
      by_cases hdt : dstOf ops s.2 = some t
      · rw [hdt, slot_put_self (by rw [hz]; exact hb _ _ hdt), hv t hdt]
      · rw [slot_put_ne hdt]
        refine hg t fun s' hm hdn' => ?_
        rcases List.mem_cons.1 (List.cons_append ▸ hm) with rfl | hm
        · exact hdt
        · exact ht s' hm hdn'
    obtain ⟨k, i⟩ := s
    cases k with
    | val => obtain ⟨v, _, h2, h3⟩ := h; exact next v wc h3 hw (h2 hs)
    | mem =>
      obtain ⟨v, p, e1, e2, e3⟩ := h.1 hs
      exact next v w (e3 w hw e2) (hF w) e1
    | call => exact absurd hs (by rw [h.1]; simp)
    | tail => exact absurd hs (by rw [h.1]; simp)

include hF hFF hC hCC hFC hns in
/-- a floating operation that may come up runs to its end -/
theorem floatRun {dn : Nat → Bool} {a : Act} {w : World} (k : Kind) (i : Nat) (hk : k ≠ .call) (hkt : k ≠ .tail) (hi : dn i = false) (π2 : List (Kind × Nat)) (h0w : RC w0 w)
    (hb : ∀ i d, dstOf ops i = some d → d < a.tmps.size)
    (hpost : ∀ s ∈ π2, dn s.2 = true → ∀ d, dstOf ops s.2 = some d → d ∉ looks ops i) :
    ∀ (π1 : List (Kind × Nat)), (∀ s ∈ π1, s.1 ≠ .tail) → (∀ s ∈ π1, dn s.2 = false → ∀ d, dstOf ops s.2 = some d → d ∉ looks ops i) →
    ∀ (ac : Act) (wc h : World), G P ops Q RF RC w0 dn a w (π1 ++ (k, i) :: π2) ac wc → RF wc h → RC w h → ac.tmps.size = a.tmps.size →
      (∀ t ∈ looks ops i, (∀ s ∈ π1 ++ (k, i) :: π2, dn s.2 = true → dstOf ops s.2 ≠ some t) → slot ac t = slot a t) →
      ∃ v p, runV P ops i a w = some (v, p) ∧ RF w p
  | [], _, _, ac, wc, h, hg, hwh, hch, hz, hag => by
    have hag' : ∀ t ∈ looks ops i, slot ac t = slot a t := fun t ht => hag t ht fun s hm hd => by
      rcases List.mem_cons.1 (by simpa using hm) with rfl | hm
      · exact absurd hd (by simp [hi])
      · exact fun e => hpost s hm hd t e ht
    have hr := runV_agree (P := P) hns hz hag' w
    cases k with
    | val => obtain ⟨v, h1, _, _⟩ := hg; exact ⟨v, w, by rw [← hr]; exact h1 w h0w, hF w⟩
    | mem =>
      obtain ⟨v, p, h1, h2, _⟩ := hg.2 hi w h0w
      exact ⟨v, p, by rw [← hr]; exact h1, h2⟩
    | call => exact absurd rfl hk
    | tail => exact absurd rfl hkt
  | s :: π1, hnt, hno, ac, wc, h, hg, hwh, hch, hz, hag => by
    have next : ∀ v wc' h', G P ops Q RF RC w0 dn a w (π1 ++ (k, i) :: π2) (ac.put (dstOf ops s.2) v) wc' → RF wc' h' → RC w h' → (dn s.2 = true → ∀ d, dstOf ops s.2 = some d → slot a d = v) →
        ∃ v p, runV P ops i a w = some (v, p) ∧ RF w p := by
      intro v wc' h' hg' hw' hc' hv
      refine floatRun k i hk hkt hi π2 h0w hb hpost π1 (fun s hm => hnt s (by simp [hm])) (fun s hm => hno s (by simp [hm])) _ _ h' hg' hw' hc' (by rw [size_put, hz]) (fun t ht hcond => ?_)
      by_cases hdt : dstOf ops s.2 = some t
      · cases hdn : dn s.2 with
        | false => exact absurd ht (hno s (by simp) hdn t hdt)
        | true => rw [hdt, slot_put_self (by rw [hz]; exact hb _ _ hdt), hv hdn t hdt]
      · rw [slot_put_ne hdt]
        refine hag t ht fun s' hm hdn' => ?_
        rcases List.mem_cons.1 (List.cons_append ▸ hm) with rfl | hm
        · exact hdt
        · exact hcond s' hm hdn'
    obtain ⟨k', j⟩ := s
    cases k' with
    | val => obtain ⟨v, _, h2, h3⟩ := hg; exact next v wc h h3 hwh hch h2
    | mem =>
      cases hdj : dn j with
      | true =>
        obtain ⟨v, p, e1, e2, e3⟩ := hg.1 hdj
        exact next v h h (e3 h hwh (hCC _ _ _ e2 hch)) (hF h) hch (fun _ => e1)
      | false =>
        obtain ⟨v, p, e1, e2, e3⟩ := hg.2 hdj h (hCC _ _ _ h0w hch)
        exact next v p p (e3 p (hFF _ _ _ hwh e2) (hC p)) (hF p) (hCC _ _ _ hch (hFC _ _ e2)) (fun hh => by simp only [hdj] at hh; cases hh)
    | call =>
      obtain ⟨v, p, e1, e2⟩ := opV_ex (hg.2 h hwh)
      exact next v p p e2 (hF p) (hCC _ _ _ hch e1) (fun hh => by have := hg.1; simp only [this] at hh; cases hh)
    | tail => exact absurd rfl (hnt (.tail, j) (by simp))

include hC hCC hFC hns in
/-- and all that was shown stands behind it -/
theorem rebuild {dn dn' : Nat → Bool} {a : Act} {w p : World} {v : Value} (k : Kind) (i : Nat) (hk : k ≠ .call) (hkt : k ≠ .tail) (hi : dn i = false) (π2 : List (Kind × Nat)) (h0w : RC w0 w)
    (hb : ∀ i d, dstOf ops i = some d → d < a.tmps.size)
    (hdn : ∀ j, j ≠ i → dn' j = dn j) (hdi : dn' i = true)
    (hdst : ∀ j d, j ≠ i → dstOf ops j = some d → dstOf ops i ≠ some d)
    (hrun : runV P ops i a w = some (v, p)) (hwp : RF w p)
    (hpost : ∀ s ∈ π2, dn s.2 = true → ∀ d, dstOf ops s.2 = some d → d ∉ looks ops i) (hne2 : ∀ s ∈ π2, s.2 ≠ i) :
    ∀ (π1 : List (Kind × Nat)), (∀ s ∈ π1, s.1 ≠ .tail) → (∀ s ∈ π1, s.2 ≠ i) → (∀ s ∈ π1, dn s.2 = false → ∀ d, dstOf ops s.2 = some d → d ∉ looks ops i) →
    ∀ (ac : Act) (wc : World), G P ops Q RF RC w0 dn a w (π1 ++ (k, i) :: π2) ac wc → ac.tmps.size = a.tmps.size →
      (∀ t ∈ looks ops i, (∀ s ∈ π1 ++ (k, i) :: π2, dn s.2 = true → dstOf ops s.2 ≠ some t) → slot ac t = slot a t) →
      G P ops Q RF RC w0 dn' (a.put (dstOf ops i) v) p (π1 ++ (k, i) :: π2) ac wc
  | [], _, _, _, ac, wc, hg, hz, hag => by
    have hag' : ∀ t ∈ looks ops i, slot ac t = slot a t := fun t ht => hag t ht fun s hm hd => by
      rcases List.mem_cons.1 (by simpa using hm) with rfl | hm
      · exact absurd hd (by simp [hi])
      · exact fun e => hpost s hm hd t e ht
    have hr := (runV_agree (P := P) hns hz hag' w).trans hrun
    have hself : ∀ d, dstOf ops i = some d → slot (a.put (dstOf ops i) v) d = v := fun d hd => by rw [hd]; exact slot_put_self (hb _ _ hd)
    have hm : ∀ ac' wc', G P ops Q RF RC w0 dn a w π2 ac' wc' → G P ops Q RF RC w0 dn' (a.put (dstOf ops i) v) p π2 ac' wc' := fun ac' wc' hh =>
      G_mono (fun x hx => hCC _ _ _ hx (hFC _ _ hwp)) π2 (fun s hs => hdn _ (hne2 s hs)) (fun s hs _ d hd => slot_put_ne (hdst _ _ (hne2 s hs) hd)) _ _ hh
    cases k with
    | val =>
      obtain ⟨v0, h1, _, h3⟩ := hg
      have := (h1 w h0w).symm.trans hr
      cases this
      exact ⟨_, h1, fun _ d hd => hself d hd, hm _ _ h3⟩
    | mem =>
      refine ⟨fun _ => ?_, fun hh => by simp only [hdi] at hh; cases hh⟩
      obtain ⟨v0, p0, e1, e2, e3⟩ := hg.2 hi w h0w
      have := e1.symm.trans hr
      cases this
      exact ⟨_, _, hself, hC _, fun w' a1 a2 => hm _ _ (e3 w' a1 a2)⟩
    | call => exact absurd rfl hk
    | tail => exact absurd rfl hkt
  | s :: π1, hnt, hne, hno, ac, wc, hg, hz, hag => by
    have hnes := hne s (by simp)
    have hds := hdn _ hnes
    have hsl : ∀ d, dstOf ops s.2 = some d → slot (a.put (dstOf ops i) v) d = slot a d := fun d hd => slot_put_ne (hdst _ _ hnes hd)
    have next : ∀ v' wc', G P ops Q RF RC w0 dn a w (π1 ++ (k, i) :: π2) (ac.put (dstOf ops s.2) v') wc' → (dn s.2 = true → ∀ d, dstOf ops s.2 = some d → slot a d = v') →
        G P ops Q RF RC w0 dn' (a.put (dstOf ops i) v) p (π1 ++ (k, i) :: π2) (ac.put (dstOf ops s.2) v') wc' := by
      intro v' wc' hg' hv
      refine rebuild k i hk hkt hi π2 h0w hb hdn hdi hdst hrun hwp hpost hne2 π1 (fun s hm => hnt s (by simp [hm])) (fun s hm => hne s (by simp [hm])) (fun s hm => hno s (by simp [hm])) _ _ hg' (by rw [size_put, hz]) (fun t ht hcond => ?_)
      by_cases hdt : dstOf ops s.2 = some t
      · cases hdn : dn s.2 with
        | false => exact absurd ht (hno s (by simp) hdn t hdt)
        | true => rw [hdt, slot_put_self (by rw [hz]; exact hb _ _ hdt), hv hdn t hdt]
      · rw [slot_put_ne hdt]
        refine hag t ht fun s' hm hdn' => ?_
        rcases List.mem_cons.1 (List.cons_append ▸ hm) with rfl | hm
        · exact hdt
        · exact hcond s' hm hdn'
    obtain ⟨k', j⟩ := s
    cases k' with
    | val =>
      obtain ⟨v', h1, h2, h3⟩ := hg
      exact ⟨v', h1, fun hh d hd => (hsl d hd).trans (h2 (hds ▸ hh) d hd), next v' wc h3 h2⟩
    | mem =>
      refine ⟨fun hh => ?_, fun hh u hu => ?_⟩
      · obtain ⟨v', p', e1, e2, e3⟩ := hg.1 (hds ▸ hh)
        exact ⟨v', p', fun d hd => (hsl d hd).trans (e1 d hd), hCC _ _ _ e2 (hFC _ _ hwp), fun w' a1 a2 => next v' w' (e3 w' a1 a2) (fun _ => e1)⟩
      · obtain ⟨v', p', e1, e2, e3⟩ := hg.2 (hds ▸ hh) u hu
        have hf : dn j = false := hds ▸ hh
        exact ⟨v', p', e1, e2, fun w' a1 a2 => next v' w' (e3 w' a1 a2) (fun h' => by simp only [hf] at h'; cases h')⟩
    | call =>
      have hf : dn j = false := hg.1
      exact ⟨by rw [hds]; exact hf, fun u hu => opV_mono (fun v' p' hh => ⟨hh.1, next v' p' hh.2 (fun h' => by simp only [hf] at h'; cases h')⟩) (hg.2 u hu)⟩
    | tail => exact absurd rfl (hnt (.tail, j) (by simp))

/-- the static facts, as propositions -/
structure Static (ops : Array Oper) (an : Nat → Nat → Bool) (sz : Nat) : Prop where
  lt : ∀ i, i < ops.size → ∀ k ∈ afters ops i, k < i
  step : ∀ i j, i < ops.size → an i j = true → ∃ k ∈ afters ops i, j = k ∨ an k j = true
  apart : ∀ i j d, i < ops.size → j < ops.size → i ≠ j → dstOf ops j = some d → dstOf ops i ≠ some d ∧ (d ∈ looks ops i → an i j = true ∨ an j i = true)
  bound : ∀ i d, dstOf ops i = some d → d < sz

theorem dstOf_lt {i : Nat} {d : Tmp} (h : dstOf ops i = some d) : i < ops.size := by
  rcases Nat.lt_or_ge i ops.size with hl | hl
  · exact hl
  · simp [dstOf, Array.getElem?_eq_none hl] at h

theorem anc_done {an : Nat → Nat → Bool} {sz : Nat} (S : Static ops an sz) {dn : Nat → Bool} (hcl : ∀ i, i < ops.size → dn i = true → ∀ k ∈ afters ops i, dn k = true) :
    ∀ (n i : Nat), i < n → i < ops.size → (∀ k ∈ afters ops i, dn k = true) → ∀ j, an i j = true → dn j = true
  | 0, i, h, _, _, _, _ => by omega
  | n + 1, i, h, hi, ha, j, hj => by
    obtain ⟨k, hk, rfl | hk'⟩ := S.step i j hi hj
    · exact ha _ hk
    · have := S.lt i hi k hk
      exact anc_done S hcl n k (by omega) (by omega) (hcl k (by omega) (ha k hk)) j hk'

def Ord (ops : Array Oper) (an : Nat → Nat → Bool) : List (Kind × Nat) → List Nat → Prop
  | [], _ => True
  | (k, i) :: r, done => i ∉ done ∧ i < ops.size ∧ (∀ j ∈ afters ops i, j ∈ done) ∧ ((k = .call ∨ k = .tail) → ∀ j ∈ done, an i j = true) ∧ (k = .tail → ∀ s ∈ r, s.1 = .tail) ∧ Ord ops an r (i :: done)

theorem ord_of {tbl : List Nat} : ∀ {π : List (Kind × Nat)} {done : List Nat}, okFrom ops tbl π done = true → Ord ops (anc tbl) π done
  | [], _, _ => trivial
  | (k, i) :: r, done, h => by
    simp only [okFrom, Bool.and_eq_true, Bool.not_eq_true', decide_eq_true_eq, Bool.or_eq_true] at h
    obtain ⟨⟨⟨⟨⟨h1, h2⟩, h3⟩, h4⟩, h6⟩, h5⟩ := h
    refine ⟨by simpa using h1, h2, fun j hj => by simpa using List.all_eq_true.1 h3 j hj, fun hk j hj => ?_, fun hk s hs => ?_, ord_of h5⟩
    · rcases h4 with h4 | h4
      · rcases hk with hk | hk
        · exact absurd hk h4.1
        · exact absurd hk h4.2
      · exact List.all_eq_true.1 h4 j hj
    · rcases h6 with h6 | h6
      · exact absurd hk h6
      · exact of_decide_eq_true (List.all_eq_true.1 h6 s hs)

theorem Ord.split {an : Nat → Nat → Bool} : ∀ {π1 : List (Kind × Nat)} {rest : List (Kind × Nat)} {done : List Nat}, Ord ops an (π1 ++ rest) done →
    Ord ops an rest ((π1.map (·.2)).reverse ++ done)
  | [], _, _, h => by simpa using h
  | (k, i) :: π1, rest, done, h => by
    have := Ord.split (π1 := π1) (rest := rest) (done := i :: done) h.2.2.2.2.2
    simpa using this

theorem Ord.notMem {an : Nat → Nat → Bool} : ∀ {π : List (Kind × Nat)} {done : List Nat}, Ord ops an π done → ∀ s ∈ π, s.2 ∉ done
  | [], _, _, s, hs => by cases hs
  | (k, i) :: r, done, h, s, hs => by
    rcases List.mem_cons.1 hs with rfl | hs
    · exact h.1
    · exact fun hm => Ord.notMem h.2.2.2.2.2 s hs (List.mem_cons_of_mem _ hm)

theorem Ord.lt {an : Nat → Nat → Bool} : ∀ {π : List (Kind × Nat)} {done : List Nat}, Ord ops an π done → ∀ s ∈ π, s.2 < ops.size
  | [], _, _, s, hs => by cases hs
  | (k, i) :: r, done, h, s, hs => by
    rcases List.mem_cons.1 hs with rfl | hs
    · exact h.2.1
    · exact Ord.lt h.2.2.2.2.2 s hs

def isDone (listed : Array Bool) (i : Nat) : Bool := listed.getD i false

theorem isDone_set {listed : Array Bool} {i : Nat} (h : i < listed.size) : isDone (listed.setIfInBounds i true) i = true := by simp [isDone, h]
theorem isDone_set_ne {listed : Array Bool} {i j : Nat} (h : j ≠ i) : isDone (listed.setIfInBounds i true) j = isDone listed j :=
  getD_set_ne false (Ne.symm h)

theorem count_set {listed : Array Bool} {i : Nat} (hi : isDone listed i = false) (hl : i < listed.size) :
    ∀ (π : List (Kind × Nat)), ((π.filter fun s => !isDone (listed.setIfInBounds i true) s.2).length ≤ (π.filter fun s => !isDone listed s.2).length) ∧
      ((∃ s ∈ π, s.2 = i) → (π.filter fun s => !isDone (listed.setIfInBounds i true) s.2).length + 1 ≤ (π.filter fun s => !isDone listed s.2).length)
  | [] => ⟨by simp, fun ⟨s, hs, _⟩ => by cases hs⟩
  | s :: π => by
    obtain ⟨h1, h2⟩ := count_set hi hl π
    by_cases hs : s.2 = i
    · have e1 : isDone (listed.setIfInBounds i true) s.2 = true := by rw [hs]; exact isDone_set hl
      have e2 : isDone listed s.2 = false := by rw [hs]; exact hi
      simp only [List.filter_cons, e1, e2]
      exact ⟨by simp; omega, fun _ => by simp; omega⟩
    · have e1 := isDone_set_ne (listed := listed) hs
      simp only [List.filter_cons, e1]
      refine ⟨by (split <;> (try simp only [List.length_cons])) <;> omega, fun ⟨s', hm, hs'⟩ => ?_⟩
      rcases List.mem_cons.1 hm with rfl | hm
      · exact absurd hs' hs
      · have := h2 ⟨s', hm, hs'⟩
        (split <;> (try simp only [List.length_cons])) <;> omega

theorem split_at {i : Nat} : ∀ {π : List (Kind × Nat)}, (∃ s ∈ π, s.2 = i) → ∃ π1 k π2, π = π1 ++ (k, i) :: π2 ∧ ∀ s ∈ π1, s.2 ≠ i
  | [], ⟨s, hs, _⟩ => by cases hs
  | s :: π, ⟨s', hm, hs'⟩ => by
    by_cases hs : s.2 = i
    · exact ⟨[], s.1, π, by rw [← hs]; rfl, fun s hs => by cases hs⟩
    · have : ∃ s ∈ π, s.2 = i := by
        rcases List.mem_cons.1 hm with rfl | hm
        · exact absurd hs' hs
        · exact ⟨s', hm, hs'⟩
      obtain ⟨π1, k, π2, rfl, h⟩ := split_at this
      exact ⟨s :: π1, k, π2, rfl, fun s'' hm => by
        rcases List.mem_cons.1 hm with rfl | hm
        · exact hs
        · exact h s'' hm⟩

/-- if nothing is ready all is done -/
theorem all_done {an : Nat → Nat → Bool} {listed : Array Bool} (hlz : listed.size = ops.size) (hr : Region.ready .any ops listed = []) :
    ∀ (π : List (Kind × Nat)) (done : List Nat), Ord ops an π done → (∀ j ∈ done, isDone listed j = true) → ∀ s ∈ π, isDone listed s.2 = true
  | [], _, _, _, s, hs => by cases hs
  | (k, i) :: r, done, ho, hd, s, hs => by
    have hi : isDone listed i = true := by
      cases hdi : isDone listed i with
      | true => rfl
      | false =>
        exfalso
        have hlt : i < listed.size := by rw [hlz]; exact ho.2.1
        have : i ∈ Region.ready .any ops listed := by
          rw [mem_ready]
          refine ⟨?_, ops[i]'ho.2.1, by simp [ho.2.1], fun e he hb => ?_⟩
          · simp only [isDone, Array.getD, hlt, dif_pos] at hdi ⊢
            exact hdi
          · refine hd e.on (ho.2.2.1 e.on ?_)
            have hoi : ops[i]? = some (ops[i]'ho.2.1) := by simp [ho.2.1]
            simp only [afters, hoi, List.mem_map, List.mem_filter]
            exact ⟨e, ⟨by simpa using he, hb⟩, rfl⟩
        rw [hr] at this
        cases this
    rcases List.mem_cons.1 hs with rfl | hs
    · exact hi
    · exact all_done hlz hr r (i :: done) ho.2.2.2.2.2 (fun j hj => by
        rcases List.mem_cons.1 hj with rfl | hj
        · exact hi
        · exact hd j hj) s hs

theorem anc_mem {an : Nat → Nat → Bool} {sz : Nat} (S : Static ops an sz) {M : List Nat} (hM : ∀ j ∈ M, j < ops.size) (hcl : ∀ j ∈ M, ∀ k ∈ afters ops j, k ∈ M) :
    ∀ (n i : Nat), i < n → i < ops.size → (∀ k ∈ afters ops i, k ∈ M) → ∀ j, an i j = true → j ∈ M
  | 0, i, h, _, _, _, _ => by omega
  | n + 1, i, h, hi, ha, j, hj => by
    obtain ⟨k, hk, rfl | hk'⟩ := S.step i j hi hj
    · exact ha _ hk
    · have := S.lt i hi k hk
      exact anc_mem S hM hcl n k (by omega) (by omega) (hcl k (ha k hk)) j hk'

theorem Ord.closed {an : Nat → Nat → Bool} : ∀ {π1 : List (Kind × Nat)} {rest : List (Kind × Nat)} {done : List Nat}, Ord ops an (π1 ++ rest) done →
    (∀ j ∈ done, j < ops.size ∧ ∀ k ∈ afters ops j, k ∈ done) → ∀ j ∈ (π1.map (·.2)).reverse ++ done, j < ops.size ∧ ∀ k ∈ afters ops j, k ∈ (π1.map (·.2)).reverse ++ done
  | [], _, _, _, h => by simpa using h
  | (k, i) :: π1, rest, done, hO, h => by
    have h' : ∀ j ∈ i :: done, j < ops.size ∧ ∀ k ∈ afters ops j, k ∈ i :: done := by
      intro j hj
      rcases List.mem_cons.1 hj with rfl | hj
      · exact ⟨hO.2.1, fun k hk => List.mem_cons_of_mem _ (hO.2.2.1 k hk)⟩
      · exact ⟨(h j hj).1, fun k hk => List.mem_cons_of_mem _ ((h j hj).2 k hk)⟩
    have := Ord.closed (π1 := π1) (rest := rest) hO.2.2.2.2.2 h'
    simpa using this

/-- an ancestor of what stands in the order stands ahead of it -/
theorem ancAhead {an : Nat → Nat → Bool} {sz : Nat} (S : Static ops an sz) {k : Kind} {i : Nat} {π1 π2 : List (Kind × Nat)} {done : List Nat} (hO : Ord ops an (π1 ++ (k, i) :: π2) done)
    (hcl : ∀ j ∈ done, j < ops.size ∧ ∀ k ∈ afters ops j, k ∈ done)
    {j : Nat} (hj : an i j = true) : (∃ s' ∈ π1, s'.2 = j) ∨ j ∈ done := by
  have hc := Ord.closed hO hcl
  have h2 := Ord.split hO
  have := anc_mem S (fun j hj => (hc j hj).1) (fun j hj => (hc j hj).2) (i + 1) i (by omega) h2.2.1 h2.2.2.1 j hj
  simpa only [List.mem_append, List.mem_reverse, List.mem_map] using this

theorem ancAhead' {an : Nat → Nat → Bool} {sz : Nat} (S : Static ops an sz) {π1 : List (Kind × Nat)} {rest : List (Kind × Nat)} {done : List Nat} (hO : Ord ops an (π1 ++ rest) done)
    (hcl : ∀ j ∈ done, j < ops.size ∧ ∀ k ∈ afters ops j, k ∈ done)
    {s : Kind × Nat} (hs : s ∈ π1) {j : Nat} (hj : an s.2 j = true) : (∃ s' ∈ π1, s'.2 = j) ∨ j ∈ done := by
  obtain ⟨p1, p2, rfl⟩ := List.append_of_mem hs
  have hO' : Ord ops an (p1 ++ (s.1, s.2) :: (p2 ++ rest)) done := by simpa using hO
  rcases ancAhead S hO' hcl hj with ⟨s', h1, h2⟩ | h
  · exact .inl ⟨s', by simp [h1], h2⟩
  · exact .inr h

def upTo (n k : Nat) : Array Bool := ((List.range n).map fun i => decide (i < k)).toArray
theorem upTo_size (n k : Nat) : (upTo n k).size = n := by simp [upTo]
theorem isDone_upTo {n k i : Nat} (h : i < n) : isDone (upTo n k) i = decide (i < k) := by
  simp [isDone, upTo, Array.getD, h]
theorem upTo_ext {listed : Array Bool} {n k : Nat} (hs : listed.size = n) (h : ∀ i, i < n → isDone listed i = decide (i < k)) : listed = upTo n k := by
  apply Array.ext
  · rw [hs, upTo_size]
  · intro i h1 h2
    have := h i (by omega)
    simp only [isDone, Array.getD, h1, dif_pos] at this
    rw [show listed[i] = decide (i < k) from this]
    simp [upTo]
theorem upTo_set {n k : Nat} (h : k < n) : (upTo n k).setIfInBounds k true = upTo n (k + 1) := by
  apply upTo_ext
  · simp [upTo_size]
  · intro i hi
    by_cases hik : i = k
    · subst hik
      rw [isDone_set (by rw [upTo_size]; exact hi)]
      simp
    · rw [isDone_set_ne hik, isDone_upTo hi]
      by_cases h1 : i < k
      · simp [h1]; omega
      · simp [h1]; omega
end
/-- the first k operations are done: what is left -/
def Up (P : Program) (ops : Array Oper) (Q : Exit → Act → World → Prop) (k : Nat) (a : Act) (w : World) : Prop := ∀ fuel, ops.size - k ≤ fuel → wpAny P .any ops Q fuel (upTo ops.size k) a w
section
variable {P : Program} {ops : Array Oper} {Q : Exit → Act → World → Prop} {RF RC : World → World → Prop} {w0 : World}
variable (hF : ∀ x, RF x x) (hFF : ∀ x y z, RF x y → RF y z → RF x z) (hC : ∀ x, RC x x) (hCC : ∀ x y z, RC x y → RC y z → RC x z) (hFC : ∀ x y, RF x y → RC x y)
variable (hns : Region.noSelect ops = true)

include hF hFF hC hCC hFC hns in
theorem po_main {Q' : Exit → Act → World → Prop} {k2 : Nat} (hk2 : k2 ≤ ops.size) (K : ∀ ac w', Q .normal ac w' → Up P ops Q' k2 ac w') {an : Nat → Nat → Bool} {sz : Nat} (S : Static ops an sz) : ∀ (fuel : Nat) (w0 : World) (π : List (Kind × Nat)) (pre : List Nat) (ac : Act) (wc : World) (listed : Array Bool) (a : Act) (w : World),
    G P ops Q RF RC w0 (isDone listed) a w π ac wc → RF wc w → RC w0 w → Ord ops an π pre → (∀ j ∈ pre, j < ops.size ∧ ∀ k ∈ afters ops j, k ∈ pre) → (∀ j ∈ pre, isDone listed j = true) →
    (∀ i, i < k2 → i ∈ pre ∨ ∃ s ∈ π, s.2 = i) → (∀ i, k2 ≤ i → i < ops.size → isDone listed i = false ∧ ∀ s ∈ π, an i s.2 = true) → (∀ i, i < ops.size → isDone listed i = true → ∀ k ∈ afters ops i, isDone listed k = true) →
    listed.size = ops.size → a.tmps.size = sz → ac.tmps.size = sz → ac.defers = a.defers →
    (∀ t, (∀ s ∈ π, isDone listed s.2 = true → dstOf ops s.2 ≠ some t) → slot ac t = slot a t) →
    (π.filter fun s => !isDone listed s.2).length + (ops.size - k2) ≤ fuel → wpAny P .any ops Q' fuel listed a w := by
  intro fuel
  have finish : ∀ (fuel : Nat) (w0 : World) (π : List (Kind × Nat)) (pre : List Nat) (ac : Act) (wc : World) (listed : Array Bool) (a : Act) (w : World),
      G P ops Q RF RC w0 (isDone listed) a w π ac wc → RF wc w → (∀ j ∈ pre, isDone listed j = true) →
      (∀ i, i < k2 → i ∈ pre ∨ ∃ s ∈ π, s.2 = i) → (∀ i, k2 ≤ i → i < ops.size → isDone listed i = false ∧ ∀ s ∈ π, an i s.2 = true) →
      listed.size = ops.size → a.tmps.size = sz → ac.tmps.size = sz → ac.defers = a.defers →
      (∀ t, (∀ s ∈ π, isDone listed s.2 = true → dstOf ops s.2 ≠ some t) → slot ac t = slot a t) →
      (ops.size - k2) ≤ fuel → (∀ s ∈ π, isDone listed s.2 = true) → wpAny P .any ops Q' fuel listed a w := by
    intro fuel w0 π pre ac wc listed a w hG hRF hpre hall hlat hlz haz hacz hdf hag hcnt hd
    obtain ⟨ac', wc', h1, h2, h3, h4, h5⟩ := passDone hF [] π hd ac wc (by rw [List.append_nil]; exact hG) hRF (by rw [hacz, haz]) hdf (fun i d h => by rw [haz]; exact S.bound i d h) (by rw [List.append_nil]; exact hag)
    have : ac' = a := act_ext h3 h4 fun t => h5 t fun s hs => by cases hs
    have hl : listed = upTo ops.size k2 := by
      apply upTo_ext hlz
      intro i hi
      by_cases hik : i < k2
      · rw [decide_eq_true hik]
        rcases hall i hik with h | ⟨s, hs, rfl⟩
        · exact hpre i h
        · exact hd s hs
      · rw [decide_eq_false hik]
        exact (hlat i (by omega) hi).1
    rw [hl, ← this]
    exact K _ _ (h1 w h2) fuel hcnt
  induction fuel with
  | zero =>
    intro w0 π pre ac wc listed a w hG hRF h0w hOrd hpc hpre hall hlat hcl hlz haz hacz hdf hag hcnt
    refine finish 0 w0 π pre ac wc listed a w hG hRF hpre hall hlat hlz haz hacz hdf hag (by omega) fun s hs => ?_
    have : (π.filter fun s => !isDone listed s.2) = [] := List.eq_nil_of_length_eq_zero (by omega)
    have := List.filter_eq_nil_iff.1 this s hs
    simpa using this
  | succ fuel ih =>
    intro w0 π pre ac wc listed a w hG hRF h0w hOrd hpc hpre hall hlat hcl hlz haz hacz hdf hag hcnt
    by_cases hd : ∀ s ∈ π, isDone listed s.2 = true
    · exact finish (fuel + 1) w0 π pre ac wc listed a w hG hRF hpre hall hlat hlz haz hacz hdf hag (by omega) hd
    refine ⟨fun hr => absurd (all_done hlz hr π pre hOrd hpre) hd, fun i hi => ?_⟩
    obtain ⟨hl1, o, ho, hall'⟩ := mem_ready.1 hi
    have hlt : i < ops.size := (Array.getElem?_eq_some_iff.1 ho).1
    have hlt' : i < listed.size := by omega
    have hdi : isDone listed i = false := by
      simp only [isDone, Array.getD, hlt', dif_pos] at hl1 ⊢
      exact hl1
    have haf : ∀ k ∈ afters ops i, isDone listed k = true := by
      intro k hk
      simp only [afters, ho, List.mem_map, List.mem_filter] at hk
      obtain ⟨e, ⟨he, hb⟩, rfl⟩ := hk
      exact hall' e (by simpa using he) hb
    have hanc := anc_done S hcl (i + 1) i (by omega) hlt haf
    have hnd : ∀ j, j < ops.size → isDone listed j = true → an j i = true → False := fun j hj hdj hji => by
      have := anc_done S hcl (j + 1) j (by omega) hj (hcl j hj hdj) i hji
      rw [hdi] at this
      cases this
    have hik : i < k2 := by
      rcases Nat.lt_or_ge i k2 with h | h
      · exact h
      · exact absurd (fun s hs => hanc s.2 ((hlat i h hlt).2 s hs)) hd
    have hlat' : ∀ (π' : List (Kind × Nat)), (∀ s ∈ π', s ∈ π) → ∀ j, k2 ≤ j → j < ops.size → isDone (listed.setIfInBounds i true) j = false ∧ ∀ s ∈ π', an j s.2 = true := fun π' hπ j hj hjs => by
      rw [isDone_set_ne (by omega)]
      exact ⟨(hlat j hj hjs).1, fun s hs => (hlat j hj hjs).2 s (hπ s hs)⟩
    have hex : ∃ s ∈ π, s.2 = i := by
      rcases hall i hik with h | h
      · have := hpre i h; rw [hdi] at this; cases this
      · exact h
    obtain ⟨π1, k, π2, rfl, hne1⟩ := split_at hex
    have hO2 := Ord.split hOrd
    have hne2 : ∀ s ∈ π2, s.2 ≠ i := fun s hs e => Ord.notMem hO2.2.2.2.2.2 s hs (by rw [e]; simp)
    have hlt1 : ∀ s ∈ π1, s.2 < ops.size := fun s hs => Ord.lt hOrd s (by simp [hs])
    have hlt2 : ∀ s ∈ π2, s.2 < ops.size := fun s hs => Ord.lt hOrd s (by simp [hs])
    have hdst : ∀ j d, j ≠ i → dstOf ops j = some d → dstOf ops i ≠ some d := fun j d hj hd => (S.apart i j d hlt (dstOf_lt hd) (Ne.symm hj) hd).1
    have hcl' : ∀ j, j < ops.size → isDone (listed.setIfInBounds i true) j = true → ∀ k ∈ afters ops j, isDone (listed.setIfInBounds i true) k = true := by
      intro j hj hdj k' hk'
      by_cases hki : k' = i
      · rw [hki]; exact isDone_set hlt'
      · rw [isDone_set_ne hki]
        by_cases hji : j = i
        · subst hji; exact haf k' hk'
        · rw [isDone_set_ne hji] at hdj
          exact hcl j hj hdj k' hk'
    have hpost : ∀ s ∈ π2, isDone listed s.2 = true → ∀ d, dstOf ops s.2 = some d → d ∉ looks ops i := by
      intro s hs hds d hd hm
      rcases (S.apart i s.2 d hlt (hlt2 s hs) (Ne.symm (hne2 s hs)) hd).2 hm with h | h
      · obtain ⟨k', hk', hh⟩ := S.step i s.2 hlt h
        -- an ancestor of i stands ahead of it
        exact absurd (ancAhead S hOrd hpc h) (by
          intro hmem
          exact Ord.notMem hO2.2.2.2.2.2 s hs (by
            rcases hmem with hmem | hmem
            · exact List.mem_cons_of_mem _ (by simp only [List.mem_append, List.mem_reverse, List.mem_map]; exact .inl hmem)
            · exact List.mem_cons_of_mem _ (List.mem_append_right _ hmem)))
      · exact hnd s.2 (hlt2 s hs) hds h
    by_cases hk : k = .call
    · subst hk
      have hd1 : ∀ s ∈ π1, isDone listed s.2 = true := fun s hs => hanc s.2 (hO2.2.2.2.1 (.inl rfl) s.2 (by simp only [List.mem_append, List.mem_reverse, List.mem_map]; exact .inl ⟨s, hs, rfl⟩))
      obtain ⟨ac', wc', g1, g2, g3, g4, g5⟩ := passDone hF _ π1 hd1 ac wc hG hRF (by rw [hacz, haz]) hdf (fun i d h => by rw [haz]; exact S.bound i d h) hag
      have hag' : ∀ t ∈ looks ops i, slot ac' t = slot a t := fun t ht => g5 t fun s hs hds e => by
        rcases List.mem_cons.1 hs with rfl | hs
        · simp only [hdi] at hds; cases hds
        · exact hpost s hs hds t e ht
      have h1 := g1.2 w g2
      rw [opV_agree hns g3 hag'] at h1
      refine wpOp_of_opV h1 fun v p hvp => ?_
      refine ih w0 π2 (i :: ((π1.map (·.2)).reverse ++ pre)) (ac'.put (dstOf ops i) v) p (listed.setIfInBounds i true) _ p ?_ (hF p) (hCC _ _ _ h0w hvp.1) hO2.2.2.2.2.2 ?_ ?_ ?_ (hlat' π2 fun s hs => by simp [hs]) hcl' (by simpa using hlz) (by rw [size_put, haz]) (by rw [size_put, g3, haz]) (by rw [defers_put, defers_put, g4]) ?_ ?_
      · exact G_mono (fun x hx => hCC _ _ _ hx hvp.1) π2 (fun s hs => isDone_set_ne (hne2 s hs)) (fun s hs _ d hd => slot_put_ne (hdst _ _ (hne2 s hs) hd)) _ _ hvp.2
      · have := Ord.closed (π1 := π1 ++ [(Kind.call, i)]) (rest := π2) (by simpa using hOrd) hpc
        simpa using this
      · intro j hj
        by_cases hji : j = i
        · rw [hji]; exact isDone_set hlt'
        · rw [isDone_set_ne hji]
          rcases List.mem_cons.1 hj with h | h
          · exact absurd h hji
          · simp only [List.mem_append, List.mem_reverse, List.mem_map] at h
            rcases h with ⟨s, hs, rfl⟩ | h
            · exact hd1 s hs
            · exact hpre j h
      · intro j hj
        rcases hall j hj with h | ⟨s, hs, rfl⟩
        · exact .inl (List.mem_cons_of_mem _ (List.mem_append_right _ h))
        · rcases List.mem_append.1 hs with hs | hs
          · exact .inl (List.mem_cons_of_mem _ (by simp only [List.mem_append, List.mem_reverse, List.mem_map]; exact .inl ⟨s, hs, rfl⟩))
          · rcases List.mem_cons.1 hs with rfl | hs
            · exact .inl (by simp)
            · exact .inr ⟨s, hs, rfl⟩
      · intro t ht
        by_cases hdt : dstOf ops i = some t
        · rw [hdt, slot_put_self (by rw [g3, haz]; exact S.bound _ _ hdt), slot_put_self (by rw [haz]; exact S.bound _ _ hdt)]
        · rw [slot_put_ne hdt, slot_put_ne hdt]
          refine g5 t fun s hs hds => ?_
          rcases List.mem_cons.1 hs with rfl | hs
          · exact hdt
          · exact ht s hs (by rw [isDone_set_ne (hne2 s hs)]; exact hds)
      · have hc := (count_set hdi hlt' π2).1
        have : ((π1 ++ (Kind.call, i) :: π2).filter fun s => !isDone listed s.2).length = (π1.filter fun s => !isDone listed s.2).length + ((π2.filter fun s => !isDone listed s.2).length + 1) := by
          simp [List.filter_append, List.filter_cons, hdi]
        omega
    · by_cases hkt : k = .tail
      · subst hkt
        have hd1 : ∀ s ∈ π1, isDone listed s.2 = true := fun s hs => hanc s.2 (hO2.2.2.2.1 (.inr rfl) s.2 (by simp only [List.mem_append, List.mem_reverse, List.mem_map]; exact .inl ⟨s, hs, rfl⟩))
        obtain ⟨ac', wc', g1, g2, g3, g4, g5⟩ := passDone hF _ π1 hd1 ac wc hG hRF (by rw [hacz, haz]) hdf (fun i d h => by rw [haz]; exact S.bound i d h) hag
        have hag' : ∀ t ∈ looks ops i, slot ac' t = slot a t := fun t ht => g5 t fun s hs hds e => by
          rcases List.mem_cons.1 hs with rfl | hs
          · simp only [hdi] at hds; cases hds
          · exact hpost s hs hds t e ht
        have h1 := g1.2 w g2
        rw [opV_agree hns g3 hag'] at h1
        refine wpOp_of_opV h1 fun v p hvp => ?_
        refine ih p π2 (i :: ((π1.map (·.2)).reverse ++ pre)) (ac'.put (dstOf ops i) v) p (listed.setIfInBounds i true) _ p ?_ (hF p) (hC p) hO2.2.2.2.2.2 ?_ ?_ ?_ (hlat' π2 fun s hs => by simp [hs]) hcl' (by simpa using hlz) (by rw [size_put, haz]) (by rw [size_put, g3, haz]) (by rw [defers_put, defers_put, g4]) ?_ ?_
        · refine G_tail π2 (hO2.2.2.2.2.1 rfl) (fun s hs => ?_) _ _ hvp
          rw [isDone_set_ne (hne2 s hs)]
          cases hds : isDone listed s.2 with
          | false => rfl
          | true =>
            have hsk := hO2.2.2.2.2.1 rfl s hs
            obtain ⟨q1, q2, rfl⟩ := List.append_of_mem hs
            have hO3 := Ord.split (π1 := π1 ++ (Kind.tail, i) :: q1) (rest := s :: q2) (by simpa using hOrd)
            have := hO3.2.2.2.1 (.inr hsk) i (by simp)
            exact (hnd s.2 (hlt2 s hs) hds this).elim
        · have := Ord.closed (π1 := π1 ++ [(Kind.tail, i)]) (rest := π2) (by simpa using hOrd) hpc
          simpa using this
        · intro j hj
          by_cases hji : j = i
          · rw [hji]; exact isDone_set hlt'
          · rw [isDone_set_ne hji]
            rcases List.mem_cons.1 hj with h | h
            · exact absurd h hji
            · simp only [List.mem_append, List.mem_reverse, List.mem_map] at h
              rcases h with ⟨s, hs, rfl⟩ | h
              · exact hd1 s hs
              · exact hpre j h
        · intro j hj
          rcases hall j hj with h | ⟨s, hs, rfl⟩
          · exact .inl (List.mem_cons_of_mem _ (List.mem_append_right _ h))
          · rcases List.mem_append.1 hs with hs | hs
            · exact .inl (List.mem_cons_of_mem _ (by simp only [List.mem_append, List.mem_reverse, List.mem_map]; exact .inl ⟨s, hs, rfl⟩))
            · rcases List.mem_cons.1 hs with rfl | hs
              · exact .inl (by simp)
              · exact .inr ⟨s, hs, rfl⟩
        · intro t ht
          by_cases hdt : dstOf ops i = some t
          · rw [hdt, slot_put_self (by rw [g3, haz]; exact S.bound _ _ hdt), slot_put_self (by rw [haz]; exact S.bound _ _ hdt)]
          · rw [slot_put_ne hdt, slot_put_ne hdt]
            refine g5 t fun s hs hds => ?_
            rcases List.mem_cons.1 hs with rfl | hs
            · exact hdt
            · exact ht s hs (by rw [isDone_set_ne (hne2 s hs)]; exact hds)
        · have hc := (count_set hdi hlt' π2).1
          have : ((π1 ++ (Kind.tail, i) :: π2).filter fun s => !isDone listed s.2).length = (π1.filter fun s => !isDone listed s.2).length + ((π2.filter fun s => !isDone listed s.2).length + 1) := by
            simp [List.filter_append, List.filter_cons, hdi]
          omega
      · have hnt : ∀ s ∈ π1, s.1 ≠ .tail := by
          intro s hs e
          obtain ⟨q1, q2, rfl⟩ := List.append_of_mem hs
          have hO3 := Ord.split (π1 := q1) (rest := s :: (q2 ++ (k, i) :: π2)) (by simpa using hOrd)
          exact hkt (hO3.2.2.2.2.1 e (k, i) (by simp))
        have hno : ∀ s ∈ π1, isDone listed s.2 = false → ∀ d, dstOf ops s.2 = some d → d ∉ looks ops i := by
          intro s hs hds d hd hm
          rcases (S.apart i s.2 d hlt (hlt1 s hs) (Ne.symm (hne1 s hs)) hd).2 hm with h | h
          · rw [hanc s.2 h] at hds; cases hds
          · -- i would stand ahead of s
            exact absurd (ancAhead' S hOrd hpc hs h) (by
              intro hmem
              rcases hmem with ⟨s', hs', e⟩ | hmem
              · exact hne1 s' hs' e
              · exact absurd (hpre i hmem) (by rw [hdi]; simp))
        obtain ⟨v, p, hrun, hwp⟩ := floatRun hF hFF hC hCC hFC hns k i hk hkt hdi π2 h0w (fun i d h => by rw [haz]; exact S.bound i d h) hpost π1 hnt hno ac wc w hG hRF (hC w) (by rw [hacz, haz]) (fun t _ => hag t)
        refine wpOp_of_runV hrun ?_
        refine ih w0 (π1 ++ (k, i) :: π2) pre ac wc (listed.setIfInBounds i true) _ p ?_ (hFF _ _ _ hRF hwp) (hCC _ _ _ h0w (hFC _ _ hwp)) hOrd hpc ?_ hall (hlat' _ fun s hs => hs) hcl' (by simpa using hlz) (by rw [size_put, haz]) hacz (by rw [defers_put, hdf]) ?_ ?_
        · exact rebuild hC hCC hFC hns k i hk hkt hdi π2 h0w (fun i d h => by rw [haz]; exact S.bound i d h) (fun j hj => isDone_set_ne hj) (isDone_set hlt') hdst hrun hwp hpost hne2 π1 hnt hne1 hno ac wc hG (by rw [hacz, haz]) (fun t _ => hag t)
        · intro j hj
          by_cases hji : j = i
          · rw [hji]; exact isDone_set hlt'
          · rw [isDone_set_ne hji]; exact hpre j hj
        · intro t ht
          have hti : dstOf ops i ≠ some t := ht (k, i) (by simp) (isDone_set hlt')
          rw [slot_put_ne hti]
          refine hag t fun s hs hds => ?_
          by_cases hsi : s.2 = i
          · rw [hsi]; exact hti
          · exact ht s hs (by rw [isDone_set_ne hsi]; exact hds)
        · have hc := (count_set hdi hlt' (π1 ++ (k, i) :: π2)).2 ⟨(k, i), by simp, rfl⟩
          omega


theorem static_of {tbl : List Nat} {π : List (Kind × Nat)} {sz : Nat} (h : staticOk ops tbl π sz = true) :
    Region.noSelect ops = true ∧ Static ops (anc tbl) sz ∧ Ord ops (anc tbl) π [] ∧ (∀ i, i < ops.size → ∃ s ∈ π, s.2 = i) := by
  simp only [staticOk, Bool.and_eq_true] at h
  obtain ⟨⟨⟨⟨⟨h1, h2⟩, h3⟩, h4⟩, h5⟩, h6⟩ := h
  have at2 : ∀ i, i < ops.size → (∀ k ∈ afters ops i, k < i) ∧ tbl.getD i 0 = maskOf tbl (afters ops i) := by
    intro i hi
    have := List.all_eq_true.1 h2 i (List.mem_range.2 hi)
    simp only [Bool.and_eq_true, beq_iff_eq] at this
    exact ⟨fun k hk => of_decide_eq_true (List.all_eq_true.1 this.1 k hk), this.2⟩
  refine ⟨h1, ⟨fun i hi => (at2 i hi).1, fun i j hi hj => ?_, fun i j d hi hj hne hd => ?_, fun i d hd => ?_⟩, ord_of h3, fun i hi => ?_⟩
  · unfold anc at hj
    rw [(at2 i hi).2] at hj
    exact anc_maskOf hj
  · have := List.all_eq_true.1 (List.all_eq_true.1 h5 i (List.mem_range.2 hi)) j (List.mem_range.2 hj)
    simp only [Bool.or_eq_true, beq_iff_eq, hne, false_or, hd, Bool.and_eq_true, bne_iff_ne, Bool.not_eq_true'] at this
    refine ⟨this.1, fun hm => ?_⟩
    rcases this.2 with (hh | hh) | hh
    · have : (looks ops i).contains d = true := by simpa using hm
      rw [this] at hh; cases hh
    · exact .inl hh
    · exact .inr hh
  · have := List.all_eq_true.1 h6 i (List.mem_range.2 (dstOf_lt hd))
    simp only [hd] at this
    exact of_decide_eq_true this
  · have := List.all_eq_true.1 h4 i (List.mem_range.2 hi)
    obtain ⟨s, hs, e⟩ := List.any_eq_true.1 this
    exact ⟨s, hs, by simpa using e⟩
end

theorem List.Nodup.length_le_of_lt : ∀ {n : Nat} {l : List Nat}, l.Nodup → (∀ j ∈ l, j < n) → l.length ≤ n
  | 0, l, _, h => by
    cases l with
    | nil => simp
    | cons x l => exact absurd (h x (by simp)) (by omega)
  | n + 1, l, hn, h => by
    by_cases hm : n ∈ l
    · have hn' : (l.erase n).Nodup := hn.erase _
      have := List.Nodup.length_le_of_lt (n := n) hn' (fun j hj => by
        have h1 := h j (List.mem_of_mem_erase hj)
        have h2 : j ≠ n := fun e => by
          subst e
          exact (List.Nodup.not_mem_erase hn) hj
        omega)
      rw [List.length_erase_of_mem hm] at this
      omega
    · have := List.Nodup.length_le_of_lt (n := n) hn (fun j hj => by
        have h1 := h j hj
        have h2 : j ≠ n := fun e => hm (e ▸ hj)
        omega)
      omega

/-! stages: a region is walked piece by piece -/
section
variable {P : Program} {ops : Array Oper}

theorem ready_iff {listed : Array Bool} {i : Nat} (hz : listed.size = ops.size) (hi : i < ops.size) : i ∈ Region.ready .any ops listed ↔ (isDone listed i = false ∧ ∀ k ∈ afters ops i, isDone listed k = true) := by
  have hoi : ops[i]? = some (ops[i]) := by simp [hi]
  have hlt : i < listed.size := by omega
  rw [mem_ready]
  constructor
  · rintro ⟨h1, o, ho, h2⟩
    refine ⟨by simp only [isDone, Array.getD, hlt, dif_pos] at h1 ⊢; exact h1, fun k hk => ?_⟩
    simp only [afters, ho, List.mem_map, List.mem_filter] at hk
    obtain ⟨e, ⟨he, hb⟩, rfl⟩ := hk
    exact h2 e (by simpa using he) hb
  · rintro ⟨h1, h2⟩
    refine ⟨by simp only [isDone, Array.getD, hlt, dif_pos] at h1 ⊢; exact h1, _, hoi, fun e he hb => ?_⟩
    refine h2 e.on ?_
    simp only [afters, hoi, List.mem_map, List.mem_filter]
    exact ⟨e, ⟨by simpa using he, hb⟩, rfl⟩
theorem ready_lt {listed : Array Bool} {i : Nat} (h : i ∈ Region.ready .any ops listed) : i < ops.size := by
  obtain ⟨_, o, ho, _⟩ := mem_ready.1 h
  exact (Array.getElem?_eq_some_iff.1 ho).1

def staticAt (ops : Array Oper) (tbl : List Nat) (k1 k2 : Nat) (π : List (Kind × Nat)) (sz : Nat) : Bool :=
  Region.noSelect ops &&
  ((List.range ops.size).all fun i => (afters ops i).all (fun k => decide (k < i)) && (tbl.getD i 0 == maskOf tbl (afters ops i))) &&
  okFrom ops tbl π (List.range k1) && ((List.range k2).all fun i => decide (i < k1) || π.any (fun s => s.2 == i)) &&
  ((List.range ops.size).all fun i => (List.range ops.size).all fun j => i == j || match dstOf ops j with
    | none => true
    | some d => dstOf ops i != some d && (!(looks ops i).contains d || anc tbl i j || anc tbl j i)) &&
  ((List.range ops.size).all fun i => match dstOf ops i with | none => true | some d => decide (d < sz)) &&
  ((List.range ops.size).all fun i => decide (i < k2) || π.all fun s => anc tbl i s.2) && decide (k2 ≤ ops.size) && decide (k1 ≤ k2) && decide (π.length + k1 ≤ k2)

theorem static_core {tbl : List Nat} {sz : Nat} (h2 : ((List.range ops.size).all fun i => (afters ops i).all (fun k => decide (k < i)) && (tbl.getD i 0 == maskOf tbl (afters ops i))) = true)
    (h5 : ((List.range ops.size).all fun i => (List.range ops.size).all fun j => i == j || match dstOf ops j with
      | none => true
      | some d => dstOf ops i != some d && (!(looks ops i).contains d || anc tbl i j || anc tbl j i)) = true)
    (h6 : ((List.range ops.size).all fun i => match dstOf ops i with | none => true | some d => decide (d < sz)) = true) : Static ops (anc tbl) sz := by
  have at2 : ∀ i, i < ops.size → (∀ k ∈ afters ops i, k < i) ∧ tbl.getD i 0 = maskOf tbl (afters ops i) := by
    intro i hi
    have := List.all_eq_true.1 h2 i (List.mem_range.2 hi)
    simp only [Bool.and_eq_true, beq_iff_eq] at this
    exact ⟨fun k hk => of_decide_eq_true (List.all_eq_true.1 this.1 k hk), this.2⟩
  refine ⟨fun i hi => (at2 i hi).1, fun i j hi hj => ?_, fun i j d hi hj hne hd => ?_, fun i d hd => ?_⟩
  · unfold anc at hj
    rw [(at2 i hi).2] at hj
    exact anc_maskOf hj
  · have := List.all_eq_true.1 (List.all_eq_true.1 h5 i (List.mem_range.2 hi)) j (List.mem_range.2 hj)
    simp only [Bool.or_eq_true, beq_iff_eq, hne, false_or, hd, Bool.and_eq_true, bne_iff_ne, Bool.not_eq_true'] at this
    refine ⟨this.1, fun hm => ?_⟩
    rcases this.2 with (hh | hh) | hh
    · have : (looks ops i).contains d = true := by simpa using hm
      rw [this] at hh; cases hh
    · exact .inl hh
    · exact .inr hh
  · have := List.all_eq_true.1 h6 i (List.mem_range.2 (dstOf_lt hd))
    simp only [hd] at this
    exact of_decide_eq_true this

theorem po_stage {Q : Exit → Act → World → Prop} {a : Act} {w : World} (RF RC : World → World → Prop)
    (hF : ∀ x, RF x x) (hFF : ∀ x y z, RF x y → RF y z → RF x z) (hC : ∀ x, RC x x) (hCC : ∀ x y z, RC x y → RC y z → RC x z) (hFC : ∀ x y, RF x y → RC x y)
    (tbl : List Nat) (k1 k2 : Nat) (π : List (Kind × Nat)) (hst : staticAt ops tbl k1 k2 π a.tmps.size = true)
    (h : poW P ops (fun e a' w' => e = .normal → Up P ops Q k2 a' w') RF RC w π a w) : Up P ops Q k1 a w := by
  simp only [staticAt, Bool.and_eq_true] at hst
  obtain ⟨⟨⟨⟨⟨⟨⟨⟨⟨h1, h2⟩, h3⟩, h4⟩, h5⟩, h6⟩, h7⟩, h8⟩, h9⟩, h10⟩ := hst
  have h8 := of_decide_eq_true h8
  have h9 := of_decide_eq_true h9
  have h10 := of_decide_eq_true h10
  have S := static_core (tbl := tbl) h2 h5 h6
  have hO := ord_of h3
  intro fuel hfuel
  have hge : ∀ s ∈ π, k1 ≤ s.2 := fun s hs => by
    have := Ord.notMem hO s hs
    simpa using this
  have hlt : ∀ s ∈ π, s.2 < ops.size := fun s hs => Ord.lt hO s hs
  have hnd : ∀ s ∈ π, isDone (upTo ops.size k1) s.2 = false := fun s hs => by
    rw [isDone_upTo (hlt s hs)]
    have := hge s hs
    simpa using this
  refine po_main (Q := fun e a' w' => e = .normal → Up P ops Q k2 a' w') hF hFF hC hCC hFC h1 h8 (fun ac w' hh => hh rfl) S fuel w π (List.range k1) a w (upTo ops.size k1) a w ?_ (hF _) (hC _) hO (fun j hj => ?_) (fun j hj => ?_) (fun i hi => ?_) (fun i hi hil => ?_) (fun i hi hid k hk => ?_) (upTo_size _ _) rfl rfl rfl (fun t _ => rfl) ?_
  · exact G_mono (dn := fun _ => false) (a := a) (w := w) (fun x hx => hx) π (fun s hs => hnd s hs) (fun s _ hh => by cases hh) a w (G_of_poW a w π a w h)
  · have hj := List.mem_range.1 hj
    exact ⟨by omega, fun k hk => List.mem_range.2 (by have := S.lt j (by omega) k hk; omega)⟩
  · have hj := List.mem_range.1 hj
    rw [isDone_upTo (by omega)]
    simpa using hj
  · have := List.all_eq_true.1 h4 i (List.mem_range.2 hi)
    simp only [Bool.or_eq_true, decide_eq_true_eq] at this
    rcases this with h | h
    · exact .inl (List.mem_range.2 h)
    · obtain ⟨s, hs, e⟩ := List.any_eq_true.1 h
      exact .inr ⟨s, hs, by simpa using e⟩
  · refine ⟨by rw [isDone_upTo hil]; simp; omega, fun s hs => ?_⟩
    have := List.all_eq_true.1 h7 i (List.mem_range.2 hil)
    simp only [Bool.or_eq_true, decide_eq_true_eq] at this
    rcases this with h | h
    · omega
    · exact List.all_eq_true.1 h s hs
  · rw [isDone_upTo hi] at hid
    have hid := of_decide_eq_true hid
    have := S.lt i hi k hk
    rw [isDone_upTo (by omega)]
    simp; omega
  · have := List.length_filter_le (fun s : Kind × Nat => !isDone (upTo ops.size k1) s.2) π
    omega

theorem up_end {Q : Exit → Act → World → Prop} {a : Act} {w : World} (h : Q .normal a w) : Up P ops Q ops.size a w := by
  have hr : Region.ready .any ops (upTo ops.size ops.size) = [] := by
    rw [List.eq_nil_iff_forall_not_mem]
    intro i hi
    have hlt := ready_lt hi
    have := ((ready_iff (upTo_size _ _) hlt).1 hi).1
    rw [isDone_upTo hlt] at this
    simp [hlt] at this
  intro fuel _
  cases fuel with
  | zero => exact ⟨hr, h⟩
  | succ fuel => exact ⟨fun _ => h, fun i hi => by rw [hr] at hi; cases hi⟩

theorem wp_region_up {Q : Exit → Act → World → Prop} {id : Nat} {a : Act} {w : World} (hm : P.follows .mixedOrders = true)
    (h : ∀ w1 : World, w1.heap = w.heap → w1.os = w.os → w1.tape = w.tape → w1.output = w.output → Up P ops Q 0 a w1) : (Code.region id ops true).wp P Q a w := by
  refine wp_region_any hm ?_
  have e : Array.replicate ops.size false = upTo ops.size 0 := upTo_ext (by simp) (fun i hi => by simp [isDone, Array.getD, hi])
  rw [e]
  exact h { w with drawn := w.drawn + 1 } rfl rfl rfl rfl ops.size (Nat.sub_le _ _)

/-- two that stand side by side and write: in either order -/
def pairAt (ops : Array Oper) (tbl : List Nat) (k : Nat) : Bool :=
  ((List.range ops.size).all fun i => (afters ops i).all (fun k => decide (k < i)) && (tbl.getD i 0 == maskOf tbl (afters ops i))) &&
  (afters ops (k + 1)).all (fun j => decide (j < k)) && decide (k + 2 ≤ ops.size) && (dstOf ops k == none) && (dstOf ops (k + 1) == none) &&
  ((List.range ops.size).all fun i => decide (i < k + 2) || (anc tbl i k && anc tbl i (k + 1)))
theorem put_none (a : Act) (v : Value) : a.put none v = a := rfl
theorem up_pair {Q : Exit → Act → World → Prop} {a : Act} {w : World} (tbl : List Nat) (k : Nat) (hst : pairAt ops tbl k = true)
    (h1 : opV P ops k a w fun _ p => opV P ops (k + 1) a p fun _ p' => Up P ops Q (k + 2) a p')
    (h2 : opV P ops (k + 1) a w fun _ p => opV P ops k a p fun _ p' => Up P ops Q (k + 2) a p') : Up P ops Q k a w := by
  simp only [pairAt, Bool.and_eq_true, beq_iff_eq] at hst
  obtain ⟨⟨⟨⟨⟨g1, g2⟩, g3⟩, g4⟩, g5⟩, g6⟩ := hst
  have g3 := of_decide_eq_true g3
  have lt : ∀ i, i < ops.size → ∀ j ∈ afters ops i, j < i := fun i hi j hj => by
    have := List.all_eq_true.1 g1 i (List.mem_range.2 hi)
    simp only [Bool.and_eq_true] at this
    exact of_decide_eq_true (List.all_eq_true.1 this.1 j hj)
  have step : ∀ i j, i < ops.size → anc tbl i j = true → ∃ k ∈ afters ops i, j = k ∨ anc tbl k j = true := fun i j hi hj => by
    have := List.all_eq_true.1 g1 i (List.mem_range.2 hi)
    simp only [Bool.and_eq_true, beq_iff_eq] at this
    unfold anc at hj
    rw [this.2] at hj
    exact anc_maskOf hj
  have ancd : ∀ (dn : Nat → Bool), (∀ i, i < ops.size → dn i = true → ∀ j ∈ afters ops i, dn j = true) → ∀ (n i : Nat), i < n → i < ops.size → (∀ j ∈ afters ops i, dn j = true) → ∀ j, anc tbl i j = true → dn j = true := by
    intro dn hcl n
    induction n with
    | zero => intro i h; omega
    | succ n ih =>
      intro i hin hi ha j hj
      obtain ⟨m, hm, rfl | hm'⟩ := step i j hi hj
      · exact ha _ hm
      · have := lt i hi m hm
        exact ih m (by omega) (by omega) (hcl m (by omega) (ha m hm)) j hm'
  have late : ∀ i, k + 2 ≤ i → i < ops.size → anc tbl i k = true ∧ anc tbl i (k + 1) = true := fun i h hi => by
    have := List.all_eq_true.1 g6 i (List.mem_range.2 hi)
    simp only [Bool.or_eq_true, decide_eq_true_eq, Bool.and_eq_true] at this
    rcases this with h' | h'
    · omega
    · exact h'
  have af : ∀ j ∈ afters ops (k + 1), j < k := fun j hj => of_decide_eq_true (List.all_eq_true.1 g2 j hj)
  have af0 : ∀ j ∈ afters ops k, j < k := lt k (by omega)
  -- what is listed: the first k, and one or none of the two
  have main : ∀ (m : Nat) (listed : Array Bool), listed.size = ops.size → (∀ i, i < ops.size → isDone listed i = (decide (i < k) || decide (i = m))) → (m = k ∨ m = k + 1) → ∀ i ∈ Region.ready .any ops listed, i = k ∨ i = k + 1 := by
    intro m listed hz hd hm i hi
    have hil := ready_lt hi
    obtain ⟨q1, q2⟩ := (ready_iff hz hil).1 hi
    rcases Nat.lt_or_ge i (k + 2) with h | h
    · rw [hd i hil] at q1
      simp at q1
      omega
    · exfalso
      have hcl : ∀ i, i < ops.size → isDone listed i = true → ∀ j ∈ afters ops i, isDone listed j = true := by
        intro i hi hdi j hj
        rw [hd i hi] at hdi
        have := lt i hi j hj
        rw [hd j (by omega)]
        simp only [Bool.or_eq_true, decide_eq_true_eq] at hdi ⊢
        rcases hdi with h | h
        · left; omega
        · left
          rcases hm with e | e
          · exact af0 j (by rw [← e, ← h]; exact hj)
          · exact af j (by rw [← e, ← h]; exact hj)
      have hl := late i h hil
      have e1 := ancd (isDone listed) hcl (i + 1) i (by omega) hil q2 k hl.1
      have e2 := ancd (isDone listed) hcl (i + 1) i (by omega) hil q2 (k + 1) hl.2
      rw [hd k (by omega)] at e1
      rw [hd (k + 1) (by omega)] at e2
      simp at e1 e2
      omega
  have last : ∀ (listed : Array Bool) (m : Nat), listed.size = ops.size → (∀ i, i < ops.size → isDone listed i = (decide (i < k) || decide (i = m))) → (m = k ∨ m = k + 1) → ∀ (m' : Nat), (m' = k ∧ m = k + 1 ∨ m' = k + 1 ∧ m = k) → listed.setIfInBounds m' true = upTo ops.size (k + 2) := by
    intro listed m hz hd hm m' hm'
    apply upTo_ext (by simpa using hz)
    intro i hi
    by_cases him : i = m'
    · subst him
      rw [isDone_set (by omega)]
      simp; omega
    · rw [isDone_set_ne him, hd i hi]
      by_cases h : i < k + 2
      · simp [h]; omega
      · simp [h]; omega
  have one : ∀ (m m' : Nat) (p : World) (fuel : Nat), (m' = k ∧ m = k + 1 ∨ m' = k + 1 ∧ m = k) → ops.size - (k + 2) ≤ fuel → (opV P ops m' a p fun _ p' => Up P ops Q (k + 2) a p') →
      wpAny P .any ops Q (fuel + 1) ((upTo ops.size k).setIfInBounds m true) a p := by
    intro m m' p fuel hm hf ho
    have hz : ((upTo ops.size k).setIfInBounds m true).size = ops.size := by simp [upTo_size]
    have hd : ∀ i, i < ops.size → isDone ((upTo ops.size k).setIfInBounds m true) i = (decide (i < k) || decide (i = m)) := by
      intro i hi
      by_cases him : i = m
      · subst him
        rw [isDone_set (by rw [upTo_size]; exact hi)]
        simp
      · rw [isDone_set_ne him, isDone_upTo hi]
        simp [him]
    have hmm : m = k ∨ m = k + 1 := by omega
    refine ⟨fun hr => ?_, fun i hi => ?_⟩
    · exfalso
      have hml : m' < ops.size := by omega
      have : m' ∈ Region.ready .any ops ((upTo ops.size k).setIfInBounds m true) := by
        rw [ready_iff hz hml]
        refine ⟨by rw [hd m' hml]; simp; omega, fun j hj => ?_⟩
        have hjk : j < k := by
          rcases hm with ⟨rfl, _⟩ | ⟨rfl, _⟩
          · exact af0 j hj
          · exact af j hj
        rw [hd j (by omega)]
        simp [hjk]
      rw [hr] at this
      cases this
    · have hk := main m _ hz hd hmm i hi
      have hnd := ((ready_iff hz (ready_lt hi)).1 hi).1
      rw [hd i (ready_lt hi)] at hnd
      simp at hnd
      have hie : i = m' := by omega
      subst hie
      refine wpOp_of_opV ho fun v p' hp' => ?_
      rw [last _ m hz hd hmm i hm]
      have hdn : dstOf ops i = none := by
        rcases hm with ⟨rfl, _⟩ | ⟨rfl, _⟩
        · exact g4
        · exact g5
      rw [hdn]
      exact hp' fuel hf
  intro fuel hfuel
  obtain ⟨f, rfl⟩ : ∃ f, fuel = f + 1 + 1 := ⟨fuel - 2, by omega⟩
  have hz := upTo_size ops.size k
  refine ⟨fun hr => ?_, fun i hi => ?_⟩
  · exfalso
    have : k ∈ Region.ready .any ops (upTo ops.size k) := by
      rw [ready_iff hz (by omega)]
      refine ⟨by rw [isDone_upTo (by omega)]; simp, fun j hj => ?_⟩
      have := af0 j hj
      rw [isDone_upTo (by omega)]
      simpa using this
    rw [hr] at this
    cases this
  · have hil := ready_lt hi
    obtain ⟨q1, q2⟩ := (ready_iff hz hil).1 hi
    rw [isDone_upTo hil] at q1
    simp at q1
    have hk : i = k ∨ i = k + 1 := by
      rcases Nat.lt_or_ge i (k + 2) with h | h
      · omega
      · exfalso
        have hcl : ∀ i, i < ops.size → isDone (upTo ops.size k) i = true → ∀ j ∈ afters ops i, isDone (upTo ops.size k) j = true := by
          intro i hi hdi j hj
          rw [isDone_upTo hi] at hdi
          have := lt i hi j hj
          rw [isDone_upTo (by omega)]
          simp at hdi ⊢
          omega
        have e1 := ancd (isDone (upTo ops.size k)) hcl (i + 1) i (by omega) hil q2 k (late i h hil).1
        rw [isDone_upTo (by omega)] at e1
        simp at e1
    rcases hk with rfl | rfl
    · refine wpOp_of_opV h1 fun v p hp => ?_
      rw [g4]
      exact one i (i + 1) p f (.inr ⟨rfl, rfl⟩) (by omega) hp
    · refine wpOp_of_opV h2 fun v p hp => ?_
      rw [g5]
      exact one (k + 1) k p f (.inl ⟨rfl, rfl⟩) (by omega) hp

end

/-- THE LAW: a region that draws its order is proved by one walk in the order π. -/
theorem wp_region_po {P : Program} {ops : Array Oper} {Q : Exit → Act → World → Prop} {id : Nat} {a : Act} {w : World} (RF RC : World → World → Prop)
    (hF : ∀ x, RF x x) (hFF : ∀ x y z, RF x y → RF y z → RF x z) (hC : ∀ x, RC x x) (hCC : ∀ x y z, RC x y → RC y z → RC x z) (hFC : ∀ x y, RF x y → RC x y)
    (tbl : List Nat) (π : List (Kind × Nat)) (hm : P.follows .mixedOrders = true) (hst : staticAt ops tbl 0 ops.size π a.tmps.size = true)
    (h : ∀ w1 : World, w1.heap = w.heap → w1.os = w.os → w1.tape = w.tape → w1.output = w.output → poW P ops Q RF RC w1 π a w1) : (Code.region id ops true).wp P Q a w := by
  refine wp_region_up hm fun w1 e1 e2 e3 e4 => po_stage RF RC hF hFF hC hCC hFC tbl 0 ops.size π hst ?_
  have := h w1 e1 e2 e3 e4
  have mono : ∀ (π : List (Kind × Nat)) (ac : Act) (wc : World), poW P ops Q RF RC w1 π ac wc → poW P ops (fun e a' w' => e = .normal → Up P ops Q ops.size a' w') RF RC w1 π ac wc := by
    intro π
    induction π with
    | nil => intro ac wc h w' hw' _; exact up_end (h w' hw')
    | cons s r ih =>
      intro ac wc h
      obtain ⟨k, i⟩ := s
      cases k with
      | val => obtain ⟨v, h1, h2⟩ := h; exact ⟨v, h1, ih _ _ h2⟩
      | mem =>
        intro u hu
        obtain ⟨v, p, h1, h2, h3⟩ := h u hu
        exact ⟨v, p, h1, h2, fun w' a1 a2 => ih _ _ (h3 w' a1 a2)⟩
      | call => exact fun u hu => opV_mono (fun v p hh => ⟨hh.1, ih _ _ hh.2⟩) (h u hu)
      | tail => exact fun u hu => opV_mono (fun v p hh => ih _ _ hh) (h u hu)
  exact mono _ _ _ this
end Go.Bl
namespace Go.Bl
open Go.RowKit
set_option linter.unusedVariables false

/-- the walk in a fixed order, where what floats turns nothing old -/
def poF (P : Program) (ops : Array Oper) (Q : Exit → Act → World → Prop) (w0 : World) (π : List (Kind × Nat)) (a : Act) (w : World) : Prop :=
  poW P ops Q (Fr []) (Fr []) w0 π a w

theorem wp_region_pf {P : Program} {ops : List Oper} {Q : Exit → Act → World → Prop} {id : Nat} {a : Act} {w : World} (π : List (Kind × Nat)) (hm : P.follows .mixedOrders = true)
    (hst : staticAt ops.toArray (mkTbl ops.toArray) 0 ops.toArray.size π a.tmps.size = true)
    (h : ∀ w1 : World, Fr [] w w1 → poF P ops.toArray Q w1 π a w1) : (Code.region id ops.toArray true).wp P Q a w :=
  wp_region_po (Fr []) (Fr []) (Fr.refl _) (fun _ _ _ h k => h.trans k) (Fr.refl _) (fun _ _ _ h k => h.trans k) (fun _ _ h => h) (mkTbl ops.toArray) π hm hst
    (fun w1 h1 h2 h3 h4 => h w1 (Fr.of_heap h1 h2 h3 h4))

/-- the same, stage by stage -/
theorem wp_region_upF {P : Program} {ops : List Oper} {Q : Exit → Act → World → Prop} {id : Nat} {a : Act} {w : World} (hm : P.follows .mixedOrders = true)
    (h : ∀ w1 : World, Fr [] w w1 → Up P ops.toArray Q 0 a w1) : (Code.region id ops.toArray true).wp P Q a w :=
  wp_region_up hm fun w1 h1 h2 h3 h4 => h w1 (Fr.of_heap h1 h2 h3 h4)
theorem up_pf {P : Program} {ops : List Oper} {Q : Exit → Act → World → Prop} {a : Act} {w : World} (k1 k2 : Nat) (π : List (Kind × Nat))
    (hst : staticAt ops.toArray (mkTbl ops.toArray) k1 k2 π a.tmps.size = true)
    (h : poF P ops.toArray (fun e a' w' => e = .normal → Up P ops.toArray Q k2 a' w') w π a w) : Up P ops.toArray Q k1 a w :=
  po_stage (Fr []) (Fr []) (Fr.refl _) (fun _ _ _ h k => h.trans k) (Fr.refl _) (fun _ _ _ h k => h.trans k) (fun _ _ h => h) (mkTbl ops.toArray) k1 k2 π hst h

/-- an operation that gives a value and is no call -/
def isVal : Op → Bool
  | .move _ | .assign _ | .pick _ _ _ | .build _ _ | .load _ _ | .binOp _ _ _ _ _ | .unOp _ _ _ | .convert _ _ _ | .fieldAddr _ _ _ | .field _ _ _ | .indexAddr _ _ _ | .index _ _ _ | .nilCheck _ | .extract _ _ | .slice _ _ _ _ _ | .makeInterface _ _ => true
  | _ => false

def NoEnter : Result Next → Prop
  | .ok (.enter _ _) _ => False
  | .ok (.row _ _) _ => False
  | .ok (.defer _) _ => False
  | _ => True
theorem noEnter_v {P : Program} (s : Sem Value) (w : World) : NoEnter ((do pure (Next.value (← s)) : Sem Next).run P w) := by
  simp only [Sem.run_bind, Sem.run_pure]
  cases s.run P w <;> simp [Result.andThen, NoEnter]
theorem noEnter_p {P : Program} (v : Value) (w : World) : NoEnter ((pure (Next.value v) : Sem Next).run P w) := by
  simp [NoEnter]
theorem noEnter_bind {P : Program} {α : Type} (s : Sem α) (k : α → Sem Next) (w : World) (h : ∀ a w', NoEnter ((k a).run P w')) : NoEnter ((s >>= k).run P w) := by
  simp only [Sem.run_bind]
  cases s.run P w with
  | ok a w' => simpa [Result.andThen] using h a w'
  | halt x w' => simp [Result.andThen, NoEnter]
theorem noEnter_nil {P : Program} {ρ : Operand → Value} {o : Oper} (x : Operand) (ho : o.op = .nilCheck x) (w : World) : NoEnter ((execOp ρ o).run P w) := by
  unfold execOp
  simp only [ho]
  repeat' split
  all_goals first
    | exact noEnter_p _ _
    | (refine noEnter_bind _ _ _ fun a w' => ?_
       refine noEnter_bind _ _ _ fun a w' => ?_
       first
         | exact noEnter_p _ _
         | (split <;> first | exact noEnter_p _ _ | (refine noEnter_bind _ _ _ fun a w' => ?_; exact noEnter_p _ _) | simp [go_sem, NoEnter]))
    | simp [go_sem, NoEnter]
theorem noEnter_of {P : Program} {ρ : Operand → Value} {o : Oper} (h : isVal o.op = true) (w : World) : NoEnter ((execOp ρ o).run P w) := by
  cases ho : o.op
  case nilCheck x => exact noEnter_nil x ho w
  all_goals
    unfold execOp
    simp only [ho, isVal, Bool.false_eq_true] at h ⊢
  all_goals first
    | exact noEnter_v _ _
    | exact noEnter_p _ _
    | (simp only [Sem.run_bind, Sem.run_pure]
       cases (asBool _).run P w <;> simp [Result.andThen, NoEnter])

/-- what a nil check lets by -/
theorem run_nilCheck {P : Program} {ρ : Operand → Value} {o : Oper} (x : Operand) (ho : o.op = .nilCheck x) (a : Addr) (hx : ρ x = .pointer (some a)) (w : World) :
    (execOp ρ o).run P w = .ok (.value (.pointer (some a))) w := by
  unfold execOp
  simp only [ho, hx, Sem.run_pure]

theorem runV_of_quiet {P : Program} {ops : Array Oper} {i : Nat} {o : Oper} {a : Act} {C : World → Prop} {v : Value} {u : World} (ho : ops[i]? = some o) (hw : Region.wanted o (yielded ops a.tmps) = true)
    (hn : NoEnter ((execOp a.eval o).run P u)) (h : o.quietAt P a C u v) : runV P ops i a u = some (v, u) := by
  unfold runV
  simp only [ho, hw, if_true]
  unfold Oper.quietAt at h
  revert h hn
  generalize (execOp a.eval o).run P u = r
  intro hn h
  cases r with
  | ok n w' =>
    cases n with
    | value v' => obtain ⟨rfl, rfl⟩ := h; rfl
    | skip => obtain ⟨rfl, rfl⟩ := h; rfl
    | enter f args => exact hn.elim
    | _ => exact h.elim
  | halt x w' => exact h.elim

/-- the operations that a piece of the order names -/
def opersOf (ops : Array Oper) (π : List (Kind × Nat)) : List Oper := π.filterMap fun s => ops[s.2]?
def isNil : Op → Bool
  | .nilCheck _ => true
  | _ => false
def valsOk (ops : Array Oper) (π : List (Kind × Nat)) : Bool := π.all fun s => decide (s.1 = .val) && match ops[s.2]? with | some o => isVal o.op | none => false

/-- a run of operations that only read -/
theorem poF_vals {P : Program} {ops : Array Oper} {Q : Exit → Act → World → Prop} {w0 : World} : ∀ (n : Nat) (π : List (Kind × Nat)) (a : Act) (w : World), valsOk ops (π.take n) = true →
    wpQuiet P ops (fun w' => ∃ x : Kin w0, w' = x.w) (fun a' => poF P ops Q w0 (π.drop n) a' w) (opersOf ops (π.take n)) a → poF P ops Q w0 π a w
  | 0, π, a, w, _, h => by simpa [opersOf, wpQuiet] using h
  | n + 1, [], a, w, _, h => by simpa [opersOf, wpQuiet] using h
  | n + 1, (k, i) :: π, a, w, hv, h => by
    simp only [List.take_succ_cons, valsOk, List.all_cons, Bool.and_eq_true, decide_eq_true_eq] at hv
    obtain ⟨⟨hk, hi⟩, hv⟩ := hv
    subst hk
    cases ho : ops[i]? with
    | none => simp [ho] at hi
    | some o =>
      simp only [ho] at hi
      have hop : opersOf ops (((Kind.val, i) :: π).take (n + 1)) = o :: opersOf ops (π.take n) := by simp [opersOf, ho]
      rw [hop] at h
      have hd : dstOf ops i = o.dst := by simp [dstOf, ho]
      unfold poF poW
      unfold wpQuiet at h
      by_cases hw : Region.wanted o (yielded ops a.tmps) = true
      · rw [if_pos hw] at h
        obtain ⟨v, h1, h2⟩ := h
        refine ⟨v, fun u hu => runV_of_quiet ho hw (noEnter_of hi u) (h1 u ⟨⟨u, hu⟩, rfl⟩), ?_⟩
        rw [hd]
        exact poF_vals n π _ w hv h2
      · rw [if_neg hw] at h
        refine ⟨undef, fun u hu => ?_, ?_⟩
        · unfold runV
          simp [ho, hw]
        · rw [hd]
          exact poF_vals n π _ w hv h
/-- a nil check -/
theorem poF_nil {P : Program} {ops : Array Oper} {Q : Exit → Act → World → Prop} {w0 : World} {i : Nat} {π : List (Kind × Nat)} {a : Act} {w : World} (o : Oper) (x : Operand) (ho : ops[i]? = some o) (hg : o.guard = none) (hop : o.op = .nilCheck x)
    (ad : Addr) (hx : a.eval x = .pointer (some ad)) (h : poF P ops Q w0 π (a.put o.dst (.pointer (some ad))) w) : poF P ops Q w0 ((.val, i) :: π) a w := by
  refine ⟨.pointer (some ad), fun u hu => ?_, ?_⟩
  · unfold runV
    have hw : Region.wanted o (yielded ops a.tmps) = true := by simp [Region.wanted, hg]
    simp only [ho, hw, if_true, run_nilCheck x hop ad hx]
  · have hd : dstOf ops i = o.dst := by simp [dstOf, ho]
    rw [hd]
    exact h
/-- memory is made -/
theorem poF_new {P : Program} {ops : Array Oper} {Q : Exit → Act → World → Prop} {w0 : World} {i : Nat} {π : List (Kind × Nat)} {a : Act} {w : World} (o : Oper) (ho : ops[i]? = some o) (hg : o.guard = none) (obj : Obj) (V : Nat → Value)
    (hr : ∀ u : World, (execOp a.eval o).run P u = .ok (.value (V u.heap.size)) (u.alloc obj))
    (h : ∀ (b : Nat) (w' : World), w0.heap.size ≤ b → Fr [] w w' → At w' b obj → poF P ops Q w0 π (a.put o.dst (V b)) w') : poF P ops Q w0 ((.mem, i) :: π) a w := by
  intro u hu
  have hd : dstOf ops i = o.dst := by simp [dstOf, ho]
  refine ⟨V u.heap.size, u.alloc obj, ?_, Fr.alloc _ _, fun w' h1 h2 => ?_⟩
  · unfold runV
    have hw : Region.wanted o (yielded ops a.tmps) = true := by simp [Region.wanted, hg]
    simp only [ho, hw, if_true, hr]
  · rw [hd]
    exact h _ w' hu.size h1 (At.keep0 (At.new rfl) h2)
/-- a step out of the walk of a single operation -/
theorem opV_of_wpl {P : Program} {ops : Array Oper} {K : Act → World → Prop} {i : Nat} {a : Act} {u : World} (o : Oper) (ho : ops[i]? = some o)
    (h : wpList P ops (fun e a' w' => e = .normal ∧ a'.defers = a.defers ∧ K a' w') [o] a u) : opV P ops i a u fun v p => K (a.put (dstOf ops i) v) p := by
  have hd : dstOf ops i = o.dst := by simp [dstOf, ho]
  rw [hd]
  unfold opV
  simp only [ho]
  unfold wpList at h
  by_cases hw : Region.wanted o (yielded ops a.tmps) = true
  · rw [if_pos hw] at h ⊢
    rcases h with h | ⟨_, h⟩
    · unfold Oper.wp at h
      revert h
      generalize (execOp a.eval o).run P u = r
      intro h
      cases r with
      | ok n w' =>
        cases n with
        | value v' => exact h.2.2
        | skip => exact h.2.2
        | enter f args =>
          refine Calls.mono h fun e w'' he => ?_
          cases e with
          | returned v => exact he.2.2
          | panicked c => cases he.1
          | outgrown =>
            obtain ⟨_, _, h⟩ := he
            cases h.1
        | row r args => exact Rows.mono h fun v w'' he => he.2.2
        | defer d =>
          have := h.2.1
          rw [defers_put] at this
          simp at this
        | _ => exact h.elim
      | halt x w' =>
        cases x with
        | panic v => cases h.1
        | _ => exact h.elim
    · obtain ⟨_, _, h⟩ := h
      cases h.1
  · rw [if_neg hw] at h ⊢
    exact h.2.2
/-- a call that stands in its place -/
theorem poF_call {P : Program} {ops : Array Oper} {Q : Exit → Act → World → Prop} {w0 : World} {i : Nat} {π : List (Kind × Nat)} {a : Act} {w : World} (o : Oper) (ho : ops[i]? = some o)
    (h : ∀ u : World, Fr [] w u → wpList P ops (fun e a' w' => e = .normal ∧ a'.defers = a.defers ∧ Fr [] u w' ∧ poF P ops Q w0 π a' w') [o] a u) : poF P ops Q w0 ((.call, i) :: π) a w :=
  fun u hu => opV_of_wpl (K := fun a' w' => Fr [] u w' ∧ poF P ops Q w0 π a' w') o ho (h u hu)
/-- the end: it may write -/
theorem poF_tail {P : Program} {ops : Array Oper} {Q : Exit → Act → World → Prop} {w0 : World} {i : Nat} {π : List (Kind × Nat)} {a : Act} {w : World} (o : Oper) (ho : ops[i]? = some o)
    (h : ∀ u : World, Fr [] w u → wpList P ops (fun e a' w' => e = .normal ∧ a'.defers = a.defers ∧ poF P ops Q w0 π a' w') [o] a u) : poF P ops Q w0 ((.tail, i) :: π) a w :=
  fun u hu => opV_of_wpl (K := fun a' w' => poF P ops Q w0 π a' w') o ho (h u hu)
theorem poF_end {P : Program} {ops : Array Oper} {Q : Exit → Act → World → Prop} {w0 : World} {a : Act} {w : World} (h : ∀ w' : World, Fr [] w w' → Q .normal a w') : poF P ops Q w0 [] a w := h

/-- a struct or array stored into a block that is known -/
theorem wpl_store_at {P : Program} {w : World} {ops : Array Oper} {rest : List Oper} {o : Oper} {a : Act} {Q : Exit → Act → World → Prop} {t te : TypeId} {cur : Array Value} {g off : Nat} (p x : Operand) (hgd : o.guard = none)
    (ho : o.op = .store t p x) (c' : Array Value) (hp : a.eval p = .pointer (some ⟨g, off, none⟩)) (hx : a.eval x = .agg c') (hi : (P.info? t).map (·.size) = some c'.size) (hb : At w g (.cells cur te (0, 0))) (hsz : off + c'.size ≤ cur.size) (h1 : c'.all (·.oneCell') = true)
    (h : ∀ w', Fr [g] w w' → At w' g (.cells (cur.toList.take off ++ c'.toList ++ cur.toList.drop (off + c'.size)).toArray te (0, 0)) → w'.heap.size = w.heap.size → wpList P ops Q rest (a.put o.dst undef) w') : wpList P ops Q (o :: rest) a w := by
  refine wpList_plain hgd fun K hK => ?_
  have hst := run_storeCells_at P g off te c'.toList 0 cur w hb (by simpa using hsz) (by intro v hv; exact (Array.all_eq_true'.1 h1) v (by simpa using hv))
  simp only [Nat.add_zero, Array.length_toList] at hst
  cases hq : P.info? t with
  | none => simp [hq] at hi
  | some i =>
    have hs : i.size = c'.size := by simpa [hq] using hi
    unfold Oper.wp execOp
    simp only [ho, hp, hx, Instr.storeAt, Instr.sureAddr, Sem.run_bind, Sem.run_pure, Result.andThen_ok]
    have : (storeVar t ⟨g, off, none⟩ (.agg c')).run P w = .ok () (w.setRow g (cur.toList.take off ++ c'.toList ++ cur.toList.drop (off + c'.size)).toArray) := by
      simp [storeVar, sizeOf, typeInfo, hq, Value.cells, hs, hst]
    rw [this]
    refine hK _ _ (h _ ⟨rfl, rfl, rfl, by simp [World.setRow], fun k hk hn => ?_⟩ (setRow_heap w g cur _ te (0, 0) hb) (by simp [World.setRow]))
    exact setRow_other w g k _ (by simpa using hn)
end Go.Bl
namespace Go.Bl
open Go.RowKit
set_option linter.unusedVariables false

/-- blocks below N stand, the shapes of all blocks stand -/
structure RN (N : Nat) (x y : World) : Prop where
  os : y.os = x.os
  tape : y.tape = x.tape
  output : y.output = x.output
  size : x.heap.size ≤ y.heap.size
  below : ∀ k, k < N → k < x.heap.size → y.heap[k]? = x.heap[k]?
  shape : ∀ (k : Nat) (c : Array Value) (t : TypeId), x.heap[k]? = some (.cells c t (0, 0)) → ∃ c', c'.size = c.size ∧ y.heap[k]? = some (.cells c' t (0, 0))
theorem RN.refl (N : Nat) (x : World) : RN N x x := ⟨rfl, rfl, rfl, Nat.le_refl _, fun _ _ _ => rfl, fun _ c _ h => ⟨c, rfl, h⟩⟩
theorem RN.trans {N : Nat} {x y z : World} (h : RN N x y) (k : RN N y z) : RN N x z :=
  ⟨k.os.trans h.os, k.tape.trans h.tape, k.output.trans h.output, Nat.le_trans h.size k.size, fun i hi hx => (k.below i hi (Nat.lt_of_lt_of_le hx h.size)).trans (h.below i hi hx), fun i c t hc => by
    obtain ⟨c1, h1, h2⟩ := h.shape i c t hc
    obtain ⟨c2, h3, h4⟩ := k.shape i c1 t h2
    exact ⟨c2, h3.trans h1, h4⟩⟩
theorem RN.of_fr {N : Nat} {x y : World} (h : Fr [] x y) : RN N x y :=
  ⟨h.os, h.tape, h.output, h.size, fun k _ hk => h.block k hk (by simp), fun k c t hc => ⟨c, rfl, h.keep hc (by simp)⟩⟩
theorem RN.of_store {N g : Nat} {x y : World} {c c' : Array Value} {t : TypeId} (h : Fr [g] x y) (hg : N ≤ g) (h1 : At x g (.cells c t (0, 0))) (h2 : At y g (.cells c' t (0, 0))) (hs : c'.size = c.size) : RN N x y :=
  ⟨h.os, h.tape, h.output, h.size, fun k hk hx => h.block k hx (by simp; omega), fun k d t' hc => by
    by_cases hk : k = g
    · subst hk
      have := hc.symm.trans h1
      cases this
      exact ⟨c', hs, h2⟩
    · exact ⟨d, rfl, h.keep hc (by simpa using hk)⟩⟩
theorem RN.at {N : Nat} {x y : World} {b : Nat} {o : Obj} (h : RN N x y) (hb : At x b o) (hN : b < N) : At y b o := (h.below b hN hb.lt).trans hb
theorem RN.cell {x y : World} {b i : Nat} {v : Value} (h : RN x.heap.size x y) (hc : x.cell? ⟨b, i, none⟩ = some v) : y.cell? ⟨b, i, none⟩ = some v := by
  unfold World.cell? at hc ⊢
  rcases Nat.lt_or_ge b x.heap.size with hb | hb
  · rw [h.below b hb hb]; exact hc
  · rw [Array.getElem?_eq_none hb] at hc; simp at hc

/-- worlds that come of w0 so -/
structure KinR (RC : World → World → Prop) (w0 : World) where
  w : World
  fr : RC w0 w
instance (N : Nat) (w0 : World) : Nonempty (KinR (RN N) w0) := ⟨⟨w0, RN.refl _ _⟩⟩
def poR (P : Program) (ops : Array Oper) (Q : Exit → Act → World → Prop) (N : Nat) (w0 : World) (π : List (Kind × Nat)) (a : Act) (w : World) : Prop :=
  poW P ops Q (Fr []) (RN N) w0 π a w
theorem up_pr {P : Program} {ops : List Oper} {Q : Exit → Act → World → Prop} {a : Act} {w : World} (N k1 k2 : Nat) (π : List (Kind × Nat))
    (hst : staticAt ops.toArray (mkTbl ops.toArray) k1 k2 π a.tmps.size = true)
    (h : poR P ops.toArray (fun e a' w' => e = .normal → Up P ops.toArray Q k2 a' w') N w π a w) : Up P ops.toArray Q k1 a w :=
  po_stage (Fr []) (RN N) (Fr.refl _) (fun _ _ _ h k => h.trans k) (RN.refl _) (fun _ _ _ h k => h.trans k) (fun _ _ h => RN.of_fr h) (mkTbl ops.toArray) k1 k2 π hst h

theorem poR_vals {P : Program} {ops : Array Oper} {Q : Exit → Act → World → Prop} {N : Nat} {w0 : World} : ∀ (n : Nat) (π : List (Kind × Nat)) (a : Act) (w : World), valsOk ops (π.take n) = true →
    wpQuiet P ops (fun w' => ∃ x : KinR (RN N) w0, w' = x.w) (fun a' => poR P ops Q N w0 (π.drop n) a' w) (opersOf ops (π.take n)) a → poR P ops Q N w0 π a w
  | 0, π, a, w, _, h => by simpa [opersOf, wpQuiet] using h
  | n + 1, [], a, w, _, h => by simpa [opersOf, wpQuiet] using h
  | n + 1, (k, i) :: π, a, w, hv, h => by
    simp only [List.take_succ_cons, valsOk, List.all_cons, Bool.and_eq_true, decide_eq_true_eq] at hv
    obtain ⟨⟨hk, hi⟩, hv⟩ := hv
    subst hk
    cases ho : ops[i]? with
    | none => simp [ho] at hi
    | some o =>
      simp only [ho] at hi
      have hop : opersOf ops (((Kind.val, i) :: π).take (n + 1)) = o :: opersOf ops (π.take n) := by simp [opersOf, ho]
      rw [hop] at h
      have hd : dstOf ops i = o.dst := by simp [dstOf, ho]
      unfold poR poW
      unfold wpQuiet at h
      by_cases hw : Region.wanted o (yielded ops a.tmps) = true
      · rw [if_pos hw] at h
        obtain ⟨v, h1, h2⟩ := h
        refine ⟨v, fun u hu => runV_of_quiet ho hw (noEnter_of hi u) (h1 u ⟨⟨u, hu⟩, rfl⟩), ?_⟩
        rw [hd]
        exact poR_vals n π _ w hv h2
      · rw [if_neg hw] at h
        refine ⟨undef, fun u hu => ?_, ?_⟩
        · unfold runV
          simp [ho, hw]
        · rw [hd]
          exact poR_vals n π _ w hv h
/-- memory is made: its shape stands -/
theorem poR_new {P : Program} {ops : Array Oper} {Q : Exit → Act → World → Prop} {N : Nat} {w0 : World} {i : Nat} {π : List (Kind × Nat)} {a : Act} {w : World} (o : Oper) (ho : ops[i]? = some o) (hg : o.guard = none) (cs : Array Value) (t : TypeId) (V : Nat → Value)
    (hr : ∀ u : World, (execOp a.eval o).run P u = .ok (.value (V u.heap.size)) (u.alloc (.cells cs t)))
    (h : ∀ (b : Nat) (w' : World) (c : Array Value), w0.heap.size ≤ b → Fr [] w w' → c.size = cs.size → At w' b (.cells c t (0, 0)) → poR P ops Q N w0 π (a.put o.dst (V b)) w') : poR P ops Q N w0 ((.mem, i) :: π) a w := by
  intro u hu
  have hd : dstOf ops i = o.dst := by simp [dstOf, ho]
  refine ⟨V u.heap.size, u.alloc (.cells cs t), ?_, Fr.alloc _ _, fun w' h1 h2 => ?_⟩
  · unfold runV
    have hw : Region.wanted o (yielded ops a.tmps) = true := by simp [Region.wanted, hg]
    simp only [ho, hw, if_true, hr]
  · rw [hd]
    obtain ⟨c, h3, h4⟩ := h2.shape _ cs t (At.new rfl)
    exact h _ w' c hu.size h1 h3 h4
/-- an operation that stands in its place: a store into a block that is not old -/
theorem poR_call {P : Program} {ops : Array Oper} {Q : Exit → Act → World → Prop} {N : Nat} {w0 : World} {i : Nat} {π : List (Kind × Nat)} {a : Act} {w : World} (o : Oper) (ho : ops[i]? = some o)
    (h : ∀ u : World, Fr [] w u → wpList P ops (fun e a' w' => e = .normal ∧ a'.defers = a.defers ∧ RN N u w' ∧ poR P ops Q N w0 π a' w') [o] a u) : poR P ops Q N w0 ((.call, i) :: π) a w :=
  fun u hu => opV_of_wpl (K := fun a' w' => RN N u w' ∧ poR P ops Q N w0 π a' w') o ho (h u hu)
theorem poR_end {P : Program} {ops : Array Oper} {Q : Exit → Act → World → Prop} {N : Nat} {w0 : World} {a : Act} {w : World} (h : ∀ w' : World, Fr [] w w' → Q .normal a w') : poR P ops Q N w0 [] a w := h
/-- a whole struct stored over a block that is known by its shape -/
theorem wpl_store_whole {P : Program} {w : World} {ops : Array Oper} {rest : List Oper} {o : Oper} {a : Act} {Q : Exit → Act → World → Prop} {t te : TypeId} {cur : Array Value} {g : Nat} (p x : Operand) (hgd : o.guard = none)
    (ho : o.op = .store t p x) (c' : Array Value) (hp : a.eval p = .pointer (some ⟨g, 0, none⟩)) (hx : a.eval x = .agg c') (hi : (P.info? t).map (·.size) = some c'.size) (hb : At w g (.cells cur te (0, 0))) (hsz : cur.size = c'.size) (h1 : c'.all (·.oneCell') = true)
    (h : ∀ w', Fr [g] w w' → At w' g (.cells c' te (0, 0)) → w'.heap.size = w.heap.size → wpList P ops Q rest (a.put o.dst undef) w') : wpList P ops Q (o :: rest) a w :=
  wpl_store_at p x hgd ho c' hp hx hi hb (by omega) h1 fun w' h1 h2 h3 => h w' h1 (by
    rw [List.drop_of_length_le (by simp; omega), List.take_zero, List.nil_append, List.append_nil, Array.toArray_toList] at h2
    exact h2) h3
end Go.Bl
namespace Go.Bl
open Go.RowKit
set_option linter.unusedVariables false

theorem RN.fr {x y : World} (h : RN x.heap.size x y) : Fr [] x y := ⟨h.os, h.tape, h.output, h.size, fun k hk _ => h.below k hk hk⟩

/-- the operations of dn and i -/
def also (dn : Nat → Bool) (i : Nat) (k : Nat) : Bool := dn k || decide (k = i)
theorem also_self (dn : Nat → Bool) (i : Nat) : also dn i i = true := by simp [also]
theorem also_ne (dn : Nat → Bool) {i k : Nat} (h : k ≠ i) : also dn i k = dn k := by simp [also, h]

theorem wp_region_inv {P : Program} {ops : List Oper} {Q : Exit → Act → World → Prop} {id : Nat} {a : Act} {w : World} (I : (Nat → Bool) → Act → World → Prop) (hm : P.follows .mixedOrders = true)
    (hlt : ((List.range ops.toArray.size).all fun i => (afters ops.toArray i).all fun k => decide (k < i)) = true)
    (h0 : ∀ w1 : World, Fr [] w w1 → I (fun _ => false) a w1)
    (step : ∀ i, i < ops.toArray.size → ∀ (dn : Nat → Bool) (a : Act) (w : World), dn i = false → (∀ k, (afters ops.toArray i).contains k = true → dn k = true) → I dn a w →
      opV P ops.toArray i a w fun v p => I (also dn i) (a.put (dstOf ops.toArray i) v) p)
    (fin : ∀ (dn : Nat → Bool) (a : Act) (w : World), (∀ i, i < ops.toArray.size → dn i = true) → I dn a w → Q .normal a w) : (Code.region id ops.toArray true).wp P Q a w := by
  obtain ⟨A, hA⟩ : ∃ A, ops.toArray = A := ⟨_, rfl⟩
  rw [hA] at hlt step fin ⊢
  clear hA
  have lt : ∀ i, i < A.size → ∀ k ∈ afters A i, k < i := fun i hi k hk => of_decide_eq_true (List.all_eq_true.1 (List.all_eq_true.1 hlt i (List.mem_range.2 hi)) k hk)
  have main : ∀ (fuel : Nat) (listed : Array Bool) (dn : Nat → Bool) (a : Act) (w : World), listed.size = A.size → (∀ i, i < A.size → isDone listed i = dn i) →
      (((List.range A.size).map fun i => (Kind.val, i)).filter fun s => !isDone listed s.2).length ≤ fuel → I dn a w → wpAny P .any A Q fuel listed a w := by
    intro fuel
    have nil : ∀ (listed : Array Bool), listed.size = A.size → Region.ready .any A listed = [] → ∀ i, i < A.size → isDone listed i = true := by
      intro listed hz hr i
      induction i using Nat.strongRecOn with
      | _ i ih =>
        intro hi
        cases hd : isDone listed i with
        | true => rfl
        | false =>
          exfalso
          have : i ∈ Region.ready .any A listed := (ready_iff hz hi).2 ⟨hd, fun k hk => ih k (lt i hi k hk) (by have := lt i hi k hk; omega)⟩
          rw [hr] at this
          cases this
    induction fuel with
    | zero =>
      intro listed dn a w hz hd hc hI
      have hall : ∀ i, i < A.size → isDone listed i = true := by
        intro i hi
        cases hx : isDone listed i with
        | true => rfl
        | false =>
          exfalso
          have : (Kind.val, i) ∈ ((List.range A.size).map fun i => (Kind.val, i)).filter fun s => !isDone listed s.2 := by
            rw [List.mem_filter]
            exact ⟨List.mem_map.2 ⟨i, List.mem_range.2 hi, rfl⟩, by simp [hx]⟩
          have := List.length_pos_of_mem this
          omega
      refine ⟨?_, fin dn a w (fun i hi => by rw [← hd i hi]; exact hall i hi) hI⟩
      rw [List.eq_nil_iff_forall_not_mem]
      intro i hi
      have hl := ready_lt hi
      have := ((ready_iff hz hl).1 hi).1
      rw [hall i hl] at this
      cases this
    | succ fuel ih =>
      intro listed dn a w hz hd hc hI
      refine ⟨fun hr => fin dn a w (fun i hi => by rw [← hd i hi]; exact nil listed hz hr i hi) hI, fun i hi => ?_⟩
      have hl := ready_lt hi
      obtain ⟨q1, q2⟩ := (ready_iff hz hl).1 hi
      refine wpOp_of_opV (step i hl dn a w (by rw [← hd i hl]; exact q1) (fun k hk => ?_) hI) fun v p hp => ?_
      · have hk' : k ∈ afters A i := by simpa using hk
        rw [← hd k (by have := lt i hl k hk'; omega)]
        exact q2 k hk'
      · refine ih (listed.setIfInBounds i true) (also dn i) _ p (by simpa using hz) (fun k hk => ?_) ?_ hp
        · by_cases hki : k = i
          · subst hki
            rw [isDone_set (by omega), also_self]
          · rw [isDone_set_ne hki, also_ne dn hki]
            exact hd k hk
        · have := (count_set (listed := listed) q1 (by omega) ((List.range A.size).map fun i => (Kind.val, i))).2 ⟨(Kind.val, i), List.mem_map.2 ⟨i, List.mem_range.2 hl, rfl⟩, rfl⟩
          omega
  refine wp_region_any hm ?_
  refine main _ _ (fun _ => false) _ _ (by simp) (fun i hi => by simp [isDone, Array.getD, hi]) ?_ (h0 _ (Fr.of_heap rfl rfl rfl rfl))
  have := List.length_filter_le (fun s : Kind × Nat => !isDone (Array.replicate A.size false) s.2) ((List.range A.size).map fun i => (Kind.val, i))
  simpa using this
/-- an operation by its own run -/
theorem opV_run {P : Program} {ops : Array Oper} {K : Value → World → Prop} {i : Nat} {a : Act} {u p : World} {v : Value} (o : Oper) (ho : ops[i]? = some o) (hg : o.guard = none) (hr : (execOp a.eval o).run P u = .ok (.value v) p) (h : K v p) : opV P ops i a u K := by
  unfold opV
  simp only [ho, Region.wanted, hg, if_true, hr]
  exact h
end Go.Bl
namespace Go.Bl
open Go.RowKit
set_option linter.unusedVariables false

inductive CK where
  | rd (v : Value) (mx : Nat)
  | st (j : Nat)
def CK.isSt : Option CK → Bool
  | some (.st _) => true
  | _ => false
def allAtC (f : Nat → CK → Prop) : Nat → List CK → Prop
  | _, [] => True
  | i, k :: l => f i k ∧ allAtC f (i + 1) l
theorem allAtC_get {f : Nat → CK → Prop} : ∀ (l : List CK) (i0 j : Nat) (k : CK), allAtC f i0 l → l[j]? = some k → f (i0 + j) k
  | [], _, _, _, _, h => by simp at h
  | x :: l, i0, 0, k, h, hk => by simp at hk; subst hk; exact h.1
  | x :: l, i0, j + 1, k, h, hk => by
    have := allAtC_get l (i0 + 1) j k h.2 (by simpa using hk)
    rwa [show i0 + 1 + j = i0 + (j + 1) by omega] at this
theorem slotc_self {a : Act} {d : Nat} {v : Value} (h : d < a.tmps.size) : slot (a.put (some d) v) d = v := by simp [slot, Act.put, h]
theorem slotc_ne {a : Act} {d k : Nat} {v : Value} (h : k ≠ d) : slot (a.put (some d) v) k = slot a k := by
  simp only [slot, Act.put, Array.getD_eq_getD_getElem?]
  rw [Array.getElem?_setIfInBounds_ne (Ne.symm h)]
/-- what an operation may lean on -/
structure SeesC (ops : Array Oper) (D : List (Option Nat)) (kl : List CK) (cv : Nat → Value) (a : Act) (i : Nat) (b : Act) : Prop where
  old : ∀ s, some s ∉ D → slot b s = slot a s
  rd : ∀ k v mx d, (afters ops i).contains k = true → kl[k]? = some (.rd v mx) → D[k]? = some (some d) → slot b d = v
  st : ∀ k j d, (afters ops i).contains k = true → kl[k]? = some (.st j) → D[k]? = some (some d) → slot b d = cv j
def kindOkC (P : Program) (ops : Array Oper) (D : List (Option Nat)) (ch : List Nat) (kl : List CK) (cv : Nat → Value) (St : Nat → World → Prop) (a : Act) (i : Nat) : CK → Prop
  | .rd v mx => (∃ d, D[i]? = some (some d)) ∧ (mx = ch.length ∨ ∃ i', ch[mx]? = some i' ∧ (afters ops i').contains i = true) ∧ ∀ b p s, s ≤ mx → St s p → SeesC ops D kl cv a i b → ∃ o, ops[i]? = some o ∧ o.guard = none ∧ (execOp b.eval o).run P p = .ok (.value v) p
  | .st j => ch[j]? = some i ∧ (j = 0 ∨ ∃ i', ch[j - 1]? = some i' ∧ (afters ops i).contains i' = true) ∧ ∀ b p, St j p → SeesC ops D kl cv a i b → opV P ops i b p fun v p' => St (j + 1) p' ∧ (D[i]? = some none ∨ v = cv j)
structure CInv (ops : Array Oper) (D : List (Option Nat)) (ch : List Nat) (kl : List CK) (cv : Nat → Value) (St : Nat → World → Prop) (a : Act) (dn : Nat → Bool) (b : Act) (p : World) : Prop where
  defers : b.defers = a.defers
  size : b.tmps.size = a.tmps.size
  old : ∀ s, some s ∉ D → slot b s = slot a s
  rd : ∀ (k : Nat) v mx d, kl[k]? = some (CK.rd v mx) → dn k = true → D[k]? = some (some d) → slot b d = v
  out : ∃ s, s ≤ ch.length ∧ (∀ (j i : Nat), ch[j]? = some i → (dn i = true ↔ j < s)) ∧ St s p
  cl : ∀ i k, dn i = true → (afters ops i).contains k = true → dn k = true
  st : ∀ (k j : Nat) d, kl[k]? = some (CK.st j) → dn k = true → D[k]? = some (some d) → slot b d = cv j
/-- no slot is written twice -/
def noDup : List (Option Nat) → Bool
  | [] => true
  | none :: l => noDup l
  | some d :: l => !l.contains (some d) && noDup l
theorem noDup_inj : ∀ (l : List (Option Nat)) (i j d : Nat), noDup l = true → l[i]? = some (some d) → l[j]? = some (some d) → i = j
  | [], i, j, d, _, h, _ => by simp at h
  | x :: l, i, j, d, hn, hi, hj => by
    have ht : noDup l = true := by
      cases x with
      | none => exact hn
      | some e => simp only [noDup, Bool.and_eq_true] at hn; exact hn.2
    have hx : ∀ k, x = some d → l[k]? = some (some d) → False := fun k he hk => by
      subst he
      simp only [noDup, Bool.and_eq_true, Bool.not_eq_true', List.contains_eq_mem, decide_eq_false_iff_not] at hn
      exact hn.1 (List.mem_of_getElem? hk)
    cases i with
    | zero =>
      cases j with
      | zero => rfl
      | succ j => exact (hx j (by simpa using hi) (by simpa using hj)).elim
    | succ i =>
      cases j with
      | zero => exact (hx i (by simpa using hj) (by simpa using hi)).elim
      | succ j => rw [noDup_inj l i j d ht (by simpa using hi) (by simpa using hj)]
theorem getc_lt {α : Type} {l : List α} {i : Nat} {x : α} (h : l[i]? = some x) : i < l.length := (List.getElem?_eq_some_iff.1 h).1

theorem wp_region_chain {P : Program} {ops : List Oper} {Q : Exit → Act → World → Prop} {id : Nat} {a : Act} {w : World} (hm : P.follows .mixedOrders = true)
    (hlt : ((List.range ops.toArray.size).all fun i => (afters ops.toArray i).all fun k => decide (k < i)) = true)
    (D : List (Option Nat)) (ch : List Nat) (kl : List CK) (cv : Nat → Value) (St : Nat → World → Prop)
    (hD : (List.range ops.toArray.size).map (dstOf ops.toArray) = D) (hnd : noDup D = true) (hDs : D.all (fun d => match d with | some d => decide (d < a.tmps.size) | none => true) = true)
    (hkl : kl.length = ops.toArray.size) (hch : ch.all (fun i => CK.isSt kl[i]?) = true) (hcn : ch.Nodup)
    (h0 : ∀ w1, Fr [] w w1 → St 0 w1)
    (hk : allAtC (kindOkC P ops.toArray D ch kl cv St a) 0 kl)
    (hQ : ∀ (b : Act) (p : World), b.defers = a.defers → b.tmps.size = a.tmps.size → (∀ s, some s ∉ D → slot b s = slot a s) → St ch.length p → (∀ (k : Nat) v mx d, kl[k]? = some (CK.rd v mx) → D[k]? = some (some d) → slot b d = v) → Q .normal b p) :
    (Code.region id ops.toArray true).wp P Q a w := by
  have hDl : D.length = ops.toArray.size := by have := congrArg List.length hD; simpa using this.symm
  have hdst : ∀ i, i < ops.toArray.size → D[i]? = some (dstOf ops.toArray i) := by
    intro i hi
    have h := congrArg (fun l : List (Option Tmp) => l[i]?) hD
    simp only [List.getElem?_map, List.getElem?_range hi, Option.map_some] at h
    exact h.symm
  have hst : ∀ (j i : Nat), ch[j]? = some i → ∃ j', kl[i]? = some (CK.st j') := by
    intro j i hj
    have h := List.all_eq_true.1 hch i (List.mem_of_getElem? hj)
    cases hx : kl[i]? with
    | none => simp [hx, CK.isSt] at h
    | some k =>
      cases k with
      | rd v mx => simp [hx, CK.isSt] at h
      | st j' => exact ⟨_, rfl⟩
  have hkind : ∀ (i : Nat) k, kl[i]? = some k → kindOkC P ops.toArray D ch kl cv St a i k := fun i k hi => by
    have := allAtC_get kl 0 i k hk hi
    rwa [Nat.zero_add] at this
  have hslot : ∀ i d, D[i]? = some (some d) → d < a.tmps.size := fun i d h => by
    have := List.all_eq_true.1 hDs (some d) (List.mem_of_getElem? h)
    exact of_decide_eq_true this
  refine wp_region_inv (CInv ops.toArray D ch kl cv St a) hm hlt ?_ ?_ ?_
  · intro w1 hw1
    exact ⟨rfl, rfl, fun _ _ => rfl, (fun _ _ _ _ _ h => by cases h), ⟨0, Nat.zero_le _, fun j i _ => ⟨fun h => by (cases h), fun h => by omega⟩, h0 w1 hw1⟩, (fun _ _ h => by cases h), (fun _ _ _ _ h => by cases h)⟩
  · intro i hi dn b p hdn haft ⟨h1, h2, h3, h4, ⟨s, hsl, hiff, hS⟩, hcl, h5⟩
    have hcl2 : ∀ x k, also dn i x = true → (afters ops.toArray x).contains k = true → also dn i k = true := fun x k hx hk => by
      by_cases hki : k = i
      · subst hki; exact also_self dn k
      · rw [also_ne dn hki]
        by_cases hxi : x = i
        · subst hxi; exact haft k hk
        · rw [also_ne dn hxi] at hx; exact hcl x k hx hk
    obtain ⟨k, hki⟩ : ∃ k, kl[i]? = some k := ⟨_, List.getElem?_eq_getElem (by omega)⟩
    have hok := hkind i k hki
    have hsee : SeesC ops.toArray D kl cv a i b := ⟨h3, fun k v mx d hc hv hd => h4 k v mx d hv (haft k hc) hd, fun k j d hc hv hd => h5 k j d hv (haft k hc) hd⟩
    have hDi := hdst i hi
    have hsz2 : ∀ v, (b.put (dstOf ops.toArray i) v).tmps.size = a.tmps.size := fun v => by
      cases dstOf ops.toArray i <;> simp [Act.put, h2]
    have hdf : ∀ v, (b.put (dstOf ops.toArray i) v).defers = a.defers := fun v => by
      cases dstOf ops.toArray i <;> exact h1
    have hoth : ∀ v s, some s ≠ dstOf ops.toArray i → slot (b.put (dstOf ops.toArray i) v) s = slot b s := fun v s hs => by
      cases hd : dstOf ops.toArray i with
      | none => rfl
      | some d => exact slotc_ne (fun e => hs (by rw [hd, e]))
    have hold : ∀ v s, some s ∉ D → slot (b.put (dstOf ops.toArray i) v) s = slot a s := fun v s hs => by
      rw [hoth v s (fun e => hs (by rw [e]; exact List.mem_of_getElem? hDi))]; exact h3 s hs
    have hneD : ∀ k d, k ≠ i → D[k]? = some (some d) → some d ≠ dstOf ops.toArray i := fun k d hne hd e => hne (noDup_inj D k i d hnd hd (by rw [hDi, e]))
    cases k with
    | rd v mx =>
      obtain ⟨⟨d, hd⟩, c2, c3⟩ := hok
      have hdd : dstOf ops.toArray i = some d := by rw [hDi] at hd; exact Option.some.inj hd
      have hsm : s ≤ mx := by
        rcases c2 with rfl | ⟨i', hi', hc'⟩
        · exact hsl
        · rcases Nat.lt_or_ge mx s with h | h
          · exfalso
            have hdi := (hiff mx i' hi').2 h
            have := hcl i' i hdi hc'
            rw [hdn] at this; cases this
          · exact h
      obtain ⟨o, ho1, ho2, ho3⟩ := c3 b p s hsm hS hsee
      refine opV_run (v := v) (p := p) o ho1 ho2 ho3 ⟨hdf v, hsz2 v, hold v, ?_, ⟨s, hsl, ?_, hS⟩, hcl2, ?_⟩
      · intro k v' mx' d' hk' hdk hd'
        by_cases hki' : k = i
        · subst hki'
          rw [hki] at hk'; cases hk'
          rw [hd] at hd'; cases hd'
          rw [hdd]; exact slotc_self (by rw [h2]; exact hslot _ _ hd)
        · rw [hoth v d' (hneD k d' hki' hd')]
          exact h4 k v' mx' d' hk' (by rwa [also_ne dn hki'] at hdk) hd'
      · intro j k hj
        have hne : k ≠ i := by
          rintro rfl
          obtain ⟨_, hq⟩ := hst j _ hj
          rw [hki] at hq; cases hq
        rw [also_ne dn hne]; exact hiff j k hj
      · intro k j d' hk' hdk hd'
        have hne : k ≠ i := by rintro rfl; rw [hki] at hk'; cases hk'
        rw [hoth v d' (hneD k d' hne hd')]
        exact h5 k j d' hk' (by rwa [also_ne dn hne] at hdk) hd'
    | st j =>
      obtain ⟨c1, c2, c3⟩ := hok
      have hsj : s = j := by
        have h0 : ¬ j < s := fun h => by
          have := (hiff j i c1).2 h
          rw [hdn] at this; cases this
        rcases c2 with rfl | ⟨i', hi', hc'⟩
        · omega
        · have := (hiff _ i' hi').1 (haft i' hc')
          omega
      subst hsj
      refine opV_mono (fun v p' hv => ?_) (c3 b p hS hsee)
      obtain ⟨hS', hvv⟩ := hv
      refine ⟨hdf v, hsz2 v, hold v, ?_, ⟨s + 1, getc_lt c1, ?_, hS'⟩, hcl2, ?_⟩
      · intro k v' mx' d' hk' hdk hd'
        have hne : k ≠ i := by rintro rfl; rw [hki] at hk'; cases hk'
        rw [hoth v d' (hneD k d' hne hd')]
        exact h4 k v' mx' d' hk' (by rwa [also_ne dn hne] at hdk) hd'
      · intro j2 k hj
        by_cases hki' : k = i
        · subst hki'
          have : j2 = s := (List.getElem?_inj (getc_lt hj) hcn).1 (hj.trans c1.symm)
          subst this
          simp [also_self]
        · rw [also_ne dn hki', hiff j2 k hj]
          have : j2 ≠ s := by rintro rfl; rw [c1] at hj; cases hj; exact hki' rfl
          omega
      · intro k j d' hk' hdk hd'
        by_cases hki' : k = i
        · subst hki'
          rw [hki] at hk'; cases hk'
          have hdd : dstOf ops.toArray k = some d' := by rw [hDi] at hd'; exact Option.some.inj hd'
          rw [hdd]
          rw [slotc_self (by rw [h2]; exact hslot _ _ hd')]
          rcases hvv with h | h
          · rw [hd'] at h; cases h
          · exact h
        · rw [hoth v d' (hneD k d' hki' hd')]
          exact h5 k j d' hk' (by rwa [also_ne dn hki'] at hdk) hd'
  · intro dn b p hall ⟨h1, h2, h3, h4, ⟨s, hsl, hiff, hS⟩, hcl, h5⟩
    have hs : s = ch.length := by
      rcases Nat.lt_or_ge s ch.length with h | h
      · exfalso
        have hj := List.getElem?_eq_getElem h
        obtain ⟨_, hq⟩ := hst s _ hj
        have := (hiff s _ hj).1 (hall _ (by have := getc_lt hq; omega))
        omega
      · omega
    subst hs
    exact hQ b p h1 h2 h3 hS fun k v mx d hv hd => h4 k v mx d hv (hall k (by have := getc_lt hv; omega)) hd
end Go.Bl
namespace Go.Bl
open Go.RowKit
set_option linter.unusedVariables false

inductive GK where
  | rd (v : Value) (mx : Nat)
  | st (j : Nat)
  | gh (j : Nat)
  | mv (j : Nat)
def GK.isSt : Option GK → Bool
  | some (.st _) => true
  | some (.gh _) => true
  | _ => false
def allAtG (f : Nat → GK → Prop) : Nat → List GK → Prop
  | _, [] => True
  | i, k :: l => f i k ∧ allAtG f (i + 1) l
theorem allAtG_get {f : Nat → GK → Prop} : ∀ (l : List GK) (i0 j : Nat) (k : GK), allAtG f i0 l → l[j]? = some k → f (i0 + j) k
  | [], _, _, _, _, h => by simp at h
  | x :: l, i0, 0, k, h, hk => by simp at hk; subst hk; exact h.1
  | x :: l, i0, j + 1, k, h, hk => by
    have := allAtG_get l (i0 + 1) j k h.2 (by simpa using hk)
    rwa [show i0 + 1 + j = i0 + (j + 1) by omega] at this
def upd (g : Nat → Value) (j : Nat) (v : Value) : Nat → Value := fun k => if k = j then v else g k
theorem upd_self (g : Nat → Value) (j : Nat) (v : Value) : upd g j v j = v := by simp [upd]
theorem upd_ne (g : Nat → Value) {j k : Nat} (v : Value) (h : k ≠ j) : upd g j v k = g k := by simp [upd, h]
theorem opV_not {P : Program} {ops : Array Oper} {K : Value → World → Prop} {i : Nat} {a : Act} {u : World} (o : Oper) (ho : ops[i]? = some o) (hg : Region.wanted o (yielded ops a.tmps) = false) (h : K undef u) : opV P ops i a u K := by
  unfold opV
  simp only [ho, hg]
  exact h
theorem unwanted {ops : Array Oper} {o : Oper} {b : Act} (j : Nat) (t : Bool) (d : Nat) (hg : o.guard = some (j, t)) (hd : (ops[j]?).bind (·.dst) = some d) (hl : d < b.tmps.size) (hs : slot b d = .bool (!t)) : Region.wanted o (yielded ops b.tmps) = false := by
  have h : b.tmps[d]? = some (.bool (!t)) := by
    rw [Array.getElem?_eq_getElem hl]
    have : slot b d = b.tmps[d] := by simp [slot, hl]
    rw [← this, hs]
  simp [Region.wanted, hg, yielded, hd, h]
theorem opV_runW {P : Program} {ops : Array Oper} {K : Value → World → Prop} {i : Nat} {a : Act} {u p : World} {v : Value} (o : Oper) (ho : ops[i]? = some o) (hg : Region.wanted o (yielded ops a.tmps) = true) (hr : (execOp a.eval o).run P u = .ok (.value v) p) (h : K v p) : opV P ops i a u K := by
  unfold opV
  simp only [ho, hg, if_true, hr]
  exact h
theorem wanted_none {o : Oper} {y : Nat → Option Bool} (hg : o.guard = none) : Region.wanted o y = true := by simp [Region.wanted, hg]
theorem wanted_some {ops : Array Oper} {o : Oper} {b : Act} (j : Nat) (t : Bool) (d : Nat) (hg : o.guard = some (j, t)) (hd : (ops[j]?).bind (·.dst) = some d) (hl : d < b.tmps.size) (hs : slot b d = .bool t) : Region.wanted o (yielded ops b.tmps) = true := by
  have h : b.tmps[d]? = some (.bool t) := by
    rw [Array.getElem?_eq_getElem hl]
    have : slot b d = b.tmps[d] := by simp [slot, hl]
    rw [← this, hs]
  simp [Region.wanted, hg, yielded, hd, h]
/-- a call of a function -/
theorem opV_func {P : Program} {ops : Array Oper} {i : Nat} {b : Act} {p : World} {K : Value → World → Prop} (o : Oper) (ho : ops[i]? = some o) (hg : Region.wanted o (yielded ops b.tmps) = true) (f : FuncId) (ags : Array Operand) (ts : Array TypeId)
    (hop : o.op = .call { callee := .value (.func f), args := ags, argTypes := ts }) (vs : Array Value) (hv : ags.map b.eval = vs) (hc : (callFunc f vs).run P p = .ok (.enter f vs) p) (H : Calls P f vs p fun e w' => ∃ v, e = .returned v ∧ K v w') : opV P ops i b p K := by
  have hf : b.eval (.func f) = .func (.func f) #[] #[] := rfl
  unfold opV
  simp only [ho, hg, if_true]
  obtain ⟨ρ, hρ⟩ : ∃ ρ, b.eval = ρ := ⟨_, rfl⟩
  rw [hρ] at hv hf ⊢
  have hr : (execOp ρ o).run P p = .ok (.enter f vs) p := by
    unfold execOp
    simp [hop, resolve, invoke, go_sem, hf, hv, hc]
  rw [hr]
  refine H.mono ?_
  rintro e p' ⟨v, rfl, hk⟩
  exact hk
/-- k comes ahead of i, by a chain of at most n -/
def reach (ops : Array Oper) : Nat → Nat → Nat → Bool
  | 0, _, _ => false
  | n + 1, i, k => (afters ops i).any fun m => m == k || reach ops n m k
theorem reach_dn {ops : Array Oper} {dn : Nat → Bool} (hcl : ∀ x k, dn x = true → (afters ops x).contains k = true → dn k = true) : ∀ (n i k : Nat), (∀ m, (afters ops i).contains m = true → dn m = true) → reach ops n i k = true → dn k = true
  | 0, _, _, _, h => by simp [reach] at h
  | n + 1, i, k, h1, h2 => by
    obtain ⟨m, hm, h3⟩ := List.any_eq_true.1 h2
    have hm' : dn m = true := h1 m (by simpa using hm)
    simp only [Bool.or_eq_true, beq_iff_eq] at h3
    rcases h3 with rfl | h3
    · exact hm'
    · exact reach_dn hcl n m k (fun x hx => hcl m x hm' hx) h3
/-- what an operation may lean on -/
structure SeesG (ops : Array Oper) (D : List (Option Nat)) (kl : List GK) (cv g : Nat → Value) (a : Act) (i : Nat) (b : Act) : Prop where
  size : b.tmps.size = a.tmps.size
  old : ∀ s, some s ∉ D → slot b s = slot a s
  rd : ∀ k v mx d, (afters ops i).contains k = true → kl[k]? = some (.rd v mx) → D[k]? = some (some d) → slot b d = v
  st : ∀ k j d, (afters ops i).contains k = true → kl[k]? = some (.st j) → D[k]? = some (some d) → slot b d = cv j
  gh : ∀ k j d, (afters ops i).contains k = true → kl[k]? = some (.gh j) → D[k]? = some (some d) → slot b d = g j
  mv : ∀ k j d, (afters ops i).contains k = true → kl[k]? = some (.mv j) → D[k]? = some (some d) → slot b d = g j
  un : ∀ m d, reach ops 6 m i = true → D[m]? = some (some d) → slot b d = slot a d
def kindOkG (P : Program) (ops : Array Oper) (D : List (Option Nat)) (ch : List Nat) (kl : List GK) (cv : Nat → Value) (St : Nat → (Nat → Value) → World → Prop) (a : Act) (i : Nat) : GK → Prop
  | .rd v mx => (∃ d, D[i]? = some (some d)) ∧ (mx = ch.length ∨ ∃ i', ch[mx]? = some i' ∧ reach ops 6 i' i = true) ∧ ∀ b p s g, s ≤ mx → (∀ j i', ch[j]? = some i' → (afters ops i).contains i' = true → j < s) → St s g p → SeesG ops D kl cv g a i b → ∃ o, ops[i]? = some o ∧ ((Region.wanted o (yielded ops b.tmps) = true ∧ (execOp b.eval o).run P p = .ok (.value v) p) ∨ (Region.wanted o (yielded ops b.tmps) = false ∧ v = undef))
  | .st j => ch[j]? = some i ∧ (j = 0 ∨ ∃ i', ch[j - 1]? = some i' ∧ reach ops 6 i i' = true) ∧ ∀ b p g, St j g p → SeesG ops D kl cv g a i b → opV P ops i b p fun v p' => St (j + 1) g p' ∧ (D[i]? = some none ∨ v = cv j)
  | .gh j => ch[j]? = some i ∧ (j = 0 ∨ ∃ i', ch[j - 1]? = some i' ∧ reach ops 6 i i' = true) ∧ ∀ b p g, St j g p → SeesG ops D kl cv g a i b → opV P ops i b p fun v p' => St (j + 1) (upd g j v) p'
  | .mv j => (∃ d, D[i]? = some (some d)) ∧ (∃ i', ch[j]? = some i' ∧ reach ops 6 i i' = true) ∧ ∀ b p s g, (∀ j i', ch[j]? = some i' → (afters ops i).contains i' = true → j < s) → St s g p → SeesG ops D kl cv g a i b → ∃ o, ops[i]? = some o ∧ Region.wanted o (yielded ops b.tmps) = true ∧ (execOp b.eval o).run P p = .ok (.value (g j)) p
structure GInv (ops : Array Oper) (D : List (Option Nat)) (ch : List Nat) (kl : List GK) (cv : Nat → Value) (St : Nat → (Nat → Value) → World → Prop) (a : Act) (dn : Nat → Bool) (b : Act) (p : World) : Prop where
  defers : b.defers = a.defers
  size : b.tmps.size = a.tmps.size
  old : ∀ s, some s ∉ D → slot b s = slot a s
  rd : ∀ (k : Nat) v mx d, kl[k]? = some (GK.rd v mx) → dn k = true → D[k]? = some (some d) → slot b d = v
  out : ∃ s g, s ≤ ch.length ∧ (∀ (j i : Nat), ch[j]? = some i → (dn i = true ↔ j < s)) ∧ St s g p ∧ (∀ (k j : Nat) d, kl[k]? = some (GK.gh j) → dn k = true → D[k]? = some (some d) → slot b d = g j) ∧ (∀ (k j : Nat), kl[k]? = some (GK.mv j) → dn k = true → j < s) ∧ ∀ (k j : Nat) d, kl[k]? = some (GK.mv j) → dn k = true → D[k]? = some (some d) → slot b d = g j
  cl : ∀ i k, dn i = true → (afters ops i).contains k = true → dn k = true
  st : ∀ (k j : Nat) d, kl[k]? = some (GK.st j) → dn k = true → D[k]? = some (some d) → slot b d = cv j
  un : ∀ (m : Nat) d, D[m]? = some (some d) → dn m = false → slot b d = slot a d
theorem wp_region_ghost {P : Program} {ops : List Oper} {Q : Exit → Act → World → Prop} {id : Nat} {a : Act} {w : World} (hm : P.follows .mixedOrders = true)
    (hlt : ((List.range ops.toArray.size).all fun i => (afters ops.toArray i).all fun k => decide (k < i)) = true)
    (D : List (Option Nat)) (ch : List Nat) (kl : List GK) (cv : Nat → Value) (St : Nat → (Nat → Value) → World → Prop)
    (hD : (List.range ops.toArray.size).map (dstOf ops.toArray) = D) (hnd : noDup D = true) (hDs : D.all (fun d => match d with | some d => decide (d < a.tmps.size) | none => true) = true)
    (hkl : kl.length = ops.toArray.size) (hch : ch.all (fun i => GK.isSt kl[i]?) = true) (hcn : ch.Nodup)
    (h0 : ∀ w1, Fr [] w w1 → ∃ g, St 0 g w1)
    (hk : allAtG (kindOkG P ops.toArray D ch kl cv St a) 0 kl)
    (hQ : ∀ (b : Act) (p : World), b.defers = a.defers → b.tmps.size = a.tmps.size → (∀ s, some s ∉ D → slot b s = slot a s) → (∃ g, St ch.length g p ∧ ∀ (k j : Nat) d, (kl[k]? = some (GK.gh j) ∨ kl[k]? = some (GK.mv j)) → D[k]? = some (some d) → slot b d = g j) → (∀ (k : Nat) v mx d, kl[k]? = some (GK.rd v mx) → D[k]? = some (some d) → slot b d = v) → Q .normal b p) :
    (Code.region id ops.toArray true).wp P Q a w := by
  have hDl : D.length = ops.toArray.size := by have := congrArg List.length hD; simpa using this.symm
  have hdst : ∀ i, i < ops.toArray.size → D[i]? = some (dstOf ops.toArray i) := by
    intro i hi
    have h := congrArg (fun l : List (Option Tmp) => l[i]?) hD
    simp only [List.getElem?_map, List.getElem?_range hi, Option.map_some] at h
    exact h.symm
  have hst : ∀ (j i : Nat), ch[j]? = some i → ∃ j', kl[i]? = some (GK.st j') ∨ kl[i]? = some (GK.gh j') := by
    intro j i hj
    have h := List.all_eq_true.1 hch i (List.mem_of_getElem? hj)
    cases hx : kl[i]? with
    | none => simp [hx, GK.isSt] at h
    | some k =>
      cases k with
      | rd v mx => simp [hx, GK.isSt] at h
      | mv j' => simp [hx, GK.isSt] at h
      | st j' => exact ⟨_, .inl rfl⟩
      | gh j' => exact ⟨_, .inr rfl⟩
  have hkind : ∀ (i : Nat) k, kl[i]? = some k → kindOkG P ops.toArray D ch kl cv St a i k := fun i k hi => by
    have := allAtG_get kl 0 i k hk hi
    rwa [Nat.zero_add] at this
  have hslot : ∀ i d, D[i]? = some (some d) → d < a.tmps.size := fun i d h => by
    have := List.all_eq_true.1 hDs (some d) (List.mem_of_getElem? h)
    exact of_decide_eq_true this
  refine wp_region_inv (GInv ops.toArray D ch kl cv St a) hm hlt ?_ ?_ ?_
  · intro w1 hw1
    obtain ⟨g, hg⟩ := h0 w1 hw1
    exact ⟨rfl, rfl, fun _ _ => rfl, (fun _ _ _ _ _ h => by cases h), ⟨0, g, Nat.zero_le _, fun j i _ => ⟨fun h => by (cases h), fun h => by omega⟩, hg, (fun _ _ _ _ h => by cases h), (fun _ _ _ h => by cases h), fun _ _ _ _ h => by cases h⟩, (fun _ _ h => by cases h), (fun _ _ _ _ h => by cases h), fun _ _ _ _ => rfl⟩
  · intro i hi dn b p hdn haft ⟨h1, h2, h3, h4, ⟨s, g, hsl, hiff, hS, h6, h7, h8⟩, hcl, h5, hun⟩
    have hcl2 : ∀ x k, also dn i x = true → (afters ops.toArray x).contains k = true → also dn i k = true := fun x k hx hk => by
      by_cases hki : k = i
      · subst hki; exact also_self dn k
      · rw [also_ne dn hki]
        by_cases hxi : x = i
        · subst hxi; exact haft k hk
        · rw [also_ne dn hxi] at hx; exact hcl x k hx hk
    obtain ⟨k, hki⟩ : ∃ k, kl[i]? = some k := ⟨_, List.getElem?_eq_getElem (by omega)⟩
    have hok := hkind i k hki
    have hsee : SeesG ops.toArray D kl cv g a i b := ⟨h2, h3, fun k v mx d hc hv hd => h4 k v mx d hv (haft k hc) hd, fun k j d hc hv hd => h5 k j d hv (haft k hc) hd, fun k j d hc hv hd => h6 k j d hv (haft k hc) hd, fun k j d hc hv hd => h8 k j d hv (haft k hc) hd, fun m d hr hd => hun m d hd (by
      cases hm : dn m with
      | false => rfl
      | true => rw [← hdn]; exact (reach_dn hcl 6 m i (fun x hx => hcl m x hm hx) hr).symm)⟩
    have hDi := hdst i hi
    have hsz2 : ∀ v, (b.put (dstOf ops.toArray i) v).tmps.size = a.tmps.size := fun v => by
      cases dstOf ops.toArray i <;> simp [Act.put, h2]
    have hdf : ∀ v, (b.put (dstOf ops.toArray i) v).defers = a.defers := fun v => by
      cases dstOf ops.toArray i <;> exact h1
    have hoth : ∀ v s, some s ≠ dstOf ops.toArray i → slot (b.put (dstOf ops.toArray i) v) s = slot b s := fun v s hs => by
      cases hd : dstOf ops.toArray i with
      | none => rfl
      | some d => exact slotc_ne (fun e => hs (by rw [hd, e]))
    have hold : ∀ v s, some s ∉ D → slot (b.put (dstOf ops.toArray i) v) s = slot a s := fun v s hs => by
      rw [hoth v s (fun e => hs (by rw [e]; exact List.mem_of_getElem? hDi))]; exact h3 s hs
    have hneD : ∀ k d, k ≠ i → D[k]? = some (some d) → some d ≠ dstOf ops.toArray i := fun k d hne hd e => hne (noDup_inj D k i d hnd hd (by rw [hDi, e]))
    have hun2 : ∀ v (m : Nat) d, D[m]? = some (some d) → also dn i m = false → slot (b.put (dstOf ops.toArray i) v) d = slot a d := fun v m d hd hm => by
      have hne : m ≠ i := by rintro rfl; rw [also_self] at hm; cases hm
      rw [also_ne dn hne] at hm
      rw [hoth v d (hneD m d hne hd)]
      exact hun m d hd hm
    have hrd' : ∀ v, (∀ v' mx', kl[i]? ≠ some (GK.rd v' mx')) → ∀ (k : Nat) v' mx' d', kl[k]? = some (GK.rd v' mx') → also dn i k = true → D[k]? = some (some d') → slot (b.put (dstOf ops.toArray i) v) d' = v' := fun v hn k v' mx' d' hk' hdk hd' => by
      have hne : k ≠ i := by rintro rfl; exact hn _ _ hk'
      rw [hoth v d' (hneD k d' hne hd')]
      exact h4 k v' mx' d' hk' (by rwa [also_ne dn hne] at hdk) hd'
    cases k with
    | rd v mx =>
      obtain ⟨⟨d, hd⟩, c2, c3⟩ := hok
      have hdd : dstOf ops.toArray i = some d := by rw [hDi] at hd; exact Option.some.inj hd
      have hsm : s ≤ mx := by
        rcases c2 with rfl | ⟨i', hi', hc'⟩
        · exact hsl
        · rcases Nat.lt_or_ge mx s with h | h
          · exfalso
            have hdi := (hiff mx i' hi').2 h
            have := reach_dn hcl 6 i' i (fun m hm => hcl i' m hdi hm) hc'
            rw [hdn] at this; cases this
          · exact h
      obtain ⟨o, ho1, ho23⟩ := c3 b p s g hsm (fun j i' hj hc => (hiff j i' hj).1 (haft i' hc)) hS hsee
      have hni : ∀ (k j : Nat), kl[k]? = some (GK.gh j) ∨ kl[k]? = some (GK.st j) → k ≠ i := by
        rintro k j h rfl
        rw [hki] at h
        rcases h with h | h <;> cases h
      have hnm : ∀ (k j : Nat), kl[k]? = some (GK.mv j) → k ≠ i := by
        rintro k j h rfl
        rw [hki] at h
        cases h
      suffices hres : GInv ops.toArray D ch kl cv St a (also dn i) (b.put (dstOf ops.toArray i) v) p by
        rcases ho23 with ⟨ho2, ho3⟩ | ⟨ho2, rfl⟩
        · exact opV_runW (v := v) (p := p) o ho1 ho2 ho3 hres
        · exact opV_not o ho1 ho2 hres
      refine ⟨hdf v, hsz2 v, hold v, ?_, ⟨s, g, hsl, ?_, hS, ?_, ?_, ?_⟩, hcl2, ?_, hun2 _⟩
      · intro k v' mx' d' hk' hdk hd'
        by_cases hki' : k = i
        · subst hki'
          rw [hki] at hk'; cases hk'
          rw [hd] at hd'; cases hd'
          rw [hdd]; exact slotc_self (by rw [h2]; exact hslot _ _ hd)
        · rw [hoth v d' (hneD k d' hki' hd')]
          exact h4 k v' mx' d' hk' (by rwa [also_ne dn hki'] at hdk) hd'
      · intro j k hj
        have hne : k ≠ i := by
          obtain ⟨_, hq⟩ := hst j _ hj
          exact hni k _ hq.symm
        rw [also_ne dn hne]; exact hiff j k hj
      · intro k j d' hk' hdk hd'
        have hne := hni k j (.inl hk')
        rw [hoth v d' (hneD k d' hne hd')]
        exact h6 k j d' hk' (by rwa [also_ne dn hne] at hdk) hd'
      · intro k j hk' hdk
        exact h7 k j hk' (by rwa [also_ne dn (hnm k j hk')] at hdk)
      · intro k j d' hk' hdk hd'
        have hne := hnm k j hk'
        rw [hoth v d' (hneD k d' hne hd')]
        exact h8 k j d' hk' (by rwa [also_ne dn hne] at hdk) hd'
      · intro k j d' hk' hdk hd'
        have hne := hni k j (.inr hk')
        rw [hoth v d' (hneD k d' hne hd')]
        exact h5 k j d' hk' (by rwa [also_ne dn hne] at hdk) hd'
    | st j =>
      obtain ⟨c1, c2, c3⟩ := hok
      have hsj : s = j := by
        have h0 : ¬ j < s := fun h => by
          have := (hiff j i c1).2 h
          rw [hdn] at this; cases this
        rcases c2 with rfl | ⟨i', hi', hc'⟩
        · omega
        · have := (hiff _ i' hi').1 (reach_dn hcl 6 i i' haft hc')
          omega
      subst hsj
      refine opV_mono (fun v p' hv => ?_) (c3 b p g hS hsee)
      obtain ⟨hS', hvv⟩ := hv
      refine ⟨hdf v, hsz2 v, hold v, hrd' v (fun v' mx' h => by rw [hki] at h; cases h), ⟨s + 1, g, getc_lt c1, ?_, hS', ?_, ?_, ?_⟩, hcl2, ?_, hun2 _⟩
      · intro j2 k hj
        by_cases hki' : k = i
        · subst hki'
          have : j2 = s := (List.getElem?_inj (getc_lt hj) hcn).1 (hj.trans c1.symm)
          subst this
          simp [also_self]
        · rw [also_ne dn hki', hiff j2 k hj]
          have : j2 ≠ s := by rintro rfl; rw [c1] at hj; cases hj; exact hki' rfl
          omega
      · intro k j d' hk' hdk hd'
        have hne : k ≠ i := by rintro rfl; rw [hki] at hk'; cases hk'
        rw [hoth v d' (hneD k d' hne hd')]
        exact h6 k j d' hk' (by rwa [also_ne dn hne] at hdk) hd'
      · intro k j hk' hdk
        have hne : k ≠ i := by rintro rfl; rw [hki] at hk'; cases hk'
        have := h7 k j hk' (by rwa [also_ne dn hne] at hdk)
        omega
      · intro k j d' hk' hdk hd'
        have hne : k ≠ i := by rintro rfl; rw [hki] at hk'; cases hk'
        rw [hoth v d' (hneD k d' hne hd')]
        exact h8 k j d' hk' (by rwa [also_ne dn hne] at hdk) hd'
      · intro k j d' hk' hdk hd'
        by_cases hki' : k = i
        · subst hki'
          rw [hki] at hk'; cases hk'
          have hdd : dstOf ops.toArray k = some d' := by rw [hDi] at hd'; exact Option.some.inj hd'
          rw [hdd]
          rw [slotc_self (by rw [h2]; exact hslot _ _ hd')]
          rcases hvv with h | h
          · rw [hd'] at h; cases h
          · exact h
        · rw [hoth v d' (hneD k d' hki' hd')]
          exact h5 k j d' hk' (by rwa [also_ne dn hki'] at hdk) hd'
    | gh j =>
      obtain ⟨c1, c2, c3⟩ := hok
      have hsj : s = j := by
        have h0 : ¬ j < s := fun h => by
          have := (hiff j i c1).2 h
          rw [hdn] at this; cases this
        rcases c2 with rfl | ⟨i', hi', hc'⟩
        · omega
        · have := (hiff _ i' hi').1 (reach_dn hcl 6 i i' haft hc')
          omega
      subst hsj
      refine opV_mono (fun v p' hS' => ?_) (c3 b p g hS hsee)
      refine ⟨hdf v, hsz2 v, hold v, hrd' v (fun v' mx' h => by rw [hki] at h; cases h), ⟨s + 1, upd g s v, getc_lt c1, ?_, hS', ?_, ?_, ?_⟩, hcl2, ?_, hun2 _⟩
      · intro j2 k hj
        by_cases hki' : k = i
        · subst hki'
          have : j2 = s := (List.getElem?_inj (getc_lt hj) hcn).1 (hj.trans c1.symm)
          subst this
          simp [also_self]
        · rw [also_ne dn hki', hiff j2 k hj]
          have : j2 ≠ s := by rintro rfl; rw [c1] at hj; cases hj; exact hki' rfl
          omega
      · intro k j d' hk' hdk hd'
        by_cases hki' : k = i
        · subst hki'
          rw [hki] at hk'; cases hk'
          have hdd : dstOf ops.toArray k = some d' := by rw [hDi] at hd'; exact Option.some.inj hd'
          rw [hdd, slotc_self (by rw [h2]; exact hslot _ _ hd'), upd_self]
        · have hjs : j ≠ s := by
            rintro rfl
            have := (hkind k _ hk').1
            rw [c1] at this
            cases this
            exact hki' rfl
          rw [hoth v d' (hneD k d' hki' hd'), upd_ne g v hjs]
          exact h6 k j d' hk' (by rwa [also_ne dn hki'] at hdk) hd'
      · intro k j hk' hdk
        have hne : k ≠ i := by rintro rfl; rw [hki] at hk'; cases hk'
        have := h7 k j hk' (by rwa [also_ne dn hne] at hdk)
        omega
      · intro k j d' hk' hdk hd'
        have hne : k ≠ i := by rintro rfl; rw [hki] at hk'; cases hk'
        have hdk' : dn k = true := by rwa [also_ne dn hne] at hdk
        have hlt := h7 k j hk' hdk'
        rw [hoth v d' (hneD k d' hne hd'), upd_ne g v (by omega)]
        exact h8 k j d' hk' hdk' hd'
      · intro k j d' hk' hdk hd'
        have hne : k ≠ i := by rintro rfl; rw [hki] at hk'; cases hk'
        rw [hoth v d' (hneD k d' hne hd')]
        exact h5 k j d' hk' (by rwa [also_ne dn hne] at hdk) hd'
    | mv j =>
      obtain ⟨⟨d, hd⟩, ⟨i', hi', hr'⟩, c3⟩ := hok
      have hdd : dstOf ops.toArray i = some d := by rw [hDi] at hd; exact Option.some.inj hd
      have hjs : j < s := (hiff j i' hi').1 (reach_dn hcl 6 i i' haft hr')
      obtain ⟨o, ho1, ho2, ho3⟩ := c3 b p s g (fun j i' hj hc => (hiff j i' hj).1 (haft i' hc)) hS hsee
      have hni : ∀ (k j : Nat), kl[k]? = some (GK.gh j) ∨ kl[k]? = some (GK.st j) → k ≠ i := by
        rintro k j h rfl
        rw [hki] at h
        rcases h with h | h <;> cases h
      refine opV_runW (v := g j) (p := p) o ho1 ho2 ho3 ⟨hdf _, hsz2 _, hold _, hrd' _ (fun v' mx' h => by rw [hki] at h; cases h), ⟨s, g, hsl, ?_, hS, ?_, ?_, ?_⟩, hcl2, ?_, hun2 _⟩
      · intro j2 k hj
        have hne : k ≠ i := by
          obtain ⟨_, hq⟩ := hst j2 _ hj
          exact hni k _ hq.symm
        rw [also_ne dn hne]; exact hiff j2 k hj
      · intro k j2 d' hk' hdk hd'
        have hne := hni k j2 (.inl hk')
        rw [hoth _ d' (hneD k d' hne hd')]
        exact h6 k j2 d' hk' (by rwa [also_ne dn hne] at hdk) hd'
      · intro k j2 hk' hdk
        by_cases hki' : k = i
        · subst hki'
          rw [hki] at hk'; cases hk'
          exact hjs
        · exact h7 k j2 hk' (by rwa [also_ne dn hki'] at hdk)
      · intro k j2 d' hk' hdk hd'
        by_cases hki' : k = i
        · subst hki'
          rw [hki] at hk'; cases hk'
          rw [hd] at hd'; cases hd'
          rw [hdd]; exact slotc_self (by rw [h2]; exact hslot _ _ hd)
        · rw [hoth _ d' (hneD k d' hki' hd')]
          exact h8 k j2 d' hk' (by rwa [also_ne dn hki'] at hdk) hd'
      · intro k j2 d' hk' hdk hd'
        have hne := hni k j2 (.inr hk')
        rw [hoth _ d' (hneD k d' hne hd')]
        exact h5 k j2 d' hk' (by rwa [also_ne dn hne] at hdk) hd'
  · intro dn b p hall ⟨h1, h2, h3, h4, ⟨s, g, hsl, hiff, hS, h6, h7, h8⟩, hcl, h5, hun⟩
    have hs : s = ch.length := by
      rcases Nat.lt_or_ge s ch.length with h | h
      · exfalso
        have hj := List.getElem?_eq_getElem h
        obtain ⟨_, hq⟩ := hst s _ hj
        have hlt : ch[s] < kl.length := by rcases hq with hq | hq <;> exact getc_lt hq
        have := (hiff s _ hj).1 (hall _ (by omega))
        omega
      · omega
    subst hs
    exact hQ b p h1 h2 h3 ⟨g, hS, fun k j d hv hd => by
      rcases hv with hv | hv
      · exact h6 k j d hv (hall k (by have := getc_lt hv; omega)) hd
      · exact h8 k j d hv (hall k (by have := getc_lt hv; omega)) hd⟩ fun k v mx d hv hd => h4 k v mx d hv (hall k (by have := getc_lt hv; omega)) hd
end Go.Bl
namespace Go.Bl
open Go.RowKit
set_option linter.unusedVariables false

/-- the row stays or is a new one -/
def Moved (w : World) (v v' : Value) : Prop := v'.ownBlock = v.ownBlock ∨ ∀ g, v'.ownBlock = some g → w.heap.size ≤ g
theorem run_append_moved {P : Program} {w : World} {A : Nat → Prop} (base : Nat) (t ty e : TypeId) (i : TypeInfo) (z : Value) (size bytes : Nat) (ht : P.underlying t = some (.slice e)) (hi : P.info? e = some i) (hz : i.zero = some z)
    (hsize : i.size = size) (hby : i.bytes = bytes) (hzs : z.cells.size = size) (hsz : 0 < size)
    (v : Value) (n : Nat) (xs : List Value) (hown : w.ownsRow base e size v n xs)
    (a : Option Addr) (m c : Nat) (news : List Value) (hl : news.length = m * size) (hnews : Row A w a news) (h1 : ∀ u ∈ news, u.oneCell' = true)
    (h63 : n + m ≤ maxLen) (hbytes : (n + m) * bytes ≤ 140737488355328) (hbase : base ≤ w.heap.size) {v' : Value} {w' : World}
    (hr : (Builtin.append_ #[t, t] ty #[v, .slice a m c]).run P w = .ok v' w') : Moved w v v' := by
  have same : ∀ {x : Value} {y : World}, (Builtin.append_ #[t, t] ty #[v, .slice a m c]).run P w = .ok x y → v' = x := fun h => by rw [hr] at h; cases h; rfl
  rcases hown.2 with ⟨rfl, rfl⟩ | ⟨g, cap, cur, rfl, hbg, hg, hnc, hcm, hcs, htake⟩
  · obtain ⟨x, y, h, ho, -⟩ := run_append_row (P := P) (w := w) (A := A) w.heap.size t ty e i z size bytes ht hi hz hsize hby hzs hsz (.slice none 0 0) 0 xs ⟨hown.1, .inl ⟨rfl, rfl⟩⟩ a m c news hl hnews h1 h63 hbytes (Nat.le_refl _)
    rw [same h]
    exact .inr fun g hg => (ho.lt g hg).1
  · cases a with
    | none =>
      obtain ⟨x, y, h, -, -⟩ := run_append_row (P := P) (w := w) (A := A) base t ty e i z size bytes ht hi hz hsize hby hzs hsz _ n xs hown none m c news hl hnews h1 h63 hbytes hbase
      have hn : news = [] := by
        rcases hnews with h | ⟨b, off, c, e, fz, h, _⟩
        · exact h
        · cases h
      subst hn
      have hm : m = 0 := by
        simp only [List.length_nil] at hl
        rcases Nat.eq_zero_or_pos m with h | h
        · exact h
        · have := Nat.mul_pos h hsz; omega
      subst hm
      have h0 : (Builtin.append_ #[t, t] ty #[.slice (some ⟨g, 0, none⟩) n cap, .slice none 0 c]).run P w = .ok (.slice (some ⟨g, 0, none⟩) n cap) w := by
        simp [Builtin.append_, run_underlying ht, sizeOf, typeInfo, hi, Builtin.lenOf, Builtin.firstCells, hnc, storeCells]
      rw [same h0]
      exact .inl rfl
    | some ad =>
      have hcells : ∀ j u, news[j]? = some u → w.cell? (ad.add j) = some u := fun j u hj => by
        have hlt : j < news.length := by
          rcases Nat.lt_or_ge j news.length with h | h
          · exact h
          · rw [List.getElem?_eq_none h] at hj; cases hj
        rw [hnews.cell j hlt, hj]
      subst hsize
      subst hby
      by_cases hroom : n + m ≤ cap
      · have hfit : n * i.size + news.length ≤ cur.size := by rw [hl, hcs, ← Nat.add_mul]; exact Nat.mul_le_mul_right _ hroom
        rw [same (run_append_room (P := P) w t ty e i ht hi g n cap cur hg ad m c news hl hcells h1 hroom hfit)]
        exact .inl rfl
      · have holds : ∀ j u, xs[j]? = some u → w.cell? ((⟨g, 0, none⟩ : Addr).add j) = some u := hown.cells (g := g) rfl
        rw [same (run_append_grow (P := P) w t ty e i z ht hi hz ⟨g, 0, none⟩ n cap xs hown.1 holds ad m c news hl hcells (by omega) (by simp only [maxLen] at h63; omega) (growslice_fits (by omega) hbytes))]
        exact .inr fun k hk => by simp [Value.ownBlock] at hk; omega
/-- an append in its place: a row of one's own grows by a piece that lies elsewhere -/
theorem opV_append_bs {P : Program} {ops : Array Oper} {k : Nat} {w : World} {o : Oper} {a : Act} {K : Value → World → Prop} {A : Nat → Prop} {t e : TypeId} (hk : ops[k]? = some o) (hgd : o.guard = none)
    (ht : P.underlying t = some (.slice e)) (hinfo : (P.info? e).map (fun i => (i.zero, i.size, i.bytes)) = some (some (.int .u8 0), 1, 1)) (s x : Operand)
    (ho : o.op = .call { callee := .builtin .append, args := #[s, x], argTypes := #[t, t] })
    {base : Nat} {v u : Value} {xs ys : List UInt8} (hs : a.eval s = v) (hx : a.eval x = u) (hown : OwnB e base w v xs) (hb : Bs A w u ys)
    (hlen : xs.length + ys.length ≤ 140737488355328) (hbase : base ≤ w.heap.size)
    (h : ∀ v' w', OwnB e base w' v' (xs ++ ys) → w.grownBy w' v.ownBlock → Moved w v v' → K v' w') : opV P ops k a w K := by
  obtain ⟨i, hi, hz, hsz, hby⟩ := info_bytes hinfo
  obtain ⟨ad, cap, rfl, h2, h3, h4⟩ := hb
  obtain ⟨v', w', hr, h5, h6⟩ := run_append_row (P := P) (w := w) base t o.type e i (.int .u8 0) 1 1 ht hi hz hsz hby rfl (by decide) v xs.length _ hown ad ys.length cap (ys.map u8v) (by simp) h4 (u8v_one _) (by simp only [maxLen]; omega) (by omega) hbase
  have hmv := run_append_moved (P := P) (w := w) base t o.type e i (.int .u8 0) 1 1 ht hi hz hsz hby rfl (by decide) v xs.length _ hown ad ys.length cap (ys.map u8v) (by simp) h4 (u8v_one _) (by simp only [maxLen]; omega) (by omega) hbase hr
  refine opV_run (v := v') (p := w') o hk hgd ?_ (h v' w' ?_ h6 hmv)
  · unfold execOp
    simp only [ho, resolve, invoke, builtin, Sem.run_bind, Sem.run_pure, Result.andThen_ok, List.map_toArray, List.map_cons, List.map_nil, hs, hx, hr]
  · unfold OwnB
    rw [List.length_append, List.map_append]
    exact h5
/-- bytes that lie apart from the row v -/
def Pc (v : Value) (w : World) (u : Value) (ys : List UInt8) : Prop := Bs (fun b => v.ownBlock = some b) w u ys
theorem Pc.keep {v u : Value} {w w' : World} {ys : List UInt8} (h : Pc v w u ys) (hf : Fr [] w w') : Pc v w' u ys := Bs.keep h hf (by simp)
theorem Pc.moved {v v' u : Value} {w w' : World} {ys : List UInt8} (h : Pc v w u ys) (hg : w.grownBy w' v.ownBlock) (hm : Moved w v v') : Pc v' w' u ys :=
  Bs.mono h (Fr.grown (S := v.ownBlock.toList) hg fun k hk => by simp [hk]) (by simp) fun b hb => by
    rcases hm with e | h
    · exact .inl (e ▸ hb)
    · exact .inr (h b hb)
theorem Pc.new {e : TypeId} {base : Nat} {v u : Value} {w p : World} {xs ys : List UInt8} (hown : OwnB e base w v xs) (h : OwnB e w.heap.size p u ys) : Pc v p u ys :=
  h.bs fun b hb => (hown.lt b hb).2
theorem OwnB.grown {e : TypeId} {base : Nat} {w0 w w' : World} {v : Value} {xs : List UInt8} (hown : OwnB e base w v xs) (h : Fr [] w0 w) (hg : w.grownBy w' v.ownBlock) (hb : w0.heap.size ≤ base) : Fr [] w0 w' := OwnB.fr hown h hg hb
/-! a region that appends pieces, one after another, to a row of one's own: 'x = append(append(x, ..), ..)' -/
inductive PK where
  | mv
  | rd (v : Value)
  | pc (ys : List UInt8)
  | ap (j q : Nat) (ys : List UInt8)
  | fin
def PK.isAp : Option PK → Bool
  | some (.ap _ _ _) => true
  | _ => false
def allAt (f : Nat → PK → Prop) : Nat → List PK → Prop
  | _, [] => True
  | i, k :: l => f i k ∧ allAt f (i + 1) l
theorem allAt_get {f : Nat → PK → Prop} : ∀ (l : List PK) (i0 j : Nat) (k : PK), allAt f i0 l → l[j]? = some k → f (i0 + j) k
  | [], _, _, _, _, h => by simp at h
  | x :: l, i0, 0, k, h, hk => by simp at hk; subst hk; exact h.1
  | x :: l, i0, j + 1, k, h, hk => by
    have := allAt_get l (i0 + 1) j k h.2 (by simpa using hk)
    rwa [show i0 + 1 + j = i0 + (j + 1) by omega] at this
def dS (L : List Nat) (i : Nat) : Nat := L.getD i 0
def outS (L ch : List Nat) : Nat → Nat
  | 0 => dS L 0
  | s + 1 => dS L (ch.getD s 0)
theorem slotp_self {a : Act} {d : Nat} {v : Value} (h : d < a.tmps.size) : slot (a.put (some d) v) d = v := by simp [slot, Act.put, h]
theorem slotp_ne {a : Act} {d k : Nat} {v : Value} (h : k ≠ d) : slot (a.put (some d) v) k = slot a k := by
  simp only [slot, Act.put, Array.getD_eq_getD_getElem?]
  rw [Array.getElem?_setIfInBounds_ne (Ne.symm h)]
/-- what an operation may lean on -/
structure Sees (ops : Array Oper) (L : List Nat) (kl : List PK) (S : List Nat) (a : Act) (w : World) (i : Nat) (b : Act) (p : World) : Prop where
  fr : Fr S w p
  old : ∀ s, s ∉ L → slot b s = slot a s
  rd : ∀ k v, (afters ops i).contains k = true → kl[k]? = some (.rd v) → slot b (dS L k) = v
def kindOk (P : Program) (ops : Array Oper) (t : TypeId) (L ch : List Nat) (pcs : List (List UInt8)) (kl : List PK) (fi : Nat) (S : List Nat) (a : Act) (w : World) (i : Nat) : PK → Prop
  | .mv => i = 0 ∧ ∃ o, ops[i]? = some o ∧ o.guard = none ∧ o.op = .move (.tmp (dS L fi))
  | .fin => i = fi ∧ ∃ o, ops[i]? = some o ∧ o.guard = none ∧ o.op = .assign (.tmp (outS L ch ch.length)) ∧ ∃ i', ch[ch.length - 1]? = some i' ∧ (afters ops i).contains i' = true
  | .rd v => i ≠ 0 ∧ i ≠ fi ∧ ∀ b p, Sees ops L kl S a w i b p → ∃ o, ops[i]? = some o ∧ o.guard = none ∧ (execOp b.eval o).run P p = .ok (.value v) p
  | .pc ys => i ≠ 0 ∧ i ≠ fi ∧ ∀ b p, Sees ops L kl S a w i b p → opV P ops i b p fun u p' => Fr [] p p' ∧ Bs (fun g => g < p.heap.size) p' u ys
  | .ap j q ys => i ≠ 0 ∧ i ≠ fi ∧ ch[j]? = some i ∧ pcs[j]? = some ys ∧ (afters ops i).contains q = true ∧ kl[q]? = some (.pc ys) ∧ (j = 0 ∧ (afters ops i).contains 0 = true ∨ ∃ i', ch[j - 1]? = some i' ∧ (afters ops i).contains i' = true) ∧
      ∃ o, ops[i]? = some o ∧ o.guard = none ∧ o.op = .call { callee := .builtin .append, args := #[.tmp (outS L ch j), .tmp (dS L q)], argTypes := #[t, t] }
structure AOut (e : TypeId) (base : Nat) (L ch : List Nat) (pcs : List (List UInt8)) (kl : List PK) (fi : Nat) (v0 : Value) (xs : List UInt8) (w : World) (dn : Nat → Bool) (b : Act) (p : World) (s : Nat) (vc : Value) : Prop where
  le : s ≤ ch.length
  iff : ∀ (j i : Nat), ch[j]? = some i → (dn i = true ↔ j < s)
  own : OwnB e base p vc (xs ++ (pcs.take s).flatten)
  mv : Moved w v0 vc
  z : s = 0 → vc = v0
  sl : 0 < s → slot b (outS L ch s) = vc
  d0 : 0 < s → dn 0 = true
  f0 : dn 0 = true → slot b (dS L 0) = v0
  fd : dn fi = true → s = ch.length ∧ slot b (dS L fi) = vc
  fn : dn fi = false → slot b (dS L fi) = v0
  pc : ∀ (i : Nat) ys, kl[i]? = some (PK.pc ys) → dn i = true → Pc vc p (slot b (dS L i)) ys
structure AInv (e : TypeId) (base : Nat) (L ch : List Nat) (pcs : List (List UInt8)) (kl : List PK) (fi : Nat) (v0 : Value) (xs : List UInt8) (a : Act) (w : World) (dn : Nat → Bool) (b : Act) (p : World) : Prop where
  defers : b.defers = a.defers
  size : b.tmps.size = a.tmps.size
  old : ∀ s, s ∉ L → slot b s = slot a s
  fr : Fr v0.ownBlock.toList w p
  rd : ∀ (i : Nat) v, kl[i]? = some (PK.rd v) → dn i = true → slot b (dS L i) = v
  out : ∃ s vc, AOut e base L ch pcs kl fi v0 xs w dn b p s vc
theorem dS_inj {L : List Nat} (hn : L.Nodup) {i j : Nat} (hi : i < L.length) (hj : j < L.length) (h : dS L i = dS L j) : i = j := by
  simp only [dS, List.getD_eq_getElem?_getD, List.getElem?_eq_getElem hi, List.getElem?_eq_getElem hj, Option.getD_some] at h
  exact (List.getElem?_inj hi hn).1 (by rw [List.getElem?_eq_getElem hi, List.getElem?_eq_getElem hj, h])
theorem dS_mem {L : List Nat} {i : Nat} (hi : i < L.length) : dS L i ∈ L := by
  simp only [dS, List.getD_eq_getElem?_getD, List.getElem?_eq_getElem hi, Option.getD_some]
  exact List.getElem_mem hi
theorem lt_of_get {α : Type} {l : List α} {i : Nat} {x : α} (h : l[i]? = some x) : i < l.length := (List.getElem?_eq_some_iff.1 h).1
theorem flat_le (l : List (List UInt8)) : ∀ s, (l.take s).flatten.length ≤ l.flatten.length := by
  intro s
  conv => rhs; rw [← List.take_append_drop s l, List.flatten_append, List.length_append]
  omega
theorem outS_succ {L ch : List Nat} {s i : Nat} (h : ch[s]? = some i) : outS L ch (s + 1) = dS L i := by
  show dS L (ch.getD s 0) = _
  rw [List.getD_eq_getElem?_getD, h, Option.getD_some]
/-- what is appended so far stands over an operation that is no append -/
theorem AOut.step {e : TypeId} {base : Nat} {L ch : List Nat} {pcs : List (List UInt8)} {kl : List PK} {fi : Nat} {v0 : Value} {xs : List UInt8} {w : World} {dn : Nat → Bool} {b : Act} {p : World} {s : Nat} {vc : Value}
    (h : AOut e base L ch pcs kl fi v0 xs w dn b p s vc) {i : Nat} {v : Value} {p' : World} (hne : ∀ k, k < L.length → k ≠ i → dS L k ≠ dS L i) (hsz : dS L i < b.tmps.size) (hf : Fr [] p p') (hl : kl.length = L.length) (hfi : fi < L.length)
    (hcl : ∀ (j k : Nat), ch[j]? = some k → k < L.length ∧ k ≠ i) (h0 : i ≠ 0) (hi : i ≠ fi) (hpc : ∀ ys, kl[i]? = some (PK.pc ys) → Pc vc p' v ys) : AOut e base L ch pcs kl fi v0 xs w (also dn i) (b.put (some (dS L i)) v) p' s vc := by
  have h0l : 0 < L.length := by omega
  refine ⟨h.le, fun j k hj => ?_, h.own.keep hf (by simp), h.mv, h.z, fun hs => ?_, fun hs => ?_, fun hd => ?_, fun hd => ?_, fun hd => ?_, fun k ys hk hd => ?_⟩
  · rw [also_ne dn (hcl j k hj).2]; exact h.iff j k hj
  · rw [slotp_ne ?_]
    · exact h.sl hs
    · obtain ⟨s', rfl⟩ : ∃ s', s = s' + 1 := ⟨s - 1, by omega⟩
      have hs' := List.getElem?_eq_getElem (show s' < ch.length by have := h.le; omega)
      rw [outS_succ hs']
      exact hne _ (hcl _ _ hs').1 (hcl _ _ hs').2
  · rw [also_ne dn (Ne.symm h0)]; exact h.d0 hs
  · rw [also_ne dn (Ne.symm h0)] at hd
    rw [slotp_ne (hne 0 h0l (Ne.symm h0))]; exact h.f0 hd
  · rw [also_ne dn (Ne.symm hi)] at hd
    rw [slotp_ne (hne fi hfi (Ne.symm hi))]; exact h.fd hd
  · rw [also_ne dn (Ne.symm hi)] at hd
    rw [slotp_ne (hne fi hfi (Ne.symm hi))]; exact h.fn hd
  · by_cases hki : k = i
    · subst hki
      rw [slotp_self hsz]; exact hpc ys hk
    · rw [also_ne dn hki] at hd
      rw [slotp_ne (hne k (by have := lt_of_get hk; omega) hki)]
      exact (h.pc k ys hk hd).keep hf

theorem wp_region_app {P : Program} {ops : List Oper} {Q : Exit → Act → World → Prop} {id : Nat} {a : Act} {w : World} {t e : TypeId} (hm : P.follows .mixedOrders = true)
    (hlt : ((List.range ops.toArray.size).all fun i => (afters ops.toArray i).all fun k => decide (k < i)) = true)
    (ht : P.underlying t = some (.slice e)) (hinfo : (P.info? e).map (fun i => (i.zero, i.size, i.bytes)) = some (some (.int .u8 0), 1, 1))
    (L ch : List Nat) (pcs : List (List UInt8)) (kl : List PK) (fi : Nat) (base : Nat) (v0 : Value) (xs : List UInt8)
    (hL : (List.range ops.toArray.size).map (dstOf ops.toArray) = L.map some) (hnd : L.Nodup) (hLs : L.all (fun d => decide (d < a.tmps.size)) = true)
    (hkl : kl.length = ops.toArray.size) (hch : ch.all (fun i => PK.isAp kl[i]?) = true) (hcn : ch.Nodup) (hcp : 0 < ch.length) (hfi : fi < ops.toArray.size) (hfz : fi ≠ 0)
    (hv0 : slot a (dS L fi) = v0) (hown : OwnB e base w v0 xs) (hbase : base ≤ w.heap.size) (hlen : xs.length + pcs.flatten.length ≤ 140737488355328) (hpl : pcs.length = ch.length)
    (hk : allAt (kindOk P ops.toArray t L ch pcs kl fi v0.ownBlock.toList a w) 0 kl)
    (hQ : ∀ (b : Act) (p : World), b.defers = a.defers → b.tmps.size = a.tmps.size → (∀ s, s ∉ L → slot b s = slot a s) → OwnB e base p (slot b (dS L fi)) (xs ++ pcs.flatten) → Fr v0.ownBlock.toList w p → Moved w v0 (slot b (dS L fi)) →
      (∀ (i : Nat) v, kl[i]? = some (PK.rd v) → slot b (dS L i) = v) → Q .normal b p) : (Code.region id ops.toArray true).wp P Q a w := by
  have hLl : L.length = ops.toArray.size := by have := congrArg List.length hL; simpa using this.symm
  have hdst : ∀ i, i < ops.toArray.size → dstOf ops.toArray i = some (dS L i) := by
    intro i hi
    have h := congrArg (fun l : List (Option Tmp) => l[i]?) hL
    simp only [List.getElem?_map, List.getElem?_range hi, Option.map_some] at h
    have hi' : i < L.length := by omega
    rw [List.getElem?_eq_getElem hi'] at h
    simp only [Option.map_some, Option.some.injEq] at h
    rw [h, dS, List.getD_eq_getElem?_getD, List.getElem?_eq_getElem hi', Option.getD_some]
  have hlts : ∀ i, i < ops.toArray.size → dS L i < a.tmps.size := fun i hi => of_decide_eq_true (List.all_eq_true.1 hLs _ (dS_mem (by omega)))
  have hap : ∀ (j i : Nat), ch[j]? = some i → ∃ j' q ys, kl[i]? = some (PK.ap j' q ys) := by
    intro j i hj
    have h := List.all_eq_true.1 hch i (List.mem_of_getElem? hj)
    cases hx : kl[i]? with
    | none => simp [hx, PK.isAp] at h
    | some k =>
      cases k with
      | ap j' q ys => exact ⟨_, _, _, rfl⟩
      | _ => simp [hx, PK.isAp] at h
  have hkind : ∀ (i : Nat) k, kl[i]? = some k → kindOk P ops.toArray t L ch pcs kl fi v0.ownBlock.toList a w i k := fun i k hi => by
    have := allAt_get kl 0 i k hk hi
    rwa [Nat.zero_add] at this
  refine wp_region_inv (AInv e base L ch pcs kl fi v0 xs a w) hm hlt ?_ ?_ ?_
  · intro w1 hw1
    refine ⟨rfl, rfl, fun _ _ => rfl, hw1.weak, (fun _ _ _ h => by cases h), 0, v0, Nat.zero_le _, fun j i _ => ⟨fun h => by (cases h), fun h => by omega⟩, by simpa using hown.keep hw1 (by simp), .inl rfl, fun _ => rfl, fun h => by omega, fun h => by omega, (fun h => by cases h), (fun h => by cases h), fun _ => hv0, (fun _ _ _ h => by cases h)⟩
  · intro i hi dn b p hdn haft ⟨h1, h2, h3, h4, h5, s, vc, O⟩
    obtain ⟨k, hki⟩ : ∃ k, kl[i]? = some k := ⟨_, List.getElem?_eq_getElem (by omega)⟩
    have hok := hkind i k hki
    have hsee : Sees ops.toArray L kl v0.ownBlock.toList a w i b p := ⟨h4, h3, fun k v hc hv => h5 k v hv (haft k hc)⟩
    have hsz : dS L i < b.tmps.size := by rw [h2]; exact hlts i hi
    have hold : ∀ v, ∀ s, s ∉ L → slot (b.put (some (dS L i)) v) s = slot a s := fun v s hs => by
      have hne : s ≠ dS L i := by rintro rfl; exact hs (dS_mem (by omega))
      rw [slotp_ne hne]; exact h3 s hs
    have hsz2 : ∀ v, (b.put (some (dS L i)) v).tmps.size = a.tmps.size := fun v => by simp [Act.put, h2]
    have hne : ∀ k, k < L.length → k ≠ i → dS L k ≠ dS L i := fun k hk hne h => hne (dS_inj hnd (by omega) (by omega) h)
    have hnap : PK.isAp (some k) = false → ∀ (j k' : Nat), ch[j]? = some k' → k' < L.length ∧ k' ≠ i := fun hk j k' hj => by
      obtain ⟨_, _, _, hq⟩ := hap j _ hj
      refine ⟨by have := lt_of_get hq; omega, ?_⟩
      rintro rfl
      rw [hki] at hq; cases hq; cases hk
    have hrd : ∀ v, (∀ v', k = PK.rd v' → v = v') → ∀ (k' : Nat) v', kl[k']? = some (PK.rd v') → also dn i k' = true → slot (b.put (some (dS L i)) v) (dS L k') = v' := by
      intro v hv k' v' hk' hd
      by_cases hki' : k' = i
      · subst hki'
        rw [hki] at hk'; cases hk'
        rw [slotp_self hsz]; exact hv v' rfl
      · rw [slotp_ne (hne k' (by have := lt_of_get hk'; omega) hki')]
        exact h5 k' v' hk' (by rwa [also_ne dn hki'] at hd)
    rw [hdst i hi]
    cases k with
    | rd v =>
      obtain ⟨n0, nf, hok⟩ := hok
      obtain ⟨o, ho1, ho2, ho3⟩ := hok b p hsee
      exact opV_run (v := v) (p := p) o ho1 ho2 ho3 ⟨h1, hsz2 v, hold v, h4, hrd v (fun v' h => by cases h; rfl), s, vc, O.step hne hsz (Fr.refl _ _) (by omega) (by omega) (hnap rfl) n0 nf fun ys h => by rw [hki] at h; cases h⟩
    | pc ys =>
      obtain ⟨n0, nf, hok⟩ := hok
      refine opV_mono (fun v p' hv => ?_) (hok b p hsee)
      obtain ⟨hf, hb⟩ := hv
      exact ⟨h1, hsz2 v, hold v, h4.trans hf.weak, hrd v (fun v' h => by cases h), s, vc, O.step hne hsz hf (by omega) (by omega) (hnap rfl) n0 nf fun ys' h => by
        rw [hki] at h; cases h
        exact hb.mono (Fr.refl [] p') (by simp) fun g hg => .inl (O.own.lt g hg).2⟩
    | mv =>
      obtain ⟨rfl, o, o1, o2, o3⟩ := hok
      have hs : s = 0 := by
        rcases Nat.eq_zero_or_pos s with h | h
        · exact h
        · have := O.d0 h; rw [hdn] at this; cases this
      subst hs
      have hfn : dn fi = false := by
        cases h : dn fi with
        | false => rfl
        | true => have := (O.fd h).1; omega
      have hv := O.fn hfn
      refine opV_run (v := v0) (p := p) o o1 o2 ?_ ⟨h1, hsz2 v0, hold v0, h4, hrd v0 (fun v' h => by cases h), 0, vc, Nat.zero_le _, ?_, O.own, O.mv, O.z, fun h => by omega, fun h => by omega, fun _ => slotp_self hsz, ?_, ?_, ?_⟩
      · unfold execOp
        simp only [o3, Sem.run_bind, Sem.run_pure, Result.andThen_ok]
        exact congrArg (fun v => Result.ok (Next.value v) p) hv
      · intro j k hj
        rw [also_ne dn (hnap rfl j k hj).2]; exact O.iff j k hj
      · intro hd
        rw [also_ne dn hfz, hfn] at hd; cases hd
      · intro _
        rw [slotp_ne (hne fi (by omega) hfz)]; exact hv
      · intro k ys hk' hd
        have hk0 : k ≠ 0 := by rintro rfl; rw [hki] at hk'; cases hk'
        rw [also_ne dn hk0] at hd
        rw [slotp_ne (hne k (by have := lt_of_get hk'; omega) hk0)]
        exact O.pc k ys hk' hd
    | fin =>
      obtain ⟨rfl, o, o1, o2, o3, i', c1, c2⟩ := hok
      have hs : s = ch.length := by
        have := (O.iff _ i' c1).1 (haft i' c2)
        have := O.le
        omega
      have hsl := O.sl (by omega)
      have hi0 : i ≠ 0 := by
        rintro rfl
        have := O.d0 (by omega)
        rw [hdn] at this; cases this
      subst hs
      refine opV_run (v := vc) (p := p) o o1 o2 ?_ ⟨h1, hsz2 vc, hold vc, h4, hrd vc (fun v' h => by cases h), ch.length, vc, Nat.le_refl _, ?_, O.own, O.mv, O.z, fun h => ?_, fun h => ?_, fun hd => ?_, fun _ => ⟨rfl, slotp_self hsz⟩, fun hd => ?_, ?_⟩
      · unfold execOp
        simp only [o3, Sem.run_bind, Sem.run_pure, Result.andThen_ok]
        exact congrArg (fun v => Result.ok (Next.value v) p) hsl
      · intro j k hj
        rw [also_ne dn (hnap rfl j k hj).2]; exact O.iff j k hj
      · obtain ⟨s', hs'⟩ : ∃ s', ch.length = s' + 1 := ⟨ch.length - 1, by omega⟩
        have hg := List.getElem?_eq_getElem (show s' < ch.length by omega)
        rw [hs'] at hsl ⊢
        rw [outS_succ hg] at hsl ⊢
        rw [slotp_ne (hne _ (hnap rfl _ _ hg).1 (hnap rfl _ _ hg).2)]; exact hsl
      · rw [also_ne dn (Ne.symm hi0)]; exact O.d0 h
      · rw [also_ne dn (Ne.symm hi0)] at hd
        rw [slotp_ne (hne 0 (by omega) (Ne.symm hi0))]; exact O.f0 hd
      · rw [also_self] at hd; cases hd
      · intro k ys hk' hd
        have hk0 : k ≠ i := by rintro rfl; rw [hki] at hk'; cases hk'
        rw [also_ne dn hk0] at hd
        rw [slotp_ne (hne k (by have := lt_of_get hk'; omega) hk0)]
        exact O.pc k ys hk' hd
    | ap j q ys =>
      obtain ⟨n0, nf, c1, c2, c3, c4, c5, o, o1, o2, o3⟩ := hok
      have hsj : s = j := by
        have h0 : ¬ j < s := fun h => by
          have := (O.iff j i c1).2 h
          rw [hdn] at this; cases this
        rcases c5 with ⟨rfl, -⟩ | ⟨i', hi', hc'⟩
        · omega
        · have := (O.iff _ i' hi').1 (haft i' hc')
          omega
      subst hsj
      have hjl := lt_of_get c1
      have hsl : slot b (outS L ch s) = vc := by
        rcases Nat.eq_zero_or_pos s with h | h
        · subst h
          rw [O.z rfl]
          rcases c5 with ⟨-, h⟩ | ⟨i', hi', hc'⟩
          · exact O.f0 (haft 0 h)
          · have := (O.iff _ i' hi').1 (haft i' hc')
            omega
        · exact O.sl h
      have hd0 : dn 0 = true := by
        rcases c5 with ⟨-, h⟩ | ⟨i', hi', hc'⟩
        · exact haft 0 h
        · exact O.d0 (by have := (O.iff _ i' hi').1 (haft i' hc'); omega)
      have hfn : dn fi = false := by
        cases h : dn fi with
        | false => rfl
        | true => have := (O.fd h).1; omega
      have hpc := O.pc q ys c4 (haft q c3)
      refine opV_append_bs o1 o2 ht hinfo (.tmp (outS L ch s)) (.tmp (dS L q)) o3 (A := fun b => vc.ownBlock = some b) (base := base) (v := vc) (u := slot b (dS L q)) hsl rfl O.own hpc ?_ (by have := h4.size; omega) ?_
      · have hf := flat_le pcs (s + 1)
        rw [List.take_add_one, c2] at hf
        simp only [Option.toList_some, List.flatten_append, List.flatten_cons, List.flatten_nil, List.append_nil, List.length_append] at hf ⊢
        omega
      · intro v' p' ho' hg hmv'
        have hfr : Fr v0.ownBlock.toList w p' := h4.then (Fr.grown (S := vc.ownBlock.toList) hg fun k hk => by simp [hk]) fun x hx => by
          have hx' : vc.ownBlock = some x := by simpa using hx
          rcases O.mv with e | h
          · exact .inl (by simpa using e ▸ hx')
          · exact .inr (h x hx')
        have hmv2 : Moved w v0 v' := by
          rcases hmv' with e | h
          · rcases O.mv with e' | h'
            · exact .inl (e.trans e')
            · exact .inr fun g hg => h' g (e ▸ hg)
          · exact .inr fun g hg => by have := h g hg; have := h4.size; omega
        refine ⟨h1, hsz2 v', hold v', hfr, hrd v' (fun v2 h => by cases h), s + 1, v', hjl, ?_, ?_, hmv2, fun h => by omega, fun _ => ?_, fun _ => ?_, fun _ => ?_, fun hd => ?_, fun _ => ?_, ?_⟩
        · intro j2 k hj
          by_cases hki' : k = i
          · subst hki'
            have : j2 = s := (List.getElem?_inj (lt_of_get hj) hcn).1 (hj.trans c1.symm)
            subst this
            simp [also_self]
          · rw [also_ne dn hki', O.iff j2 k hj]
            have : j2 ≠ s := by rintro rfl; rw [c1] at hj; cases hj; exact hki' rfl
            omega
        · rw [List.take_add_one, c2]
          simp only [Option.toList_some, List.flatten_append, List.flatten_cons, List.flatten_nil, List.append_nil]
          rw [← List.append_assoc]
          exact ho'
        · rw [outS_succ c1]
          exact slotp_self hsz
        · rw [also_ne dn (Ne.symm n0)]; exact hd0
        · rw [slotp_ne (hne 0 (by omega) (Ne.symm n0))]; exact O.f0 hd0
        · rw [also_ne dn (Ne.symm nf), hfn] at hd; cases hd
        · rw [slotp_ne (hne fi (by omega) (Ne.symm nf))]; exact O.fn hfn
        · intro k zs hk' hd
          have hne' : k ≠ i := by rintro rfl; rw [hki] at hk'; cases hk'
          rw [slotp_ne (hne k (by have := lt_of_get hk'; omega) hne')]
          exact (O.pc k zs hk' (by rwa [also_ne dn hne'] at hd)).moved hg hmv'
  · intro dn b p hall ⟨h1, h2, h3, h4, h5, s, vc, O⟩
    obtain ⟨hs, hsl⟩ := O.fd (hall fi hfi)
    subst hs
    have ho := O.own
    rw [List.take_of_length_le (by omega)] at ho
    exact hQ b p h1 h2 h3 (by rw [hsl]; exact ho) h4 (by rw [hsl]; exact O.mv) fun i v hi => h5 i v hi (hall i (by have := lt_of_get hi; omega))
/-- an activation that differs in some slots -/
theorem foldl_put (b : Act) : ∀ (L : List Nat) (a : Act), b.tmps.size = a.tmps.size → (L.foldl (fun x d => x.put (some d) (slot b d)) a).defers = a.defers ∧ (L.foldl (fun x d => x.put (some d) (slot b d)) a).tmps.size = a.tmps.size ∧
    ∀ s, slot (L.foldl (fun x d => x.put (some d) (slot b d)) a) s = if s ∈ L then slot b s else slot a s
  | [], a, _ => ⟨rfl, rfl, fun s => by simp⟩
  | d :: L, a, hs => by
    have hs' : (a.put (some d) (slot b d)).tmps.size = a.tmps.size := by simp [Act.put]
    obtain ⟨h1, h2, h3⟩ := foldl_put b L (a.put (some d) (slot b d)) (by rw [hs']; exact hs)
    refine ⟨h1, h2.trans hs', fun s => ?_⟩
    simp only [List.foldl_cons]
    rw [h3 s]
    by_cases hL : s ∈ L
    · simp [hL]
    · rw [if_neg hL]
      by_cases hd : s = d
      · subst hd
        rw [if_pos (by simp)]
        by_cases hlt : s < a.tmps.size
        · exact slotp_self hlt
        · have e1 : slot b s = undef := by simp only [slot, Array.getD_eq_getD_getElem?]; rw [Array.getElem?_eq_none (by omega)]; rfl
          have e2 : slot (a.put (some s) (slot b s)) s = undef := by simp only [slot, Array.getD_eq_getD_getElem?]; rw [Array.getElem?_eq_none (by simp [Act.put]; omega)]; rfl
          rw [e2, e1]
      · rw [slotp_ne hd, if_neg (by simp [hd, hL])]
theorem old_puts (b a : Act) (L : List Nat) (hd : b.defers = a.defers) (hs : b.tmps.size = a.tmps.size) (h : ∀ s, s ∉ L → slot b s = slot a s) : b = L.foldl (fun x d => x.put (some d) (slot b d)) a := by
  obtain ⟨h1, h2, h3⟩ := foldl_put b L a hs
  generalize hc : L.foldl (fun x d => x.put (some d) (slot b d)) a = c at h1 h2 h3 ⊢
  have hts : b.tmps = c.tmps := by
    refine Array.ext (hs.trans h2.symm) fun i h4 h5 => ?_
    have hi : slot b i = slot c i := by
      rw [h3 i]
      by_cases hL : i ∈ L
      · rw [if_pos hL]
      · rw [if_neg hL]; exact h i hL
    simpa [slot, h4, h5] using hi
  cases b
  cases c
  simp only [Act.mk.injEq]
  exact ⟨hts, hd.trans h1.symm⟩
end Go.Bl
namespace Go.Bl
open Go.RowKit
set_option linter.unusedVariables false

theorem frameX (a : Act) (n : Nat) (hs : a.tmps.size = n) (hd : a.defers = []) : a = ⟨((List.range n).map (slot a)).toArray, []⟩ := by
  obtain ⟨t, d⟩ := a
  simp only at hs hd
  subst hd
  simp only [Act.mk.injEq, and_true]
  refine Array.ext (by simp [hs]) fun i h1 h2 => ?_
  simp [slot, h1]
theorem putsX (b a : Act) (L : List Nat) (hd : b.defers = a.defers) (hs : b.tmps.size = a.tmps.size) (h : ∀ s, s ∉ L → slot b s = slot a s) : ∃ f : Nat → Value, b = L.foldl (fun x d => x.put (some d) (f d)) a := ⟨slot b, old_puts b a L hd hs h⟩
end Go.Bl
namespace Go.Proofs.YtdkhgpnidamalaaDoor
open Go.RowKit Go.Bl
set_option linter.unusedVariables false
/-- the first region of a piece of code -/
def firstReg : Code → Option Nat
  | .region i _ _ => some i
  | .loop c => firstReg c
  | .seq a b => match firstReg a with
    | some i => some i
    | none => firstReg b
  | .block _ c => firstReg c
  | .scope c => firstReg c
  | .cond _ a b => match firstReg a with
    | some i => some i
    | none => firstReg b
  | _ => none
/-- the body of the loop whose first region is the k-th -/
def findLoop (k : Nat) : Code → Option Code
  | .loop c => if firstReg c = some k then some c else findLoop k c
  | .seq a b => match findLoop k a with
    | some c => some c
    | none => findLoop k b
  | .block _ c => findLoop k c
  | .scope c => findLoop k c
  | .cond _ a b => match findLoop k a with
    | some c => some c
    | none => findLoop k b
  | _ => none
/-- an integer's number -/
def kN (v : Value) : Nat := match v with | .int _ i => i.toNat | _ => 0
theorem bs_off {A : Nat → Prop} {w : World} {b o n c : Nat} {xs : List UInt8} (h : Bs A w (.slice (some ⟨b, o, none⟩) n c) xs) (hx : 0 < xs.length) : ¬ A b := by
  obtain ⟨a, cap, e, h2, h3, h4⟩ := h
  cases e
  obtain ⟨b', o', e, hn, -⟩ := h4.some_of (by simpa using hx)
  cases e
  exact hn
/-- behind a region that wrote some slots, some of which are known -/
theorem puts3 (b a : Go.Act) (L : List Nat) (hd : b.defers = a.defers) (hs : b.tmps.size = a.tmps.size) (h : ∀ s, s ∉ L → slot b s = slot a s) {i j k : Nat} {x y z : Value} (hi : slot b i = x) (hj : slot b j = y) (hk : slot b k = z) :
    ∃ f : Nat → Value, f i = x ∧ f j = y ∧ f k = z ∧ b = L.foldl (fun x d => x.put (some d) (f d)) a := ⟨slot b, hi, hj, hk, old_puts b a L hd hs h⟩
theorem puts1 (b a : Go.Act) (L : List Nat) (hd : b.defers = a.defers) (hs : b.tmps.size = a.tmps.size) (h : ∀ s, s ∉ L → slot b s = slot a s) {i : Nat} {x : Value} (hi : slot b i = x) :
    ∃ f : Nat → Value, f i = x ∧ b = L.foldl (fun x d => x.put (some d) (f d)) a := ⟨slot b, hi, old_puts b a L hd hs h⟩
theorem results_tmp4 {fn : Func} {t u v x : Tmp} (h : fn.results = #[.tmp t, .tmp u, .tmp v, .tmp x]) (tmps : Array Value) (P : Program) (w : World) :
    (results fn tmps).run P w = .ok (.tuple #[tmps.getD t undef, tmps.getD u undef, tmps.getD v undef, tmps.getD x undef]) w := by
  simp [results, h]
end Go.Proofs.YtdkhgpnidamalaaDoor
