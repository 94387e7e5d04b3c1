import Derived.Test.YtdloaifdpajcjaaGreatDoorRows
import Derived.Test.YtdloaifdpajcjaaGreatDoorGB
import Derived.ProofKit
import Derived.WalkLawsBesides
import Derived.WalkSpells
set_option linter.unusedVariables false
set_option linter.unusedSimpArgs false
set_option maxRecDepth 1000000
set_option maxHeartbeats 8000000
namespace Go.Bl
open Go.RowKit
def dbl (a : UInt8) : UInt8 := UInt8.ofNat (if 256 <= 2 * a.toNat then (2 * a.toNat) ^^^ 285 else 2 * a.toNat)
def jr : Nat -> UInt8
 | 0 => 1
 | n + 1 => dbl (jr n)
def gls : Nat -> UInt8 -> List UInt8
 | 0, _ => []
 | n + 1, x => x :: gls n (dbl x)
theorem qaQ : ∀ (n : Nat) (x : UInt8), (gls n x).length = n
 | 0, _ => rfl
 | n + 1, x => by simp [gls, qaQ n]
theorem qaG : ∀ (n k i : Nat), i < n -> (gls n (jr k))[i]? = some (jr (k + i))
 | 0, _, _, h => by omega
 | n + 1, k, 0, _ => by simp [gls]
 | n + 1, k, i + 1, h => by
  have := qaG n (k + 1) i Y54
  simp only [gls, List.getElem?_cons_succ]
  rw [show dbl (jr k) = jr (k + 1) from rfl, this, show k + 1 + i = k + (i + 1) by omega]
def gl : List UInt8 := gls 255 1
theorem UR (i : Nat) (h : i < 255) : gl[i]? = some (jr i) := by
 have := qaG 255 0 i h
 rwa [Nat.zero_add] at this
theorem Uy : gl.length = 255 := qaQ 255 1
def qeq : List UInt8 -> Bool
 | [] => true
 | x :: l => !l.contains x && qeq l
theorem Zo : ∀ l : List UInt8, qeq l = true -> l.Nodup
 | [], _ => List.nodup_nil
 | x :: l, h => by
  simp only [qeq, Bool.and_eq_true, Bool.not_eq_true', List.contains_eq_mem, decide_eq_false_iff_not] at h
  exact List.nodup_cons.2 ⟨h.1, Zo l h.2⟩
theorem qeA : gl.Nodup := Zo gl (by decide +kernel)
theorem qg0 : ((List.range 256).all fun a => a == 0 || gl.contains (UInt8.ofNat a)) = true := by decide +kernel
theorem qeg : jr 255 = 1 := by decide +kernel
theorem qfc (n : Nat) : jr (n + 255) = jr n := by
 induction n with
 | zero => exact qeg
 | succ n ih => show dbl (jr (n + 255)) = dbl (jr n); rw [ih]
theorem Wl {i j : Nat} (hi : i < 255) (hj : j < 255) (h : jr i = jr j) : i = j :=
 (List.getElem?_inj (by rw [Uy]; exact hi) qeA).1 (by rw [UR i hi, UR j hj, h])
theorem qbY (a : UInt8) (h : a ≠ 0) : ∃ k, k < 255 /\ jr k = a := by
 have h1 := List.all_eq_true.1 qg0 a.toNat (List.mem_range.2 a.toNat_lt)
 simp only [Bool.or_eq_true, beq_iff_eq, List.contains_eq_mem, decide_eq_true_eq, UInt8.ofNat_toNat] at h1
 rcases h1 with h1 | h1
 ·exact absurd (UInt8.toNat_inj.1 h1) h
 ·obtain ⟨i, hi, he⟩ := List.getElem_of_mem h1
  rw [Uy] at hi
  refine ⟨i, hi, ?_⟩
  have := UR i hi
  rw [List.getElem?_eq_getElem (by rw [Uy]; exact hi), he] at this
  exact (Option.some.inj this).symm
def QH (a : UInt8) : Nat := gl.idxOf a
theorem qcq (k : Nat) (h : k < 255) : QH (jr k) = k := by
 have hm : jr k ∈ gl := List.mem_of_getElem? (UR k h)
 have hl : gl.idxOf (jr k) < gl.length := List.idxOf_lt_length_of_mem hm
 have he : gl[gl.idxOf (jr k)] = jr k := List.getElem_idxOf hl
 have := UR _ (by rw [Uy] at hl; exact hl)
 rw [List.getElem?_eq_getElem hl, he] at this
 exact (Wl h (by rw [Uy] at hl; exact hl) (Option.some.inj this)).symm
theorem J1 (a : UInt8) (h : a ≠ 0) : jr (QH a) = a /\ QH a < 255 := by
 obtain ⟨k, hk, rfl⟩ := qbY a h
 rw [qcq k hk]
 exact ⟨rfl, hk⟩
def zt (a b : UInt8) : UInt8 := if a = 0 ∨ b = 0 then 0 else jr (QH a + QH b)
def xg : Nat -> Array Value
 | 0 => (List.replicate 510 (Value.int .u8 0) ++ List.replicate 256 (Value.int .i64 0)).toArray
 | n + 1 => (((xg n).setIfInBounds n (u8v (jr n))).setIfInBounds (n + 255) (u8v (jr n))).setIfInBounds (510 + (jr n).toNat) (.int .i64 n)
def uZ : Array Value := (xg 255).setIfInBounds 510 (.int .i64 (-1))
theorem yZ (n : Nat) : (xg n).size = 766 := by
 induction n with
 | zero => unfold xg; rw [List.size_toArray, List.length_append, List.length_replicate, List.length_replicate]
 | succ n ih => simp only [xg, Array.size_setIfInBounds, ih]
theorem KN (n i : Nat) (hn : n <= 255) (hi : i < n) : (xg n)[i]? = some (u8v (jr i)) /\ (xg n)[i + 255]? = some (u8v (jr i)) := by
 induction n with
 | zero => omega
 | succ n ih =>
  have hs := yZ n
  simp only [xg, Array.getElem?_setIfInBounds, Array.size_setIfInBounds, hs]
  constructor
  ·rw [if_neg Y54, if_neg Y54]
   by_cases h : n = i
   ·subst h; rw [if_pos rfl, if_pos Y54]
   ·rw [if_neg h]; exact (ih Y54 Y54).1
  ·rw [if_neg Y54]
   by_cases h : n = i
   ·subst h; rw [if_pos rfl, if_pos Y54]
   ·rw [if_neg Y54, if_neg Y54]; exact (ih Y54 Y54).2
theorem qdL (n k : Nat) (hn : n <= 255) (hk : k < n) : (xg n)[510 + (jr k).toNat]? = some (.int .i64 k) := by
 induction n with
 | zero => omega
 | succ n ih =>
  have hs := yZ n
  have hlt := (jr k).toNat_lt
  simp only [xg, Array.getElem?_setIfInBounds, Array.size_setIfInBounds, hs]
  by_cases h : n = k
  ·subst h; rw [if_pos rfl, if_pos Y54]
  ·rw [if_neg (fun e => h (Wl Y54 Y54 (UInt8.toNat_inj.1 Y54))), if_neg Y54, if_neg Y54]
   exact ih Y54 Y54
theorem qc6 (i : Nat) (hi : i < 510) : uZ[i]? = some (u8v (jr i)) := by
 unfold uZ
 rw [Array.getElem?_setIfInBounds, if_neg Y54]
 by_cases h : i < 255
 ·exact (KN 255 i Y54 h).1
 ·have := (KN 255 (i - 255) Y54 Y54).2
  rw [show i - 255 + 255 = i by omega] at this
  rw [this, <- qfc (i - 255), show i - 255 + 255 = i by omega]
theorem WS (a : UInt8) (h : a ≠ 0) : uZ[510 + a.toNat]? = some (.int .i64 (QH a)) := by
 obtain ⟨h1, h2⟩ := J1 a h
 have h0 : a.toNat ≠ 0 := fun e => h (UInt8.toNat_inj.1 e)
 unfold uZ
 rw [Array.getElem?_setIfInBounds, if_neg Y54]
 have := qdL 255 (QH a) Y54 h2
 rwa [h1] at this
theorem qf3 (a : UInt8) : (dbl a).toNat = if 256 <= 2 * a.toNat then (2 * a.toNat) ^^^ 285 else 2 * a.toNat := by
 have h : ((List.range 256).all fun x => decide ((if 256 <= 2 * x then (2 * x) ^^^ 285 else 2 * x) < 256)) = true := by decide +kernel
 have := of_decide_eq_true (List.all_eq_true.1 h a.toNat (List.mem_range.2 a.toNat_lt))
 unfold dbl
 rw [UInt8.toNat_ofNat', Nat.mod_eq_of_lt this]
end Go.Bl
namespace Go.Bl
open Go.RowKit
def xA (out : List UInt8) (i : Nat) (x : UInt8) : List UInt8 := out.set i (out.getD i 0 ^^^ x)
theorem WG (out : List UInt8) (i : Nat) (x : UInt8) : (xA out i x).length = out.length := by simp [xA]
def uv (a : UInt8) : List UInt8 -> Nat -> List UInt8 -> List UInt8
 | [], _, out => out
 | b :: q, i, out => uv a q (i + 1) (xA out i (zt a b))
theorem QT (a : UInt8) : ∀ (q : List UInt8) (i : Nat) (out : List UInt8), (uv a q i out).length = out.length
 | [], _, _ => rfl
 | b :: q, i, out => by simp only [uv]; rw [QT a q, WG]
theorem ZE (a : UInt8) : ∀ (q : List UInt8) (k i : Nat) (b : UInt8) (out : List UInt8), q[k]? = some b -> uv a (q.take (k + 1)) i out = xA (uv a (q.take k) i out) (i + k) (zt a b)
 | [], k, i, b, out, h => by simp at h
 | c :: q, 0, i, b, out, h => by simp at h; subst h; simp [uv]
 | c :: q, k + 1, i, b, out, h => by
  simp only [List.take_succ_cons, uv]
  rw [ZE a q k (i + 1) b _ Y62, show i + 1 + k = i + (k + 1) by omega]
def zf : List UInt8 -> List UInt8 -> Nat -> List UInt8 -> List UInt8
 | [], _, _, out => out
 | a :: p, q, i, out => zf p q (i + 1) (uv a q i out)
theorem xK : ∀ (p q : List UInt8) (i : Nat) (out : List UInt8), (zf p q i out).length = out.length
 | [], _, _, _ => rfl
 | a :: p, q, i, out => by simp only [zf]; rw [xK p, QT]
theorem Zv : ∀ (p q : List UInt8) (k i : Nat) (a : UInt8) (out : List UInt8), p[k]? = some a -> zf (p.take (k + 1)) q i out = uv a q (i + k) (zf (p.take k) q i out)
 | [], _, k, i, b, out, h => by simp at h
 | c :: p, q, 0, i, b, out, h => by simp at h; subst h; simp [zf]
 | c :: p, q, k + 1, i, b, out, h => by
  simp only [List.take_succ_cons, zf]
  rw [Zv p q k (i + 1) b _ Y62, show i + 1 + k = i + (k + 1) by omega]
def ZW : List UInt8 -> Nat
 | [] => 0
 | c :: p => if ZW p = 0 then (if c = 0 then 0 else 1) else ZW p + 1
theorem qbi : ∀ p : List UInt8, ZW p <= p.length
 | [] => Nat.le_refl _
 | c :: p => by
  have := qbi p
  simp only [ZW, List.length_cons]
  split
  ·split <;> omega
  ·omega
theorem Ja : ∀ (p : List UInt8) (k : Nat), (∀ i, k <= i -> i < p.length -> p[i]? = some 0) -> (k = 0 ∨ ∃ c, p[k - 1]? = some c /\ c ≠ 0) -> ZW p = k
 | [], k, _, h => by
  rcases h with rfl | ⟨c, hc, _⟩
  ·rfl
  ·simp at hc
 | c :: p, k, h1, h2 => by
  simp only [ZW]
  rcases h2 with rfl | ⟨d, hd, hne⟩
  ·have hc := h1 0 (Nat.le_refl _) Y85
   simp at hc
   rw [Ja p 0 (fun i _ hi => by have := h1 (i + 1) Y54 Y57; simpa using this) (.inl rfl), if_pos rfl, if_pos hc]
  ·cases k with
   | zero =>
    simp at hd
    subst hd
    have hc := h1 0 (Nat.le_refl _) Y85
    simp at hc
    exact absurd hc hne
   | succ k =>
    rw [Nat.add_sub_cancel] at hd
    have ht : ∀ i, k <= i -> i < p.length -> p[i]? = some 0 := fun i hi hl => by have := h1 (i + 1) Y54 Y57; simpa using this
    cases k with
    | zero =>
     simp at hd
     subst hd
     rw [Ja p 0 ht (.inl rfl), if_pos rfl, if_neg hne]
    | succ k =>
     rw [List.getElem?_cons_succ] at hd
     rw [Ja p (k + 1) ht (.inr ⟨d, by simpa using hd, hne⟩), if_neg Y54]
def UQ (p : List UInt8) : List UInt8 := p.take (ZW p)
def qbP (p q : List UInt8) : List UInt8 := UQ (zf p q 0 (List.replicate (p.length + q.length) 0))
def vp (rs : List UInt8) : List UInt8 := rs.foldl (fun out r => qbP out [r, 1]) [1]
theorem Zt (rs : List UInt8) (k : Nat) (r : UInt8) (h : rs[k]? = some r) : vp (rs.take (k + 1)) = qbP (vp (rs.take k)) [r, 1] := by
 unfold vp
 rw [List.take_add_one, h]
 simp [List.foldl_append]
def Yv : List UInt8 := vp ((List.range 32).map jr)
theorem VF : Yv.length = 33 := by decide +kernel
theorem qcv (p : List UInt8) : (UQ p).length <= p.length := by unfold UQ; rw [List.length_take]; omega
theorem qc4 (p q : List UInt8) : (qbP p q).length <= p.length + q.length := by
 have := qcv (zf p q 0 (List.replicate (p.length + q.length) 0))
 rw [xK, List.length_replicate] at this
 exact this
def vG (rest : List UInt8) (c : UInt8) : List UInt8 := (rest.tail ++ [0]).mapIdx fun k x => x ^^^ zt (c ^^^ rest.headD 0) (Yv.getD (31 - k) 0)
def QP (data : List UInt8) : List UInt8 := data.foldl vG (List.replicate 32 0)
theorem Zj (rest : List UInt8) (c : UInt8) (h : rest.length = 32) : (vG rest c).length = 32 := by simp [vG, h]
theorem qbA (data : List UInt8) (k : Nat) (c : UInt8) (h : data[k]? = some c) : QP (data.take (k + 1)) = vG (QP (data.take k)) c := by
 unfold QP
 rw [List.take_add_one, h]
 simp [List.foldl_append]
theorem Vo (data : List UInt8) : (QP data).length = 32 := by
 unfold QP
 have : ∀ (l : List UInt8) (r : List UInt8), r.length = 32 -> (l.foldl vG r).length = 32 := by
  intro l
  induction l with
  | nil => intro r h; exact h
  | cons c l ih => intro r h; exact ih _ (Zj r c h)
 exact this data _ Y85
end Go.Bl
namespace Go.Proofs.YtdloaifdpajcjaaGreatDoor
open Go.RowKit Go.Bl
theorem KQ {P : Program} {w w' : World} {ops : Array Oper} {rest : List Oper} {o : Oper} {a : Go.Act} {Q : Exit -> Go.Act -> World -> Prop} {p : Op} (ho : o.op = p) (hgd : o.guard = none) (v : Value)
  (hr : (execOp a.eval o).run P w = .ok (.value v) w') (h : wpList P ops Q rest (a.put o.dst v) w') : wpList P ops Q (o :: rest) a w := by
 refine wpList_plain hgd fun K hK => ?_
 unfold Oper.wp
 rw [hr]
 exact hK _ _ h
theorem qw {P : Program} {w : World} {ops : Array Oper} {rest : List Oper} {o : Oper} {a : Go.Act} {Q : Exit -> Go.Act -> World -> Prop} {t te : TypeId} {cur : Array Value} {g off : Nat} (p x : Operand) (hgd : o.guard = none)
  (ho : o.op = .store t p x) (u : Value) (hp : a.eval p = .pointer (some ⟨g, off, none⟩)) (hx : a.eval x = u) (hb : At w g (.cells cur te (0, 0))) (hsz : off < cur.size) (hi : (P.info? t).map (·.size) = some 1) (h1 : u.oneCell' = true)
  (h : ∀ w', Fr [g] w w' -> At w' g (.cells (cur.setIfInBounds off u) te (0, 0)) -> w'.heap.size = w.heap.size -> wpList P ops Q rest (a.put o.dst undef) w') : wpList P ops Q (o :: rest) a w := by
 refine wpList_plain hgd fun K hK => ?_
 have hst := run_storeCells_at P g off te [u] 0 cur w hb Y57 (by intro v hv; simp at hv; subst hv; exact h1)
 simp only [Nat.add_zero] at hst
 have hcells : u.cells = #[u] := by
  cases u <;> simp_all [Value.cells, Value.oneCell']
 cases hq : P.info? t with
 | none => simp [hq] at hi
 | some i =>
  have hs : i.size = 1 := by simpa [hq] using hi
  unfold Oper.wp execOp
  simp only [ho, hp, hx, Instr.storeAt, Instr.sureAddr, Sem.run_bind, Sem.run_pure, Result.andThen_ok]
  have hset : (cur.toList.take off ++ [u] ++ cur.toList.drop (off + [u].length)).toArray = cur.setIfInBounds off u := by
   apply Array.ext'
   rw [Array.toList_setIfInBounds]
   simp only [List.toList_toArray, List.length_singleton]
   rw [List.set_eq_take_append_cons_drop, if_pos (by simpa using hsz)]
   simp
  have : (storeVar t ⟨g, off, none⟩ u).run P w = .ok () (w.setRow g (cur.setIfInBounds off u)) := by
   rw [<- hset]
   cases u <;> simp_all [storeVar, sizeOf, typeInfo, Value.cells, Value.oneCell']
  exact Y28
theorem zy {w w' : World} {b i : Nat} {v : Value} (h : Fr [] w w') (hc : w.cell? ⟨b, i, none⟩ = some v) : w'.cell? ⟨b, i, none⟩ = some v := by
 unfold World.cell? at hc ⊢
 rcases Nat.lt_or_ge b w.heap.size with hb | hb
 ·rw [h.block b hb Y85]; exact hc
 ·rw [Array.getElem?_eq_none hb] at hc; simp at hc
theorem KR (a : Nat) (ha : a < 18446744073709551616) : (BitVec.ofInt 64 (a : Int)).toNat = a := by
 rw [BitVec.ofInt_natCast, BitVec.toNat_ofNat]; exact Nat.mod_eq_of_lt Y54
theorem Kr (a b : Nat) (ha : a < 65536) (hb : b < 65536) : bits .xor .i64 (a : Int) (b : Int) = ((a ^^^ b : Nat) : Int) := by
 have hx : a ^^^ b < 2 ^ 16 := Nat.xor_lt_two_pow Y54 Y54
 show IntKind.i64.wrap ((BitVec.ofInt 64 (a : Int) ^^^ BitVec.ofInt 64 (b : Int)).toNat : Int) = _
 rw [BitVec.toNat_xor, KR a Y54, KR b Y54, IntKind.wrap_i64]
 omega
theorem u8_xor_u (a b : UInt8) : bits .xor .u8 (a.toNat : Int) (b.toNat : Int) = ((a ^^^ b).toNat : Int) := by
 rw [u8_xor_nat _ _ a.toNat_lt b.toNat_lt, UInt8.toNat_xor]
theorem Uu (w : World) (a : UInt8) : Calls Tryz.prog 254 #[u8v a] w fun e w' => e = .returned (u8v (dbl a)) /\ Fr [] w w' := by
 have hd := qf3 a
 have hn := a.toNat_lt
 have hl := (dbl a).toNat_lt
 unfold u8v
 obtain ⟨m, hm⟩ := exq ((dbl a).toNat)
 obtain ⟨n, hnn⟩ := exq (a.toNat)
 rw [hm, hnn] at hd
 rw [hm] at hl ⊢
 rw [hnn] at hn ⊢
 clear hm hnn
 by_cases hc : 256 <= 2 * n
 ·rw [if_pos hc] at hd
  have hx := Kr (2 * n) 285 Y54 Y54
  rw [<- hd] at hx
  have HX := Hdq hx
  have HD := Hdq hd
  clear hx hd
  go_enter Tryz.func254, Tryz.ntmps254
  go_wp2
  go_ret
  refine ⟨?_, Fr.refl _ _⟩
  have hx : bits .xor .i64 ((n : Int) * 2) 285 = (m : Int) := by
   have h := HX.out
   rw [show ((2 * n : Nat) : Int) = (n : Int) * 2 by omega] at h
   exact h
  show Ending.returned (.int .u8 (bits .xor .i64 ((n : Int) * 2) 285 % 256)) = _
  rw [hx]
  refine congrArg (fun z => Ending.returned (.int .u8 z)) ?_
  omega
 ·rw [if_neg hc] at hd
  have HD := Hdq hd
  clear hd
  go_enter Tryz.func254, Tryz.ntmps254
  go_wp2
  go_ret
  refine ⟨?_, Fr.refl _ _⟩
  have := HD.out
  refine congrArg (fun z => Ending.returned (.int .u8 z)) ?_
  omega
theorem qgb (w : World) (n : Nat) (hn : n < 255) : Calls Tryz.prog 255 #[.int .i64 n] w fun e w' => e = .returned (u8v (jr n)) /\ Fr [] w w' := by
 have hmod : ((n : Int) % 255 + 255) % 255 = n := by omega
 go_enter Tryz.func255, Tryz.ntmps255
 go_wp2
 rw [hmod]
 clear hmod
 go_loopw [3, 8] (fun x i wr => ∃ k : Nat, k <= n /\ i = .int .i64 k /\ x = u8v (jr k) /\ Hid (Fr [] w wr)) (fun _ i _ => n - (intOf i).toNat)
 case atStart => exact ⟨0, by omega, rfl, rfl, Fr.refl _ _⟩
 case round =>
  obtain ⟨k, hk, rfl, rfl, HF⟩ := hrel
  by_cases hkn : k < n
  ·go_wp2_with fail
   refine (Uu _ (jr k)).mono ?_
   rintro e w2 ⟨rfl, hf⟩
   have HF2 := Hdq (HF.out.trans hf)
   clear hf
   go_wp2
   go_roundw
   case rel => exact ⟨k + 1, by omega, by go_num, rfl, HF2.out⟩
   case measure => simp [intOf]; omega
  ·obtain rfl : k = n := by omega
   go_wp2
   go_ret
   exact ⟨rfl, HF.out⟩
theorem qc7 (w : World) (b : Nat) (hT : At w b (.cells uZ 370)) (x y : UInt8) : Calls Tryz.prog 238 #[.pointer (some ⟨b, 0, none⟩), u8v x, u8v y] w fun e w' => e = .returned (u8v (zt x y)) /\ Fr [] w w' := by
 have hxx := x.toNat_lt
 have hyy := y.toNat_lt
 by_cases hx : x = 0
 ·subst hx
  rw [show zt 0 y = 0 by simp [zt]]
  unfold u8v
  go_enter Tryz.func238, Tryz.ntmps238
  go_wp2
  go_ret
  exact ⟨rfl, Fr.refl _ _⟩
 ·have hx0 : x.toNat ≠ 0 := fun e => hx (UInt8.toNat_inj.1 e)
  by_cases hy : y = 0
  ·subst hy
   rw [show zt x 0 = 0 by simp [zt]]
   unfold u8v
   obtain ⟨m, hm⟩ := exq (x.toNat)
   rw [hm] at hxx hx0 ⊢
   clear hm
   have b1 : ((m : Int) == 0) = false := by rw [beq_eq_false_iff_ne]; omega
   go_enter Tryz.func238, Tryz.ntmps238
   go_wp2
   go_ret
   exact ⟨rfl, Fr.refl _ _⟩
  ·have hy0 : y.toNat ≠ 0 := fun e => hy (UInt8.toNat_inj.1 e)
   have hlx := hT.cell (510 + x.toNat)
   rw [WS x hx] at hlx
   have hly := hT.cell (510 + y.toNat)
   rw [WS y hy] at hly
   have h1 := (J1 x hx).2
   have h2 := (J1 y hy).2
   have hr := hT.cell (QH x + QH y)
   rw [qc6 _ Y54] at hr
   rw [show zt x y = jr (QH x + QH y) by simp [zt, hx, hy]]
   unfold u8v at hr ⊢
   obtain ⟨g, hg⟩ := exq ((jr (QH x + QH y)).toNat)
   rw [hg] at hr ⊢
   obtain ⟨i, hi⟩ := exq (QH x)
   obtain ⟨j, hj⟩ := exq (QH y)
   rw [hi, hj] at hr
   rw [hi] at h1 hlx
   rw [hj] at h2 hly
   obtain ⟨m, hm⟩ := exq (x.toNat)
   obtain ⟨n, hn⟩ := exq (y.toNat)
   rw [hm] at hxx hx0 hlx ⊢
   rw [hn] at hyy hy0 hly ⊢
   clear hm hn hi hj hg hx hy
   have q1 := fun z : Kin w => zy z.fr hlx
   have q2 := fun z : Kin w => zy z.fr hly
   have q3 := fun z : Kin w => zy z.fr hr
   have b1 : ((m : Int) == 0) = false := by rw [beq_eq_false_iff_ne]; omega
   have b2 : ((n : Int) == 0) = false := by rw [beq_eq_false_iff_ne]; omega
   clear hT hlx hly hr hx0 hy0
   go_enter Tryz.func238, Tryz.ntmps238
   go_wp2_with fail
   refine Uw w Y55 Y55 (Fr.of_heap rfl rfl rfl rfl) ?_
   repeat (go_big_quiet_step (fail))
   refine wpQuiet_nil ?_
   rintro _ ⟨wq, rfl⟩
   go_wp2
   go_ret
   exact ⟨rfl, wq.fr⟩
theorem ux {w w' : World} {S : List Nat} {b i : Nat} {v : Value} (h : Fr S w w') (hb : b ∉ S) (hc : w.cell? ⟨b, i, none⟩ = some v) : w'.cell? ⟨b, i, none⟩ = some v := by
 unfold World.cell? at hc ⊢
 rcases Nat.lt_or_ge b w.heap.size with hl | hl
 ·rw [h.block b hl hb]; exact hc
 ·rw [Array.getElem?_eq_none hl] at hc; simp at hc
def qV (k : Nat) : Code -> Option Code
 | .region i ops d => if i = k then some (.region i ops d) else none
 | .loop c => qV k c
 | .seq a b => match qV k a with
  | some c => some c
  | none => qV k b
 | .block _ c => qV k c
 | .scope c => qV k c
 | .cond _ a b => match qV k a with
  | some c => some c
  | none => qV k b
 | _ => none
noncomputable def qbK : Code := ((Tryz.f236.body.bind (qV 6)).getD .skip)
theorem qeM (w : World) (a : Go.Act) (hsz : a.tmps.size = 36) (g k m : Nat) (c : Array Value) (hk : k < 255) (hcz : c.size = 766) (h1 : slot a 1 = .pointer (some ⟨g, 0, none⟩)) (h3 : slot a 3 = .int .i64 (k : Int)) (h2 : slot a 2 = .int .u8 (m : Int)) (hA : At w g (.cells c 370)) (Q : Exit -> Go.Act -> World -> Prop)
  (hQ : ∀ (b : Go.Act) (p : World), b.defers = a.defers -> b.tmps.size = a.tmps.size -> (∀ s, s ∉ ([9, 10, 11, 12, 13, 14, 15, 16, 17, 18, 19, 20, 21] : List Nat) -> slot b s = slot a s) -> Fr [g] w p -> At p g (.cells ((c.setIfInBounds k (.int .u8 (m : Int))).setIfInBounds (k + 255) (.int .u8 (m : Int))) 370) -> Q .normal b p) : Code.wp Tryz.prog qbK Q a w := by
 conv => arg 2; whnf
 refine uQ Y55 Y55 [some 9, some 10, some 11, some 12, some 13, some 14, some 15, some 16, some 17, some 18, none, some 19, some 20, some 21, none] [10, 14] [.rd (.pointer (some ⟨g, 0, none⟩)) 2, .rd (.int .i64 (k : Int)) 2, .rd (.pointer (some ⟨g, 0, none⟩)) 2, .rd (.int .i64 (k : Int)) 2, .rd (.int .i64 ((k + 255 : Nat) : Int)) 2, .rd (.int .u8 (m : Int)) 2, .rd (.int .u8 (m : Int)) 2, .rd (.pointer (some ⟨g, 0, none⟩)) 2, .rd (.pointer (some ⟨g, 0, none⟩)) 2, .rd (.pointer (some ⟨g, k, none⟩)) 2, .st 0, .rd (.pointer (some ⟨g, 0, none⟩)) 2, .rd (.pointer (some ⟨g, 0, none⟩)) 2, .rd (.pointer (some ⟨g, k + 255, none⟩)) 2, .st 1] (fun j => undef) (fun s p => Fr [g] w p /\ At p g (.cells (([c, c.setIfInBounds k (.int .u8 (m : Int)), (c.setIfInBounds k (.int .u8 (m : Int))).setIfInBounds (k + 255) (.int .u8 (m : Int))] : List (Array Value)).getD s c) 370)) Y55 Y72 (by rw [hsz]; rfl) Y55 Y55 Y86 ?_ ⟨?_, ?_, ?_, ?_, ?_, ?_, ?_, ?_, ?_, ?_, ?_, ?_, ?_, ?_, ?_, trivial⟩ ?_
 ·intro w1 hw1
  exact ⟨hw1.weak, hA.keep0 hw1⟩
 ·refine ⟨⟨9, rfl⟩, .inl rfl, fun b p s hs hS h => ?_⟩
  have e0 : b.eval (.tmp 1) = .pointer (some ⟨g, 0, none⟩) := (h.old 1 Y86).trans h1
  exact Y0
 ·refine ⟨⟨10, rfl⟩, .inl rfl, fun b p s hs hS h => ?_⟩
  have e0 : b.eval (.tmp 3) = .int .i64 (k : Int) := (h.old 3 Y86).trans h3
  exact Y0
 ·refine ⟨⟨11, rfl⟩, .inl rfl, fun b p s hs hS h => ?_⟩
  have e0 : b.eval (.tmp 1) = .pointer (some ⟨g, 0, none⟩) := (h.old 1 Y86).trans h1
  exact Y0
 ·refine ⟨⟨12, rfl⟩, .inl rfl, fun b p s hs hS h => ?_⟩
  have e0 : b.eval (.tmp 3) = .int .i64 (k : Int) := (h.old 3 Y86).trans h3
  exact Y0
 ·refine ⟨⟨13, rfl⟩, .inl rfl, fun b p s hs hS h => ?_⟩
  have e0 := h.er 3 12 Y55 rfl rfl
  have ec : ∀ v, b.eval (.const v) = v := fun _ => rfl
  obtain ⟨ρ, hρ⟩ := exq (b.eval)
  rw [hρ] at e0 ec ⊢
  exact ⟨_, by rfl, rfl, by unfold execOp; simp [go_sem, e0, ec, show IntKind.i64.wrap ((k : Int) + 255) = (k : Int) + 255 by rw [IntKind.wrap_i64]; omega]⟩
 ·refine ⟨⟨14, rfl⟩, .inl rfl, fun b p s hs hS h => ?_⟩
  have e0 : b.eval (.tmp 2) = .int .u8 (m : Int) := (h.old 2 Y86).trans h2
  exact Y0
 ·refine ⟨⟨15, rfl⟩, .inl rfl, fun b p s hs hS h => ?_⟩
  have e0 : b.eval (.tmp 2) = .int .u8 (m : Int) := (h.old 2 Y86).trans h2
  exact Y0
 ·refine ⟨⟨16, rfl⟩, .inl rfl, fun b p s hs hS h => ?_⟩
  have e0 := h.er 0 9 Y55 rfl rfl
  exact Y0
 ·refine ⟨⟨17, rfl⟩, .inl rfl, fun b p s hs hS h => ?_⟩
  have e0 := h.er 7 16 Y55 rfl rfl
  exact Y0
 ·refine ⟨⟨18, rfl⟩, .inl rfl, fun b p s hs hS h => ?_⟩
  have e0 := h.er 8 17 Y55 rfl rfl
  have e1 := h.er 1 10 Y55 rfl rfl
  have ec : ∀ v, b.eval (.const v) = v := fun _ => rfl
  obtain ⟨ρ, hρ⟩ := exq (b.eval)
  rw [hρ] at e0 e1 ec ⊢
  exact ⟨_, by rfl, rfl, by unfold execOp; simp [go_sem, e0, e1, ec, show ¬ (510 : Int) <= (k : Int) by omega]⟩
 ·refine ⟨rfl, .inl rfl, fun b p hS h => ?_⟩
  have e0 := h.er 9 18 Y55 rfl rfl
  have e1 := h.er 5 14 Y55 rfl rfl
  obtain ⟨hf, hA⟩ := hS
  refine jZ (K := fun _ p' => Fr [g] w p' /\ At p' g (.cells (([c, c.setIfInBounds k (.int .u8 (m : Int)), (c.setIfInBounds k (.int .u8 (m : Int))).setIfInBounds (k + 255) (.int .u8 (m : Int))] : List (Array Value)).getD (0 + 1) c) 370)) (fun v p' hv => ⟨hv, .inl rfl⟩) ?_
  refine jm (K := fun _ p' => Fr [g] w p' /\ At p' g (.cells (([c, c.setIfInBounds k (.int .u8 (m : Int)), (c.setIfInBounds k (.int .u8 (m : Int))).setIfInBounds (k + 255) (.int .u8 (m : Int))] : List (Array Value)).getD (0 + 1) c) 370)) _ Y72 ?_
  refine qw (.tmp 18) (.tmp 14) rfl rfl (.int .u8 (m : Int)) e0 e1 hA (by show k < c.size; omega) Y55 rfl ?_
  intro p1 f1 a1 _
  exact ⟨rfl, rfl, hf.trans f1, a1⟩
 ·refine ⟨⟨19, rfl⟩, .inl rfl, fun b p s hs hS h => ?_⟩
  have e0 := h.er 2 11 Y55 rfl rfl
  exact Y0
 ·refine ⟨⟨20, rfl⟩, .inl rfl, fun b p s hs hS h => ?_⟩
  have e0 := h.er 11 19 Y55 rfl rfl
  exact Y0
 ·refine ⟨⟨21, rfl⟩, .inl rfl, fun b p s hs hS h => ?_⟩
  have e0 := h.er 12 20 Y55 rfl rfl
  have e1 := h.er 4 13 Y55 rfl rfl
  have ec : ∀ v, b.eval (.const v) = v := fun _ => rfl
  obtain ⟨ρ, hρ⟩ := exq (b.eval)
  rw [hρ] at e0 e1 ec ⊢
  exact ⟨_, by rfl, rfl, by unfold execOp; simp [go_sem, e0, e1, ec, show 0 <= (k : Int) + 255 /\ (k : Int) + 255 < 510 by omega, show ((k : Int) + 255).toNat = k + 255 by omega]⟩
 ·refine ⟨rfl, .inr ⟨10, rfl, by kernel_rfl⟩, fun b p hS h => ?_⟩
  have e0 := h.er 13 21 Y55 rfl rfl
  have e1 := h.er 6 15 Y55 rfl rfl
  obtain ⟨hf, hA⟩ := hS
  refine jZ (K := fun _ p' => Fr [g] w p' /\ At p' g (.cells (([c, c.setIfInBounds k (.int .u8 (m : Int)), (c.setIfInBounds k (.int .u8 (m : Int))).setIfInBounds (k + 255) (.int .u8 (m : Int))] : List (Array Value)).getD (1 + 1) c) 370)) (fun v p' hv => ⟨hv, .inl rfl⟩) ?_
  refine jm (K := fun _ p' => Fr [g] w p' /\ At p' g (.cells (([c, c.setIfInBounds k (.int .u8 (m : Int)), (c.setIfInBounds k (.int .u8 (m : Int))).setIfInBounds (k + 255) (.int .u8 (m : Int))] : List (Array Value)).getD (1 + 1) c) 370)) _ Y72 ?_
  refine qw (.tmp 21) (.tmp 15) rfl rfl (.int .u8 (m : Int)) e0 e1 hA (by show k + 255 < (c.setIfInBounds k _).size; rw [Array.size_setIfInBounds]; omega) Y55 rfl ?_
  intro p1 f1 a1 _
  exact ⟨rfl, rfl, hf.trans f1, a1⟩
 ·intro b p h1 h2 h3 h4 h5
  exact hQ b p h1 h2 (fun s hs => h3 s (fun hm => hs (by simpa using hm))) h4.1 h4.2
theorem Wx (w : World) : Calls Tryz.prog 236 #[] w fun e w' => e = .returned (.pointer (some ⟨w.heap.size, 0, none⟩)) /\ At w' w.heap.size (.cells uZ 370) /\ Fr [] w w' := by
 have HA := Hdq (show At (w.alloc (.cells (xg 0) 370)) w.heap.size (.cells (xg 0) 370) from At.new rfl)
 go_enter Tryz.func236, Tryz.ntmps236
 go_wp2_with (first | (refine KQ (p := .build 370 #[]) rfl rfl (.agg (xg 0)) (w' := w) Y55 ?_) | (refine KQ (p := .box 370 (.tmp 4)) rfl rfl (.pointer (some ⟨w.heap.size, 0, none⟩)) (w' := w.alloc (.cells (xg 0) 370)) Y55 ?_))
 go_loopw [2, 6] (fun x i wr => ∃ k : Nat, k <= 255 /\ i = .int .i64 k /\ x = u8v (jr k) /\ Hid (At wr w.heap.size (.cells (xg k) 370)) /\ Hid (Fr [] w wr)) (fun _ i _ => 255 - (intOf i).toNat)
 case atStart => exact ⟨0, by omega, rfl, rfl, HA.out, Fr.alloc _ _⟩
 case round =>
  clear HA
  obtain ⟨k, hk, rfl, rfl, HA, HF⟩ := hrel
  by_cases hkn : k < 255
  ·have hmm := (jr k).toNat_lt
   have hsz := yZ k
   have HD := Hdq (fun w => Uu w (jr k))
   have HN := Hdq (show xg (k + 1) = (((xg k).setIfInBounds k (.int .u8 ((jr k).toNat : Int))).setIfInBounds (k + 255) (.int .u8 ((jr k).toNat : Int))).setIfInBounds (510 + (jr k).toNat) (.int .i64 k) from rfl)
   obtain ⟨c, hc⟩ := exq (xg k)
   rw [hc] at hsz HN HA
   unfold u8v at HD ⊢
   obtain ⟨m, hm⟩ := exq ((jr k).toNat)
   rw [hm] at hmm HD HN ⊢
   clear hm hc
   go_wp2_with fail
   refine qeM _ _ rfl w.heap.size k m c hkn hsz rfl rfl rfl HA.out _ ?_
   intro b p h1 h2 h3 hf ha
   obtain ⟨f, hb⟩ := qdr b _ _ h1 h2 h3
   replace HA := Hdq ha
   replace HF := Hdq (HF.out.then hf Y61)
   clear h1 h2 h3 hf ha
   subst hb
   simp only [List.foldl_cons, List.foldl_nil, Go.Act.put, List.setIfInBounds_toArray, List.set_cons_succ, List.set_cons_zero]
   go_wp2_with (refine qw (.tmp 27) (.tmp 24) rfl rfl (.int .i64 (k : Int)) rfl rfl HA.out (by rw [Array.size_setIfInBounds, Array.size_setIfInBounds, hsz]; omega) Y55 rfl ?_)
   intro p1 f1 a1 _
   replace HF := Hdq (HF.out.then f1 Y61)
   replace HA := Hdq a1
   clear f1 a1
   go_wp2_with fail
   refine (HD.out _).mono ?_
   rintro e w2 ⟨rfl, hf⟩
   replace HA := Hdq (HA.out.keep0 hf)
   replace HF := Hdq (HF.out.trans hf)
   clear hf
   go_wp2
   go_roundw
   case rel => exact ⟨k + 1, by omega, by go_num, rfl, by rw [HN.out]; exact HA.out, HF.out⟩
   case measure => simp [intOf]; omega
  ·obtain rfl : k = 255 := by omega
   have hsz := yZ 255
   have HN := Hdq (show uZ = (xg 255).setIfInBounds 510 (.int .i64 (-1)) from rfl)
   obtain ⟨c, hc⟩ := exq (xg 255)
   rw [hc] at hsz HN HA
   unfold u8v
   obtain ⟨m, hm⟩ := exq ((jr 255).toNat)
   rw [hm]
   clear hm hc
   go_wp2_with (refine qw (.tmp 34) (.const (.int .i64 (-1))) rfl rfl (.int .i64 (-1)) rfl rfl HA.out (by rw [hsz]; omega) Y55 rfl ?_)
   intro p1 f1 a1 _
   replace HF := Hdq (HF.out.then f1 Y61)
   replace HA := Hdq a1
   clear f1 a1
   go_wp2
   go_ret
   exact ⟨rfl, by rw [HN.out]; exact HA.out, HF.out⟩
end Go.Proofs.YtdloaifdpajcjaaGreatDoor
