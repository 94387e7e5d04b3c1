import Derived.Test.YtdloaifdpajcjaaGreatDoorPO
set_option linter.unusedVariables false
set_option linter.unusedSimpArgs false
set_option maxRecDepth 1000000
set_option maxHeartbeats 8000000
namespace Go.Bl
open Go.RowKit Go.Proofs
set_option maxRecDepth 100000
set_option maxHeartbeats 8000000
attribute [local irreducible] qz
open Go.Proofs.YtdloaifdpajcjaaGreatDoor (qg qS ql qG jd jK qA jO jL tgdL_len jy vx beK subL_len uf zV)
def mkX (b s : List UInt8) (j : Nat) : List UInt8 := ((b.zip s).map fun x => x.1 ^^^ x.2).take j ++ s.drop j
theorem qfj {b s : List UInt8} (h : b.length = s.length) {j : Nat} (hj : j <= s.length) : (mkX b s j).length = s.length := by simp [mkX, h] <;> omega
theorem qdi {b s : List UInt8} (h : b.length = s.length) {j : Nat} (hj : j < s.length) : (mkX b s j)[j]? = some s[j] := by
 rw [mkX, List.getElem?_append_right Y75]
 simp [h, Nat.min_eq_left (Nat.le_of_lt hj), List.getElem?_drop]
theorem qhb {b s : List UInt8} (h : b.length = s.length) {j : Nat} (hj : j < s.length) : mkX b s (j + 1) = (mkX b s j).set j (b[j]'Y54 ^^^ s[j]) := by
 have e : s.drop j = s[j] :: s.drop (j + 1) := List.drop_eq_getElem_cons hj
 have l1 : (((b.zip s).map fun x => x.1 ^^^ x.2).take j).length = j := by simp [h] <;> omega
 rw [mkX, mkX, e, List.set_append_right _ _ (by rw [l1]; exact Nat.le_refl _), l1, Nat.sub_self, List.set_cons_zero, List.take_succ_eq_append_getElem (by simp [h] <;> omega)]
 simp
theorem qfJ {b s : List UInt8} (h : b.length = s.length) : mkX b s s.length = (b.zip s).map fun x => x.1 ^^^ x.2 := by
 rw [mkX, List.take_of_length_le (by simp [h]), List.drop_length, List.append_nil]
theorem qem (Z : Ad) (h : Hh) (hh : ∀ α g, h α g = g ()) (k : List UInt8) (i : Int) (b : List UInt8) (hb : b.length = 8) : qi Z 152 [.pv (.a [.p (h _ fun _ => vC k)]), .pv (iH h i), .pv (bH h b)] (.own 5 1 (h _ fun _ => (vx k i b).map u8P)) [.any, .any, .any] := by
 have c1 := QU Z h hh k i
 rw [vx]
 obtain ⟨s, hs⟩ := exq (jy k i)
 have ls : s.length = 8 := by rw [<- hs]; exact yf _ _
 have hbs : b.length = s.length := by omega
 rw [hs] at c1 ⊢
 replace hb := Hdq hb
 clear hs ls
 refine qB Z h hh ⟨Tryz.func152, Tryz.ntmps152⟩ rfl rfl rfl rfl rfl fun C hC => ?_
 unfold Tryz.f152
 cbv
 repeat' first
  | exact s0
  | apply And.intro
  | exact sq
  | trivial
  | exact sx
  | (refine sy fun e => ?_; cbv)
  | (refine ⟨_, _, _, hC _ _ _ _ c1, ?_⟩; cbv; clear c1)
 refine ⟨Nat, fun j => ⟨[(7, some (.own 990)), (13, some (.pv (bH h b))), (14, some (.pv (nH h b.length))), (15, some (.pv (nH h j)))], [(990, some (.row 5 1 (h _ fun _ => (mkX b s j).map u8P) false))]⟩, fun j => j <= b.length, fun j => b.length - j, 0, [], by omega, trivial, ⟨[(990, 12)], rfl, rfl, ⟨?_, trivial⟩, ?_, ?_, ?_, ?_, trivial⟩, ?_⟩
 ·exact sp
 ·exact sp
 ·exact sp
 ·exact sp
 ·exact sp
 intro j hj
 dsimp only
 cbv
 refine ⟨fun _ => rfl, fun e => ?_, fun e => ?_⟩ <;> simp only [hh, nI, decide_eq_true_eq, decide_eq_false_iff_not, qD] at e
 ·have e' : j < b.length := jI e
  have lx := qfj hbs (j := j) Y54
  rw [<- hbs] at lx
  have up := qhb hbs (j := j) Y54
  have gx := ZX (qdi hbs (j := j) Y54)
  have sx := qdi hbs (j := j) Y54
  obtain ⟨X, hX⟩ := exq (mkX b s j)
  rw [hX] at lx up sx ⊢
  replace gx := ZX sx
  obtain ⟨y, hy⟩ := exq (s[j]'Y54)
  obtain ⟨z, hz⟩ := exq (b[j]'e')
  have gb : ∀ q : j < b.length, b[j]'q = z := fun _ => hz
  rw [hy, hz] at up
  have hy' : X[j]? = some y := by rw [sx, hy]
  replace gx := ZX hy'
  have hxo := qeP y z
  rw [show y ^^^ z = z ^^^ y from UInt8.xor_comm ..] at hxo
  clear hX hy hz sx hbs
  replace up := Hdq up
  have f1 : (List.drop 0 ((List.map u8P X).getD j noP).cells).getD 0 noP = u8P y := by simp [List.getD_eq_getElem?_getD, hy']; rfl
  have f2 : ((List.map u8P b).getD j noP).cells.getD 0 noP = u8P z := by simp [List.getD_eq_getElem?_getD, e', gb]; rfl
  replace f1 := Hdq f1
  replace f2 := Hdq f2
  replace hxo := Hdq hxo
  have hj8 : b.length <= 8 := by have := hb.out; omega
  cbv
  repeat' first
   | exact s0
   | apply And.intro
   | exact sq
   | (refine fun (_ : PUnit) => ?_; simp [hh, *, gx, gb]; done)
   | trivial
   | (refine sz fun e => ?_; simp [hh, e'] at e <;> (try simp only [qD] at *) <;> omega)
   | (refine sy fun e => ?_; cbv)
  refine ⟨j + 1, by omega, by show b.length - (j + 1) < b.length - j; omega, ⟨[], rfl, rfl, ⟨?_, trivial⟩, ?_, ?_, ?_, ?_, trivial⟩⟩
  ·cbv; simp only [hh, up.out, List.map_set, nI, Int.toNat_natCast, qD, f1.out, f2.out, u8P_int, hxo.out]; rfl
  ·exact sp
  ·exact sp
  ·exact sp
  ·exact sp
 ·have e' : j = b.length := Nat.le_antisymm hj (jN e)
  subst e'
  rw [show mkX b s b.length = (b.zip s).map fun x => x.1 ^^^ x.2 by rw [hbs]; exact qfJ hbs]
  obtain ⟨V, hV⟩ := exq ((b.zip s).map (fun x => x.1 ^^^ x.2))
  rw [hV]
  clear hV
  cbv
  repeat' first
   | exact s0
   | apply And.intro
   | exact sq
   | trivial
   | exact sx
   | (refine sy fun e => ?_; cbv)
theorem qcd (Z : Ad) (h : Hh) (hh : ∀ α g, h α g = g ()) (k : List UInt8) (bs : List (List UInt8)) (hk : k.length <= 100000000) (hb : ∀ b ∈ bs, b.length = 8) (hl : bs.length <= 100000) : qi Z 84 [.pv (bH h k), .pv (iH h 0), .pv (lH h bP bs)] (.tup [.own 22 1 (h _ fun _ => (bs.mapIdx fun i b => vx k ((i : Nat) : Int) b).map bP), .pv (.v .nilIface)]) [.any, .any, .any] := by
 have c1 := vf Z h hh k hk
 have hbj : ∀ j (q : j < bs.length), (bs[j]).length = 8 := fun j q => hb _ (List.getElem_mem q)
 obtain ⟨ML, hML⟩ := exq ((bs.mapIdx fun i b => vx k ((i : Nat) : Int) b))
 have lm : ML.length = bs.length := by rw [<- hML]; simp
 have mj : ∀ j (q : j < bs.length), ML.take (j + 1) = ML.take j ++ [vx k ((j : Nat) : Int) (bs[j]'q)] := fun j q => by
  rw [List.take_succ_eq_append_getElem Y54]
  subst hML
  simp
 have m0 : ML.take 0 = [] := rfl
 have me : ML.take bs.length = ML := List.take_of_length_le Y54
 have cc : ∀ j : Nat, j <= 100000 -> qi Z 151 [.pv (nH h j)] (.pv (tH h true)) [.any] := fun j q => by
  have := ZH Z h hh (j : Int)
  rw [decide_eq_true Y54] at this
  exact this
 have c2 := cc 0 Y54
 rw [hML]
 clear hML hb hk
 replace hbj := Hdq hbj
 replace mj := Hdq mj
 replace cc := Hdq cc
 replace me := Hdq me
 replace c2 := Hdq c2
 replace lm := Hdq lm
 refine qB Z h hh ⟨Tryz.func84, Tryz.ntmps84⟩ rfl rfl rfl rfl rfl fun C hC => ?_
 unfold Tryz.f84
 cbv
 repeat' first
  | exact s0
  | apply And.intro
  | exact sq
  | (refine fun (_ : PUnit) => ?_; simp [hh, *, splice]; done)
  | trivial
  | exact sx
  | (refine sy fun e => ?_; cbv)
  | (refine ⟨_, _, _, hC _ _ _ _ c1, ?_⟩; cbv; clear c1)
 refine ⟨Nat, fun j => ⟨[(1, some (.pv (iH h 0))), (8, some (.ref 991 0 0)), (9, some (.own 990)), (15, some (.pv (lH h bP bs))), (16, some (.pv (nH h bs.length))), (17, some (.pv (nH h j)))], [(990, some (.row 22 1 (h _ fun _ => (ML.take j).map bP) false)), (991, some (.box 190 [.pv (.p (h _ fun _ => vC k))] false))]⟩, fun j => j <= bs.length, fun j => bs.length - j, 0, [(9, 990, 22, 1)], by omega, ⟨rfl, by decide, rfl, trivial⟩, ⟨[(991, 8)], rfl, rfl, ⟨?_, ?_, trivial⟩, ?_, ?_, ?_, ?_, ?_, ?_, trivial⟩, ?_⟩
 ·exact sp
 ·exact sp
 ·exact sp
 ·exact sp
 ·exact sp
 ·exact sp
 ·exact sp
 ·exact sp
 intro j hj
 dsimp only
 cbv
 refine ⟨fun _ => rfl, fun e => ?_, fun e => ?_⟩ <;> simp only [hh, nI, decide_eq_true_eq, decide_eq_false_iff_not, qD] at e
 ·have e' : j < bs.length := jI e
  have lb := hbj.out j e'
  have up := mj.out j e'
  have c3 := c2.out
  have c4 := cc.out j Y54
  have w1 : IntKind.i64.wrap (j : Int) = (j : Int) := wrap_i64 Y54 Y54
  obtain ⟨b, hb⟩ := exq (bs[j]'e')
  have gb : ∀ q : j < bs.length, bs[j]'q = b := fun _ => hb
  rw [hb] at up lb
  have c5 := qem Z h hh k ((j : Nat) : Int) b lb
  obtain ⟨v, hv⟩ := exq (vx k ((j : Nat) : Int) b)
  rw [hv] at up c5
  have tl : (ML.take j).length = j := by rw [List.length_take, lm.out]; omega
  obtain ⟨T, hT⟩ := exq (ML.take j)
  rw [hT] at up tl ⊢
  clear hb hv hT
  replace up := Hdq up
  cbv
  repeat' first
   | exact s0
   | apply And.intro
   | exact sq
   | (refine fun (_ : PUnit) => ?_; simp [hh, *, gb, w1, bP, tl]; done)
   | trivial
   | (refine sz fun e => ?_; simp [hh, e', lb, w1, gb] at e <;> (try simp only [qD] at *) <;> omega)
   | (refine sy fun e => ?_; cbv)
   | (refine ⟨_, _, _, hC _ _ _ _ c3, ?_⟩; cbv; clear c3)
   | (refine ⟨_, _, _, hC _ _ _ _ c4, ?_⟩; cbv; clear c4)
   | (refine ⟨_, _, _, hC _ _ _ _ c5, ?_⟩; cbv; clear c5)
  refine ⟨j + 1, by omega, by show bs.length - (j + 1) < bs.length - j; omega, ⟨[(990, 47)], rfl, rfl, ⟨?_, ?_, trivial⟩, ?_, ?_, ?_, ?_, ?_, ?_, trivial⟩⟩
  ·cbv; simp only [hh, up.out, List.map_append, List.map_cons, List.map_nil]; simp [bP]
  ·exact sp
  ·exact sp
  ·exact sp
  ·exact sp
  ·exact sp
  ·exact sp
  ·exact sp
 ·have e' : j = bs.length := Nat.le_antisymm hj (jN e)
  subst e'
  rw [me.out]
  cbv
  repeat' first
   | exact s0
   | apply And.intro
   | exact sq
   | trivial
   | exact sx
   | (refine sy fun e => ?_; cbv)
end Go.Bl
namespace Go.Bl
open Go.RowKit Go.Proofs
attribute [local irreducible] qz
open Go.Proofs.YtdloaifdpajcjaaGreatDoor (qg qS ql qG jd jK qA jO jL tgdL_len jy vx beK subL_len uf zV)
theorem qcI (Z : Ad) (h : Hh) (hh : ∀ α g, h α g = g ()) (m : List UInt8) (n : Int) (N : Nat) (B : Int) (s : Nat) (hs : (N : Int) - B = s) (h8 : s <= 8) : qi Z 85 [.pv (.p (h _ fun _ => je m n N B))] (.tup [.pv (lH h bP ((List.range s).map fun j => jy (qg m qG n) ((j : Nat) : Int))), .pv (.v .nilIface)]) [.any] := by
 have c1 : ∀ j : Nat, j <= 8 -> qi Z 93 [.pv (bH h (qg m qG n)), .pv (nH h j)] (.tup [.own 5 1 (h _ fun _ => (jy (qg m qG n) (j : Int)).map u8P), .pv (.v .nilIface)]) [.any, .any] := fun j hj => UV Z h hh (qg m qG n) (j : Int) Y83 ⟨by omega, by omega⟩
 obtain ⟨ML, hML⟩ := exq (((List.range s).map fun j => jy (qg m qG n) ((j : Nat) : Int)))
 have lm : ML.length = s := by rw [<- hML]; simp
 have mj : ∀ j (q : j < s), ML.take (j + 1) = ML.take j ++ [jy (qg m qG n) ((j : Nat) : Int)] := fun j q => by
  rw [List.take_succ_eq_append_getElem Y54]
  subst hML
  simp
 have m0 : ML.take 0 = [] := rfl
 have me : ML.take s = ML := List.take_of_length_le Y54
 have hml : (je m n N B).length = 9 := rfl
 have g2 : (je m n N B)[2]? = some (bP (qg m qG n)) := rfl
 have g7 : (je m n N B)[7]? = some (iP B) := rfl
 have g8 : (je m n N B)[8]? = some (iP N) := rfl
 obtain ⟨M, hM⟩ := exq (je m n N B)
 rw [hM] at hml g2 g7 g8
 replace g2 := ZX g2
 replace g7 := ZX g7
 replace g8 := ZX g8
 have w1 : IntKind.i64.wrap ((N : Int) - B) = (s : Int) := by rw [hs]; exact wrap_i64 Y54 Y54
 obtain ⟨K, hK⟩ := exq (qg m qG n)
 rw [hK] at c1 mj g2
 rw [hML, hM]
 clear hML hM hK hs
 replace c1 := Hdq c1
 replace mj := Hdq mj
 replace me := Hdq me
 replace lm := Hdq lm
 refine qB Z h hh ⟨Tryz.func85, Tryz.ntmps85⟩ rfl rfl rfl rfl rfl fun C hC => ?_
 unfold Tryz.f85
 cbv
 repeat' first
  | exact s0
  | apply And.intro
  | exact sq
  | (refine fun (_ : PUnit) => ?_; simp [hh, *, g7, g8, iP, w1]; done)
  | trivial
  | exact sx
  | (refine sy fun e => ?_; cbv)
 refine ⟨Nat, fun j => ⟨[(0, some (.pv (.p (h _ fun _ => M)))), (4, some (.own 990)), (16, some (.pv (nH h s))), (17, some (.pv (nH h j)))], [(990, some (.row 22 1 (h _ fun _ => (ML.take j).map bP) false))]⟩, fun j => j <= s, fun j => s - j, 0, [(4, 990, 22, 1)], by omega, ⟨rfl, by decide, rfl, trivial⟩, ⟨[], rfl, rfl, ⟨?_, trivial⟩, ?_, ?_, ?_, ?_, trivial⟩, ?_⟩
 ·exact sp
 ·exact sp
 ·exact sp
 ·cbv; simp [hh, g7, g8, iP, w1, hml]
 ·exact sp
 intro j hj
 dsimp only
 cbv
 refine ⟨fun _ => rfl, fun e => ?_, fun e => ?_⟩ <;> simp only [hh, nI, decide_eq_true_eq, decide_eq_false_iff_not, qD] at e
 ·have e' : j < s := jI e
  have up := mj.out j e'
  have c2 := c1.out j Y54
  obtain ⟨v, hv⟩ := exq (jy K ((j : Nat) : Int))
  rw [hv] at up c2
  have tl : (ML.take j).length = j := by rw [List.length_take, lm.out]; omega
  obtain ⟨T, hT⟩ := exq (ML.take j)
  rw [hT] at up tl ⊢
  clear hv hT
  replace up := Hdq up
  cbv
  repeat' first
   | exact s0
   | apply And.intro
   | exact sq
   | (refine fun (_ : PUnit) => ?_; simp [hh, *, g2, bP, tl]; done)
   | trivial
   | (refine sz fun e => ?_; simp [hh, e'] at e <;> (try simp only [qD] at *) <;> omega)
   | (refine sy fun e => ?_; cbv)
   | (refine ⟨_, _, _, hC _ _ _ _ c2, ?_⟩; cbv; clear c2)
  refine ⟨j + 1, by omega, by show s - (j + 1) < s - j; omega, ⟨[(990, 36)], rfl, rfl, ⟨?_, trivial⟩, ?_, ?_, ?_, ?_, trivial⟩⟩
  ·cbv; simp only [hh, up.out, List.map_append, List.map_cons, List.map_nil]; simp [bP]
  ·exact sp
  ·exact sp
  ·exact sp
  ·exact sp
 ·have e' : j = s := Nat.le_antisymm hj (jN e)
  subst e'
  rw [me.out]
  cbv
  repeat' first
   | exact s0
   | apply And.intro
   | exact sq
   | trivial
   | exact sx
   | (refine sy fun e => ?_; cbv)
theorem qd9 (Z : Ad) (h : Hh) (hh : ∀ α g, h α g = g ()) (m : List UInt8) (n : Int) (N : Nat) (B : Int) (bs : List (List UInt8)) (hN : bs.length = N) (hn : N <= 1048576) (hb : ∀ b ∈ bs, b.length = 8) : qi Z 34 [.pv (.p (h _ fun _ => je m n N B)), .pv (lH h bP bs)] (.tup [.pv (lH h bP (uf (qA (qg m ql n) N) (fun p b => jL (qg m jd n) ((p : Nat) : Int) b) bs bs.length)), .pv (.v .nilIface)]) [.any, .any] := by
 have hbj : ∀ j (q : j < bs.length), (bs[j]).length = 8 := fun j q => hb _ (List.getElem_mem q)
 have c1 : ∀ j : Nat, j < N -> qi Z 86 [.pv (.p (h _ fun _ => ud (qg m ql n) N (jl N))), .pv (nH h j)] (.tup [.pv (nH h (qA (qg m ql n) N j)), .pv (.v .nilIface)]) [.any, .any] := fun j q => qa9 Z h hh (qg m ql n) N j hn q
 have c2 : ∀ (x : Nat) (b : List UInt8), b.length = 8 -> qi Z 87 [.pv (.p (h _ fun _ => je m n N B)), .pv (nH h x), .pv (bH h b)] (.own 5 1 (h _ fun _ => (jL (qg m jd n) (x : Int) b).map u8P)) [.any, .any, .any] := fun x b hb => VZ Z h hh m n N B (x : Int) b Y54
 have pl : ∀ j, j < N -> qA (qg m ql n) N j < N := fun j q => jO Y54 q
 have ll := zV (qA (qg m ql n) N) (fun p b => jL (qg m jd n) ((p : Nat) : Int) b) bs
 have l0 : uf (qA (qg m ql n) N) (fun p b => jL (qg m jd n) ((p : Nat) : Int) b) bs 0 = List.replicate bs.length [] := rfl
 have lj : ∀ j (q : j < bs.length), uf (qA (qg m ql n) N) (fun p b => jL (qg m jd n) ((p : Nat) : Int) b) bs (j + 1) = (uf (qA (qg m ql n) N) (fun p b => jL (qg m jd n) ((p : Nat) : Int) b) bs j).set (qA (qg m ql n) N j) (jL (qg m jd n) ((qA (qg m ql n) N j : Nat) : Int) bs[j]) := fun j q => by
  rw [uf, List.getD_eq_getElem?_getD, List.getElem?_eq_getElem q]; rfl
 obtain ⟨LL, hLL⟩ := exq (uf (qA (qg m ql n) N) (fun p b => jL (qg m jd n) ((p : Nat) : Int) b) bs)
 rw [hLL] at ll l0 lj ⊢
 obtain ⟨PP, hPP⟩ := exq (qA (qg m ql n) N)
 rw [hPP] at c1 pl lj
 obtain ⟨TT, hTT⟩ := exq (jL (qg m jd n))
 rw [hTT] at c2 lj
 have hml : (je m n N B).length = 9 := rfl
 have g5 : (je m n N B)[5]? = some (.p (ud (qg m ql n) N (jl N))) := rfl
 obtain ⟨O, hO⟩ := exq (ud (qg m ql n) N (jl N))
 rw [hO] at g5 c1
 obtain ⟨M, hM⟩ := exq (je m n N B)
 rw [hM] at hml g5 c2 ⊢
 replace g5 := ZX g5
 clear hLL hPP hTT hO hM hb
 replace hbj := Hdq hbj
 replace c1 := Hdq c1
 replace c2 := Hdq c2
 replace pl := Hdq pl
 replace ll := Hdq ll
 replace l0 := Hdq l0
 replace lj := Hdq lj
 have hn2 : bs.length <= 1048576 := by omega
 have f1 : (bs.length : Int) <= 9223372036854775807 := by omega
 have f2 : (bs.length : Int) * 24 <= 140737488355328 := by omega
 replace hn2 := Hdq hn2
 replace hn := Hdq hn
 replace hN := Hdq hN
 refine qB Z h hh ⟨Tryz.func34, Tryz.ntmps34⟩ rfl rfl rfl rfl rfl fun C hC => ?_
 unfold Tryz.f34
 cbv
 repeat' first
  | exact s0
  | apply And.intro
  | exact sq
  | trivial
  | exact sx
  | (refine sy fun e => ?_; cbv)
 refine ⟨Nat, fun j => ⟨[(0, some (.pv (.p (h _ fun _ => M)))), (6, some (.own 990)), (14, some (.pv (lH h bP bs))), (15, some (.pv (nH h bs.length))), (16, some (.pv (nH h j)))], [(990, some (.row 22 1 (h _ fun _ => (LL j).map bP) false))]⟩, fun j => j <= bs.length, fun j => bs.length - j, 0, [], by omega, trivial, ⟨[(990, 13)], rfl, rfl, ⟨?_, trivial⟩, ?_, ?_, ?_, ?_, ?_, trivial⟩, ?_⟩
 ·cbv; simp only [hh, l0.out]; simp [bP]; exact .inr rfl
 ·exact sp
 ·exact sp
 ·exact sp
 ·exact sp
 ·exact sp
 intro j hj
 dsimp only
 cbv
 refine ⟨fun _ => rfl, fun e => ?_, fun e => ?_⟩ <;> simp only [hh, nI, decide_eq_true_eq, decide_eq_false_iff_not, qD] at e
 ·have e' : j < bs.length := jI e
  have hn3 := hn2.out
  have lb := hbj.out j e'
  have up := lj.out j e'
  have z1 : PP j < bs.length := by rw [hN.out]; exact pl.out j (by rw [<- hN.out]; exact e')
  have c3 := c1.out j (by rw [<- hN.out]; exact e')
  obtain ⟨b, hb⟩ := exq (bs[j]'e')
  have gb : ∀ q : j < bs.length, bs[j]'q = b := fun _ => hb
  rw [hb] at up lb
  have c4 := c2.out (PP j) b lb
  obtain ⟨v, hv⟩ := exq (TT ((PP j : Nat) : Int) b)
  obtain ⟨x, hx⟩ := exq (PP j)
  rw [hv] at up c4
  rw [hx] at up c3 c4 z1
  have tl := ll.out j
  obtain ⟨T, hT⟩ := exq (LL j)
  rw [hT] at up tl ⊢
  clear hb hv hT hx
  replace up := Hdq up
  cbv
  repeat' first
   | exact s0
   | apply And.intro
   | exact sq
   | (refine fun (_ : PUnit) => ?_; simp [hh, *, gb, g5, bP, tl]; done)
   | trivial
   | (refine sz fun e => ?_; simp [hh, e', gb] at e <;> (try simp only [qD] at *) <;> omega)
   | (refine sy fun e => ?_; cbv)
   | (refine ⟨_, _, _, hC _ _ _ _ c3, ?_⟩; cbv; clear c3)
   | (refine ⟨_, _, _, hC _ _ _ _ c4, ?_⟩; cbv; clear c4)
  refine ⟨j + 1, by omega, by show bs.length - (j + 1) < bs.length - j; omega, ⟨[], rfl, rfl, ⟨?_, trivial⟩, ?_, ?_, ?_, ?_, ?_, trivial⟩⟩
  ·cbv; simp only [hh, up.out, List.map_set, nI, Int.toNat_natCast, qD]; rfl
  ·exact sp
  ·exact sp
  ·exact sp
  ·exact sp
  ·exact sp
 ·have e' : j = bs.length := Nat.le_antisymm hj (jN e)
  subst e'
  obtain ⟨V, hV⟩ := exq (LL bs.length)
  rw [hV]
  clear hV
  cbv
  repeat' first
   | exact s0
   | apply And.intro
   | exact sq
   | trivial
   | exact sx
   | (refine sy fun e => ?_; cbv)
end Go.Bl
namespace Go.Bl
open Go.RowKit Go.Proofs
attribute [local irreducible] qz
open Go.Proofs.YtdloaifdpajcjaaGreatDoor (Par chk blk qj j7 qg qS ql qG jd jK qA jL tgdL_len jy strL_len vx y8 subL_len uf zV Ki Q1 yg zc overL_32)
theorem Kh (Z : Ad) (h : Hh) (hh : ∀ α g, h α g = g ()) (ls : List (List UInt8)) (h1 : 1 <= ls.length) (hl : ls.length <= 100000) (hw : ∀ l ∈ ls, l.length <= 10000000) : qi Z 35 [.pv (lH h bP ls)] (.pv (aH h u8P (jA (ls.map qy)))) [.any] := by
 have c1 := Uf Z h hh ls Y54 hw
 rw [show (ls.map fun l => aP (qz (0 :: l))) = (ls.map qy).map aP by rw [List.map_map]; rfl] at c1
 have h32 : ∀ d ∈ ls.map qy, d.length = 32 := fun d hd => by obtain ⟨l, -, rfl⟩ := List.mem_map.1 hd; exact jv _
 have c2 := Vz Z h hh (ls.map qy) h32 (by simpa using hl) Y69
 obtain ⟨d, hd⟩ := exq (jA (ls.map qy))
 have l3 : d.length = 32 := by rw [<- hd]; exact overL_32 _ h32 Y69
 rw [hd] at c2 ⊢
 clear hd h1 hl hw h32
 refine qB Z h hh ⟨Tryz.func35, Tryz.ntmps35⟩ rfl rfl rfl rfl rfl fun C hC => ?_
 unfold Tryz.f35
 cbv
 repeat' first
  | exact s0
  | apply And.intro
  | exact sq
  | (refine fun (_ : PUnit) => ?_; simp [hh, *, splice]; done)
  | trivial
  | exact sx
  | (refine sy fun e => ?_; cbv)
  | (refine ⟨_, _, _, hC _ _ _ _ c1, ?_⟩; cbv; clear c1)
  | (refine ⟨_, _, _, hC _ _ _ _ c2, ?_⟩; cbv; clear c2)
theorem qb3 (Z : Ad) (h : Hh) (hh : ∀ α g, h α g = g ()) (m : List UInt8) (n : Int) (N : Nat) (B : Int) (s : Nat) (xs : List UInt8) (hs : (N : Int) - B = s) (h8 : s <= 8) (hl : (qF xs).length <= 10000) (hb : ∀ b ∈ qF xs, b.length = 8) (cb : qi Z 83 [.pv (bH h xs)] (.tup [.pv (lH h bP (qF xs)), .pv (.v .nilIface)]) [.any]) : qi Z 33 [.pv (.p (h _ fun _ => je m n N B)), .pv (bH h xs)] (.tup [.pv (lH h bP (Q1 (qg m qS n) (qg m qG n) (qF xs) s)), .pv (.v .nilIface)]) [.any, .any] := by
 have c2 := qcd Z h hh (qg m qS n) (qF xs) Y83 hb Y54
 have c3 := qcI Z h hh m n N B s hs h8
 rw [Q1]
 have lA : ((qF xs).mapIdx fun i b => vx (qg m qS n) ((i : Nat) : Int) b).length <= 10000 := by simpa using hl
 have lS : ((List.range s).map fun j => jy (qg m qG n) ((j : Nat) : Int)).length <= 8 := by simpa using h8
 have g0 : (je m n N B)[0]? = some (bP (qg m qS n)) := rfl
 have hml : (je m n N B).length = 9 := rfl
 obtain ⟨bs, hbs⟩ := exq (qF xs)
 rw [hbs] at cb c2 lA ⊢
 obtain ⟨A, hA⟩ := exq ((bs.mapIdx fun i b => vx (qg m qS n) ((i : Nat) : Int) b))
 rw [hA] at c2 lA ⊢
 obtain ⟨S, hS⟩ := exq (((List.range s).map fun j => jy (qg m qG n) ((j : Nat) : Int)))
 rw [hS] at c3 lS ⊢
 obtain ⟨K, hK⟩ := exq (qg m qS n)
 rw [hK] at c2 g0
 obtain ⟨M, hM⟩ := exq (je m n N B)
 rw [hM] at c3 g0 hml ⊢
 replace g0 := ZX g0
 have f1 : A.length + S.length <= 9223372036854775807 := by omega
 have f2 : (A.length + S.length) * 24 <= 140737488355328 := by omega
 clear hbs hA hS hK hM hs h8 hl hb lA lS
 refine qB Z h hh ⟨Tryz.func33, Tryz.ntmps33⟩ rfl rfl rfl rfl rfl fun C hC => ?_
 unfold Tryz.f33
 cbv
 repeat' first
  | exact s0
  | apply And.intro
  | exact sq
  | (refine fun (_ : PUnit) => ?_; simp [hh, *, g0, bP]; done)
  | trivial
  | exact sx
  | (refine sy fun e => ?_; cbv)
  | (refine ⟨_, _, _, hC _ _ _ _ cb, ?_⟩; cbv; clear cb)
  | (refine ⟨_, _, _, hC _ _ _ _ c2, ?_⟩; cbv; clear c2)
  | (refine ⟨_, _, _, hC _ _ _ _ c3, ?_⟩; cbv; clear c3)
end Go.Bl
namespace Go.Bl
open Go.RowKit Go.Proofs
attribute [local irreducible] qz
open Go.Proofs.YtdloaifdpajcjaaGreatDoor (Par chk blk qU jU zK qj j7 qg qS ql qG jd jK qA jL tgdL_len jy strL_len vx y8 subL_len uf zV Q1 yg zc overL_32 bl_len Jj sealL_len)
theorem qec (Z : Ad) (h : Hh) (hh : ∀ α g, h α g = g ()) (m xs : List UInt8) (n : Int) (p : Par) (hc : chk p = 0) (hk : qj m n = 0) (hx : (xs.length : Int) = p.size) (hw : ∀ l ∈ zc m n xs p.sent.toNat, l.length <= 16) (cb : qi Z 83 [.pv (bH h xs)] (.tup [.pv (lH h bP (qF xs)), .pv (.v .nilIface)]) [.any]) :
  qi Z 7 [.pv (bH h m), .pv (iH h n), .pv (bH h xs), .pv (uH h p)] (.tup [.pv (.a (h _ fun _ => Z6 m xs n p)), .pv (.v .nilIface)]) [.any, .any, .any, .any] := by
 obtain ⟨l1, l2, l3, l4⟩ := Qf Z h hh hc
 obtain ⟨o1, o2⟩ := j7 hc
 have o1' : 0 <= p.size /\ p.size <= 2000 := o1
 have bl := bl_len hx o1
 have sl := sealL_len m xs n p.sent.toNat
 have c1 : qi Z 31 [.pv (uH h p)] (.pv (.v .nilIface)) [.any] := by
  rcases UJ Z h hh p with ⟨-, c⟩ | ⟨j, -, -, hz, -⟩
  ·exact c
  ·exact absurd hc hz
 have c2 := UG Z h hh m n p (blk p.size + p.sent).toNat hc hk Y54
 have c3 := qb3 Z h hh m n (blk p.size + p.sent).toNat (blk p.size) p.sent.toNat xs Y54 Y54 Y54 (Jj xs) cb
 have la : (Q1 (qg m qS n) (qg m qG n) (qF xs) p.sent.toNat).length = (blk p.size + p.sent).toNat := by rw [yg]; omega
 have c4 := qd9 Z h hh m n (blk p.size + p.sent).toNat (blk p.size) (Q1 (qg m qS n) (qg m qG n) (qF xs) p.sent.toNat) la Y54 (fun b hb => by
  rcases List.mem_append.1 hb with hb | hb
  ·obtain ⟨i, hi, rfl⟩ := List.mem_mapIdx.1 hb
   exact y8 _ _ _ (Jj xs _ (List.getElem_mem hi))
  ·obtain ⟨i, -, rfl⟩ := List.mem_map.1 hb
   exact strL_len _ _)
 have es : uf (qA (qg m ql n) (blk p.size + p.sent).toNat) (fun p b => jL (qg m jd n) ((p : Nat) : Int) b) (Q1 (qg m qS n) (qg m qG n) (qF xs) p.sent.toNat) (Q1 (qg m qS n) (qg m qG n) (qF xs) p.sent.toNat).length = zc m n xs p.sent.toNat := by
  rw [zc, <- la]
 rw [es] at c4
 have c5 := Kh Z h hh (zc m n xs p.sent.toNat) (by have := Go.Proofs.YtdloaifdpajcjaaGreatDoor.blk_ge o1; omega) Y54 (fun l hl => Nat.le_trans (hw l hl) Y86)
 have c6 := ue Z h hh [xs] Y57
 rw [show [xs].flatten = xs by simp] at c6
 have h32 : (jA ((zc m n xs p.sent.toNat).map qy)).length = 32 := overL_32 _ (fun d hd => by obtain ⟨l, -, rfl⟩ := List.mem_map.1 hd; exact jv _) (by have := Go.Proofs.YtdloaifdpajcjaaGreatDoor.blk_ge o1; rw [List.length_map]; omega)
 have hS : (qz xs).length = 32 := jv _
 unfold Z6
 obtain ⟨R, hR⟩ := exq (jA ((zc m n xs p.sent.toNat).map qy))
 rw [hR] at c5 h32 ⊢
 obtain ⟨SL, hSL⟩ := exq (zc m n xs p.sent.toNat)
 rw [hSL] at c4 c5 ⊢
 obtain ⟨AL, hAL⟩ := exq (Q1 (qg m qS n) (qg m qG n) (qF xs) p.sent.toNat)
 rw [hAL] at c3 c4
 obtain ⟨D, hD⟩ := exq (qz xs)
 rw [hD] at c6 hS ⊢
 obtain ⟨M, hM⟩ := exq (je m n (blk p.size + p.sent).toNat (blk p.size))
 rw [hM] at c2 c3 c4
 clear hR hSL hAL hD hM es la sl bl hw l1 l2 l3 l4 o1 o2 o1' hc hk cb
 refine qB Z h hh ⟨Tryz.func7, Tryz.ntmps7⟩ rfl rfl rfl rfl rfl fun C hC => ?_
 unfold Tryz.f7
 cbv
 repeat' first
  | exact s0
  | apply And.intro
  | exact sq
  | (refine fun (_ : PUnit) => ?_; simp [hh, *, splice, bP, hx]; done)
  | trivial
  | (refine sz fun e => ?_; simp [hh, hx] at e <;> (try simp only [qD] at *) <;> omega)
  | (refine sy fun e => ?_; cbv)
  | (refine ⟨_, _, _, hC _ _ _ _ c1, ?_⟩; cbv; clear c1)
  | (refine ⟨_, _, _, hC _ _ _ _ c2, ?_⟩; cbv; clear c2)
  | (refine ⟨_, _, _, hC _ _ _ _ c3, ?_⟩; cbv; clear c3)
  | (refine ⟨_, _, _, hC _ _ _ _ c4, ?_⟩; cbv; clear c4)
  | (refine ⟨_, _, _, hC _ _ _ _ c5, ?_⟩; cbv; clear c5)
  | (refine ⟨_, _, _, hC _ _ _ _ c6, ?_⟩; cbv; clear c6)
end Go.Bl
namespace Go.Proofs.YtdloaifdpajcjaaGreatDoor
open Go.RowKit Go.Bl
theorem UE (w : World) (v : Value) (xs : List UInt8) (hb : Bs (fun _ => False) w v xs) (hl : xs.length <= 2000) :
  Calls Tryz.prog 83 #[v] w fun e w' => ∃ (u : Value) (ls : List (Value × List UInt8)), e = .returned (.tuple #[u, .nilIface]) /\ ja 22 w.heap.size w' u (ls.map (·.1)) /\ (∀ x ∈ ls, BsT w' x.1 x.2) /\ ls.map (·.2) = qF xs /\ (∀ x ∈ ls, ∀ b, x.1.ownBlock = some b -> w.heap.size <= b) /\ Fr [] w w' := by
 have HB := Hdq hb
 obtain ⟨a, cap, rfl, h2, h3, -⟩ := hb
 unfold maxLen at h3
 obtain ⟨M, hM⟩ := exq (nB xs.length)
 have hM1 : 1 <= M /\ M <= 250 := by rw [<- hM]; unfold nB; omega
 have HPL := Hdq (show (vD xs).length = 8 * M by rw [<- hM]; exact KA xs)
 have HSH := Hdq (fun w => Wh w (xs.length : Int) Y54 Y54)
 have HNB := Hdq (show qR (yH (xs.length : Int)) = (shN M).map (fun k : Nat => (k : Int)) by rw [qbb, hM, Zg])
 have HBL := Hdq (show uR (ut M (vD xs)) (shN M) = qF xs by unfold qF qa1; rw [hM])
 obtain ⟨N, hN⟩ := exq (xs.length)
 rw [hN] at HB h2 hl HSH HNB ⊢
 have HN := Hdq hN
 clear hM hN
 go_enter Tryz.func83, Tryz.ntmps83
 go_wp2_with fail
 refine (HSH.out w).mono ?_
 rintro e w1 ⟨sv, rfl, ho, hf⟩
 rw [HNB.out] at ho
 have HF1 := Hdq hf
 have HS1 := Hdq (ho.is (A := fun _ => False) Y85)
 obtain ⟨sa, sc, rfl, s3, s4, -⟩ := HS1.out.shape
 rw [List.length_map] at s3 HS1 ⊢
 have hsl := XQ M
 clear ho hf HSH
 go_wp2_with fail
 refine (qfh (fun _ => False) w1 _ xs (HB.out.keep HF1.out Y85) Y59).mono ?_
 rintro e w2 ⟨pv, rfl, ho, hf⟩
 have HF2 := Hdq (HF1.out.trans hf)
 have HS2 := Hdq (HS1.out.keep hf Y85)
 have HP2 := Hdq ho
 obtain ⟨pb, pc, rfl, pc1, pc2, pc3⟩ : ∃ pb pc, pv = .slice (some ⟨pb, 0, none⟩) (8 * M) pc /\ 8 * M <= pc /\ pc <= maxLen /\ w1.heap.size <= pb := by
  rcases ho.2 with ⟨rfl, h0⟩ | ⟨g, cap', cur, rfl, hg, hh, hn, hm, -⟩
  ·have := HPL.out; omega
  ·rw [HPL.out] at hn ⊢
   exact ⟨g, cap', rfl, hn, hm, hg⟩
 unfold maxLen at pc2
 have HPB := Hdq (show w.heap.size <= pb by have := HF1.out.size; omega)
 clear pc3
 clear ho hf HS1 HF1
 go_wp2_with fail
 refine (qb1 w2 _ _ _).mono ?_
 rintro e w3' ⟨rfl, hw3⟩
 have hBs : w3'.cell? ⟨w2.heap.size, 0, none⟩ = some (.slice (some ⟨pb, 0, none⟩) (8 * M) pc) := by
  have h : At w3' w2.heap.size (.cells #[.slice (some ⟨pb, 0, none⟩) (8 * M) pc] 22) := by rw [hw3]; exact (At.new rfl).al
  rw [qM h]; rfl
 have hBn : w3'.cell? ⟨w2.heap.size + 1, 0, none⟩ = some (.int .i64 8) := by
  have h : At w3' (w2.heap.size + 1) (.cells #[.int .i64 8] 3) := by rw [hw3]; exact At.new Y85
  rw [qM h]; rfl
 have hf3 : Fr [] w2 w3' := by rw [hw3]; exact Fr.al (Fr.alloc _ _)
 have HCO := Hdq (W9 w3' w2.heap.size (w2.heap.size + 1) pb M (8 * M) pc rfl Y54 pc1 pc2 hBs hBn)
 have HF3 := Hdq (HF2.out.trans hf3)
 have HS3 := Hdq (HS2.out.keep hf3 Y85)
 have HP3 := Hdq (HP2.out.keep hf3 Y85)
 clear hw3 hBs hBn hf3 HF2 HS2 HP2
 go_wp2_with fail
 refine HCO.out.mono ?_
 rintro e w4 ⟨dv, rfl, ho, hf⟩
 have HF4 := Hdq (HF3.out.trans hf)
 have HS4 := Hdq (HS3.out.keep hf Y85)
 have HP4 := Hdq (HP3.out.keep hf Y85)
 have HD4 := Hdq (ho.vs (A := fun _ => False) Y85)
 obtain ⟨da, dc, rfl, d1, d2, -⟩ := HD4.out
 have HCK := Hdq (show ∀ x ∈ ckL pb M (vD xs), BsT w4 x.1 x.2 from fun x hx => by
  obtain ⟨k, hk, rfl⟩ := List.mem_map.1 hx
  exact qgQ HP4.out k (by have := HPL.out; have := List.mem_range.1 hk; omega))
 rw [List.length_map, List.length_range] at HD4 d1 ⊢
 unfold maxLen at d2
 obtain ⟨B4, hB4⟩ := exq (w4.heap.size)
 have hwB : w.heap.size <= B4 := by have := HF4.out.size; omega
 replace HD4 := Hdq (show Vs (fun b => B4 <= b) w4 (.slice da M dc) ((List.range M).map (ckV pb)) from HD4.out.mono (Fr.refl [] w4) Y85 (fun b h => .inr Y54))
 replace HS4 := Hdq (show Is (fun b => B4 <= b) w4 (.slice sa (shN M).length sc) ((shN M).map fun k : Nat => (k : Int)) from Vs.mono HS4.out (Fr.refl [] w4) Y85 (fun b h => .inr Y54))
 clear ho hf HCO HF3 HS3 HP3
 go_wp2
 go_loopw [6, 7, 27] (fun d o i wr => ∃ (q s : Nat) (ea : Option Addr) (ec : Nat) (lsO : List (Value × List UInt8)), q <= (shN M).length /\ i = .int .i64 q /\ s = ((shN M).take q).sum /\ s <= M /\ d = .slice ea (M - s) ec /\ M - s <= ec /\ ec <= 2 ^ 63 - 1 /\
   B4 <= wr.heap.size /\ Hid (Vs (fun b => B4 <= b) wr (.slice ea (M - s) ec) (((List.range M).map (ckV pb)).drop s)) /\ Hid (ja 22 B4 wr o (lsO.map (·.1))) /\ Hid (∀ x ∈ lsO, BsT wr x.1 x.2) /\ Hid (lsO.map (·.2) = uR (ut M (vD xs)) ((shN M).take q)) /\
   Hid (∀ x ∈ ckL pb M (vD xs), BsT wr x.1 x.2) /\ Hid (Is (fun b => B4 <= b) wr (.slice sa (shN M).length sc) ((shN M).map fun k : Nat => (k : Int))) /\ Hid (Fr [] w wr) /\ Hid (∀ x ∈ lsO, ∀ b, x.1.ownBlock = some b -> w.heap.size <= b)) (fun _ _ i _ => (shN M).length - (intOf i).toNat)
 case atStart => exact ⟨0, 0, da, dc, [], by omega, rfl, rfl, by omega, rfl, by omega, by omega, by omega, Hdq (by simpa using HD4.out), ja.nil _ _ _, Hdq (fun x hx => by simp at hx), Hdq (by simp [uR]), HCK.out, HS4.out, HF4.out, Hdq (fun x hx => by simp at hx)⟩
 case round =>
  clear HD4 HCK HS4 HF4 HP4
  obtain ⟨q, s, ea, ec, lsO, hq, rfl, hsq, hsM, rfl, e1, e2, hBw, HD, HO, HOB, HOS, HCK, HS, HF, HNW⟩ := hrel
  have HSQ := Hdq hsq
  clear hsq
  by_cases hqn : q < (shN M).length
  ·obtain ⟨k, hk⟩ : ∃ k, (shN M)[q]? = some k := ⟨_, List.getElem?_eq_getElem hqn⟩
   have hkb := qhj M hM1.1 hM1.2 k (List.mem_of_getElem? hk)
   have hsum : ((shN M).take (q + 1)).sum = s + k := by rw [List.take_add_one, hk, HSQ.out]; simp
   have hle := Ku (shN M) (q + 1)
   rw [hsum, Qd] at hle
   obtain ⟨a', c', e, -, -, hc⟩ := HS.out.shape
   rw [List.length_map] at e hc
   cases e
   obtain ⟨b1, o1, rfl, -, hc1⟩ := hc (Nat.lt_of_le_of_lt (Nat.zero_le _) hqn)
   have g1 := hc1 q hqn
   rw [show ((shN M).map fun k : Nat => (k : Int)).getD q 0 = (k : Int) by simp [List.getD_eq_getElem?_getD, hk]] at g1
   have HK := Hdq hk
   have HSUM := Hdq hsum
   have HRD := Hdq (show RdB (fun _ => False) wr (.slice ea k ec) (((ckL pb M (vD xs)).drop s).take k) from by
    refine ⟨?_, fun x hx => (HCK.out x (List.mem_of_mem_drop (List.mem_of_mem_take hx))).bs (fun _ h => h)⟩
    have h := (qgc HD.out k Y54).mono (A' := fun _ => False) (Fr.refl [] wr) (fun b hb => by simp at hb) (fun b h => h.elim)
    rw [List.map_take, List.map_drop, show (ckL pb M (vD xs)).map (·.1) = (List.range M).map (ckV pb) by simp [ckL, Function.comp_def]]
    exact h)
   clear hk hsum hc hc1
   go_wp2_with fail
   have HLEN := Hdq (show (((ckL pb M (vD xs)).drop s).take k).length = k by simp [ckL]; omega)
   have HOL := Hdq (show lsO.length <= 400 by
    have h := congrArg List.length HOS.out
    rw [List.length_map, yY [] _ _ (by rw [zS, <- HSQ.out]; omega), <- HSQ.out] at h
    have := XQ M
    have h2 : ((shN M).take q).length <= 2 := by rw [List.length_take]; omega
    omega)
   refine (YP wr _ (((ckL pb M (vD xs)).drop s).take k) HRD.out (fun x hx => ?_) (by rw [HLEN.out]; omega) (by rw [HLEN.out]; omega)).mono ?_
   ·obtain ⟨j, hj, rfl⟩ := List.mem_map.1 (List.mem_of_mem_drop (List.mem_of_mem_take hx))
    have := HPL.out
    have := List.mem_range.1 hj
    simp; omega
   rintro e w5 ⟨gu, bs, rfl, ho, hrw, hf⟩
   obtain ⟨ls, hls⟩ := exq (((ckL pb M (vD xs)).drop s).take k)
   rw [hls] at ho hrw HLEN
   have hbl : bs.length = 32 := by have := hrw.len; rwa [WR] at this
   have HD5 := Hdq (HD.out.keep hf Y85)
   have HS5 := Hdq (HS.out.keep hf Y85)
   have HO5 := Hdq (HO.out.keep hf Y85)
   have HOB5 := Hdq (show ∀ x ∈ lsO, BsT w5 x.1 x.2 from fun x hx => (HOB.out x hx).keep0 hf)
   have HCK5 := Hdq (show ∀ x ∈ ckL pb M (vD xs), BsT w5 x.1 x.2 from fun x hx => (HCK.out x hx).keep0 hf)
   have HZ5 := Hdq (qd0 hrw (Ut _))
   have HZN := Hdq (show ∀ x ∈ UI bs (J7 (ls.map (·.2))), ∀ b, x.1.ownBlock = some b -> w.heap.size <= b from fun x hx b hb => by
    obtain ⟨i, hi, e⟩ := List.mem_iff_getElem.1 hx
    simp only [UI, List.getElem_zipWith] at e
    subst e
    have hb' : bs[i]'(by simp [UI] at hi; omega) = b := by simpa [sl8, Value.ownBlock] using hb
    have := hrw.lo b (by rw [<- hb']; exact List.getElem_mem _)
    omega)
   have HF5 := Hdq (HF.out.trans hf)
   have HG := Hdq (ho.vs (A := fun _ => False) Y85)
   have HSN := Hdq (WB bs (J7 (ls.map (·.2))) hrw.len)
   have HFN := Hdq (WP bs (J7 (ls.map (·.2))) hrw.len)
   have HONE := Hdq (show ∀ u ∈ ls.map (·.1) ++ bs.map sl8, u.oneCell' = true from fun u hu => by
    rcases List.mem_append.1 hu with hu | hu
    ·obtain ⟨y, hy, rfl⟩ := List.mem_map.1 hu
     rw [<- hls] at hy
     obtain ⟨b, off, cp, e⟩ := (HCK.out y (List.mem_of_mem_drop (List.mem_of_mem_take hy))).shape
     rw [e]; rfl
    ·obtain ⟨y, hy, rfl⟩ := List.mem_map.1 hu
     rfl)
   have hs5 : B4 <= w5.heap.size := by have := hf.size; omega
   have HLS := Hdq hls
   obtain ⟨go, gn, gc, rfl⟩ : ∃ go gn gc, gu = .slice go gn gc := by
    obtain ⟨a', c', rfl, -⟩ := HG.out
    exact ⟨_, _, _, rfl⟩
   clear ho hrw hf hls HD HS HO HOB HCK HF HRD
   go_wp2_with (at_builtin; refine uB (ys := ls.map (·.1) ++ bs.map sl8) (base := B4) Tryz.underlying35 Tryz.infoBytes rfl rfl (.tmp 41) (.tmp 42) rfl rfl rfl HO5.out HG.out HONE.out (by have := HOL.out; have := HLEN.out; simp [maxLen]; omega) (by have := HOL.out; have := HLEN.out; simp; omega) hs5 ?_)
   intro v' w6 h5 h6
   obtain ⟨L6, hL6⟩ := exq (lsO ++ (ls ++ UI bs (J7 (ls.map (·.2)))))
   have hfg := Fr.grown (S := u7.ownBlock.toList) h6 (fun g hg => by simp [hg])
   have hsz6 : B4 <= w6.heap.size := by have := h6.size; omega
   have HO6 := Hdq (show ja 22 B4 w6 v' (L6.map (·.1)) by
    rw [<- hL6, List.map_append, List.map_append, HFN.out]; exact h5)
   have HD6 := Hdq (show Vs (fun b => B4 <= b) w6 (.slice ea (M - s) ec) (((List.range M).map (ckV pb)).drop s) from HD5.out.keep hfg (fun g hg => HO5.out.blk hg))
   have HS6 := Hdq (HS5.out.keep hfg (fun g hg => HO5.out.blk hg))
   have HCK6 := Hdq (show ∀ x ∈ ckL pb M (vD xs), BsT w6 x.1 x.2 from fun x hx => (HCK5.out x hx).grown HO5.out h6)
   have HOB6 := Hdq (show ∀ x ∈ L6, BsT w6 x.1 x.2 from fun x hx => by
    rw [<- hL6] at hx
    rcases List.mem_append.1 hx with hx | hx
    ·exact (HOB5.out x hx).grown HO5.out h6
    rcases List.mem_append.1 hx with hx | hx
    ·rw [<- HLS.out] at hx
     exact (HCK5.out x (List.mem_of_mem_drop (List.mem_of_mem_take hx))).grown HO5.out h6
    ·exact (HZ5.out x hx).grown HO5.out h6)
   have HNW6 := Hdq (show ∀ x ∈ L6, ∀ b, x.1.ownBlock = some b -> w.heap.size <= b from fun x hx b hb => by
    rw [<- hL6] at hx
    rcases List.mem_append.1 hx with hx | hx
    ·exact HNW.out x hx b hb
    rcases List.mem_append.1 hx with hx | hx
    ·rw [<- HLS.out] at hx
     obtain ⟨j, -, rfl⟩ := List.mem_map.1 (List.mem_of_mem_drop (List.mem_of_mem_take hx))
     have : pb = b := by simpa [ckV, Value.ownBlock] using hb
     rw [<- this]; exact HPB.out
    ·exact HZN.out x hx b hb)
   have HOS6 := Hdq (show L6.map (·.2) = uR (ut M (vD xs)) ((shN M).take (q + 1)) by
    rw [<- hL6, List.map_append, List.map_append, HSN.out, HOS.out, qe1 _ _ q k HK.out (by rw [Qd, zS]; omega), <- HSQ.out]
    have : ls.map (·.2) = ((ut M (vD xs)).drop s).take k := by rw [<- HLS.out, List.map_take, List.map_drop, qc3]
    rw [this]; rfl)
   have HF6 := Hdq (show Fr [] w w6 from Fr.own HF5.out h6 HO5.out hwB)
   have HC6 := Hdq (qgK HD6.out k Y54)
   obtain ⟨ez, hez⟩ := exq ((if ec = k then ea else ea.map (·.add k)))
   rw [hez] at HC6
   have HEZ := Hdq hez
   have HDR := Hdq (show ((((List.range M).map (ckV pb)).drop s).drop k) = ((List.range M).map (ckV pb)).drop (s + k) by rw [List.drop_drop])
   rw [HDR.out, show M - s - k = M - (s + k) by omega] at HC6
   clear HZN HNW h5 h6 hfg HO5 HD5 HS5 HCK5 HOB5 HZ5 HF5 HG HSN HFN HONE hL6 HLEN HOL HOS HLS HD6 hez HDR
   go_wp2
   rw [HEZ.out]
   constructor
   ·exact ⟨q + 1, s + k, ez, ec - k, L6, by omega, by go_num, by rw [HSUM.out], by omega, by rw [Nat.sub_sub], by omega, by omega, hsz6, HC6, HO6, HOB6, HOS6, HCK6, HS6, HF6, HNW6⟩
   ·simp [intOf]; omega
  ·obtain rfl : q = (shN M).length := by omega
   have HE := Hdq (show lsO.map (·.2) = qF xs by have h := HOS.out; rw [List.take_length] at h; rw [h, HBL.out])
   go_wp2
   go_ret2
   exact ⟨_, lsO, rfl, HO.out.base hwB, HOB.out, HE.out, HNW.out, HF.out⟩
end Go.Proofs.YtdloaifdpajcjaaGreatDoor
namespace Go.Bl
open Go.RowKit Go.Proofs
set_option maxRecDepth 100000
set_option maxHeartbeats 8000000
attribute [local irreducible] qz
open Go.Proofs.YtdloaifdpajcjaaGreatDoor (Par chk blk qU qj qg zc UE j7)
theorem LC (Z : Ad) (h : Hh) (hh : ∀ α g, h α g = g ()) (xs : List UInt8) (hl : xs.length <= 2000) : qi Z 83 [.pv (bH h xs)] (.tup [.pv (lH h bP (qF xs)), .pv (.v .nilIface)]) [.any] := by
 simp only [bH, lH, hh]
 refine JA (xs := [bP xs]) Tryz.func83 rfl rfl fun A w us hA he hr => ?_
 cases hr with
 | cons h1 hr =>
  cases hr
  refine (UE w _ xs (JZ h1).any hl).mono ?_
  rintro e w' ⟨u, ls, rfl, ho, hb, heq, hn, hf⟩
  have hA' : ∀ b, (A b ∨ b ∈ ([] : List Nat)) -> b < w.heap.size := fun b hb => hA b Y80
  refine ⟨_, [], rfl, .tup (.cons (.pv ?_) (.cons (.pv (.v rfl)) .nil)), by simp, by simp, hf⟩
  rw [<- heq]
  refine qac ⟨ho.vs hA', fun x hx => ?_⟩
  obtain ⟨b, off, cap, c, e, g1, g2, g3, g4⟩ := hb x hx
  have hlo := hn x hx b (by rw [e]; rfl)
  exact ⟨_, cap, e, g1, g2, .inr ⟨b, off, c, 5, (0, 0), rfl, fun q => by have := hA' b q; omega, g3, g4⟩⟩
theorem qbr (Z : Ad) (h : Hh) (hh : ∀ α g, h α g = g ()) (m xs : List UInt8) (n : Int) (p : Par) (hc : chk p = 0) (hk : qj m n = 0) (hx : (xs.length : Int) = p.size) :
  qi Z 7 [.pv (bH h m), .pv (iH h n), .pv (bH h xs), .pv (uH h p)] (.tup [.pv (.a (h _ fun _ => Z6 m xs n p)), .pv (.v .nilIface)]) [.any, .any, .any, .any] := by
 have o1 : 0 <= p.size /\ p.size <= 2000 := (j7 hc).1
 obtain ⟨l1, l2, l3, l4⟩ := Qf Z h hh hc
 have bl := Go.Proofs.YtdloaifdpajcjaaGreatDoor.bl_len hx (j7 hc).1
 refine qec Z h hh m xs n p hc hk hx (fun l hl => ?_) (LC Z h hh xs Y54)
 obtain ⟨i, hi, rfl⟩ := List.mem_iff_getElem.1 hl
 have hi0 := hi
 rw [Go.Proofs.YtdloaifdpajcjaaGreatDoor.sealL_len] at hi
 obtain ⟨b, hb, e⟩ := Go.Proofs.YtdloaifdpajcjaaGreatDoor.seal_row m xs n p.sent.toNat Y54 i hi
 rw [List.getElem?_eq_getElem hi0, Option.some_inj] at e
 rw [e, Go.Proofs.YtdloaifdpajcjaaGreatDoor.tgdL_len, hb]
 decide
end Go.Bl
