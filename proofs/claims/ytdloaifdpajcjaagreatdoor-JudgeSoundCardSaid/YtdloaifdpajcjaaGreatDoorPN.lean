import Derived.Test.YtdloaifdpajcjaaGreatDoorPH
set_option linter.unusedVariables false
set_option linter.unusedSimpArgs false
set_option maxRecDepth 1000000
set_option maxHeartbeats 8000000
namespace Go.Bl
open Go.RowKit Go.Proofs
theorem qeP (x c : UInt8) : yp .xor .u8 (x.toNat : Int) (c.toNat : Int) = ((x ^^^ c).toNat : Int) := by
 have hx := x.toNat_lt
 have hc := c.toNat_lt
 have h1 := (x ^^^ c).toNat_lt
 rw [UInt8.toNat_xor] at h1 ⊢
 change IntKind.u8.wrap (((BitVec.ofInt 8 (x.toNat : Int) ^^^ BitVec.ofInt 8 (c.toNat : Int)).toNat : Nat) : Int) = _
 simp only [BitVec.ofInt_natCast, BitVec.toNat_xor, BitVec.toNat_ofNat]
 rw [Nat.mod_eq_of_lt Y54, Nat.mod_eq_of_lt Y54, qfS Y54 Y54]
@[simp] theorem u8P_int (b : UInt8) : (u8P b).int = (b.toNat : Int) := rfl
def vr (p : List UInt8) (c : UInt8) (k : Nat) : List UInt8 := (p.take k).map (· ^^^ c) ++ p.drop k
theorem V4 {p : List UInt8} {c : UInt8} {k : Nat} (hp : p.length = 64) (hk : k <= 64) : (vr p c k).length = 64 := by simp [vr]; omega
theorem qct {p : List UInt8} {c : UInt8} {k : Nat} (hp : p.length = 64) (hk : k < 64) : (vr p c k)[k]? = some p[k] := by
 rw [vr, List.getElem?_append_right Y57]
 simp [hp, Nat.min_eq_left (Nat.le_of_lt hk), List.getElem?_drop]
theorem Lk {p : List UInt8} {c : UInt8} {k : Nat} (hp : p.length = 64) (hk : k < 64) : splice k [u8P (p[k] ^^^ c)] ((vr p c k).map u8P) = (vr p c (k + 1)).map u8P := by
 have e : ((vr p c k).map u8P).take k = ((p.take k).map (· ^^^ c)).map u8P := by
  rw [vr, List.map_append, List.take_append_of_le_length Y57, List.take_of_length_le Y57]
 have e2 : ((vr p c k).map u8P).drop (k + 1) = (p.drop (k + 1)).map u8P := by
  rw [vr, List.map_append, List.drop_append, List.drop_eq_nil_of_le Y57, List.nil_append, <- List.map_drop, List.drop_drop]
  congr 2
  simp; omega
 rw [splice, e, List.length_singleton, e2, vr, List.take_succ_eq_append_getElem Y54]
 simp only [List.map_append, List.map_cons, List.map_nil, List.append_assoc]
theorem xV (Z : Ad) (h : Hh) (hh : ∀ α g, h α g = g ()) (p : List UInt8) (c : UInt8) (hp : p.length = 64) : qi Z 147 [.pv (aH h u8P p), .pv (kH h .u8 (nI c.toNat))] (.pv (lH h u8P (p.map (· ^^^ c)))) [.any, .any] := by
 refine qB Z h hh ⟨Tryz.func147, Tryz.ntmps147⟩ rfl rfl rfl rfl rfl fun C hC => ?_
 unfold Tryz.f147
 cbv
 refine ⟨Nat, fun k => ⟨[(2, some (.ref 990 0 0)), (1, some (.pv (kH h .u8 (nI c.toNat)))), (6, some (.pv (nH h k)))], [(990, some (.var 268 (h _ fun _ => (vr p c k).map u8P) false))]⟩,
  fun k => k <= 64, fun k => 64 - k, 0, [], Nat.zero_le _, trivial, ⟨[(990, 2)], rfl, rfl, ⟨?_, trivial⟩, rfl, rfl, ?_, trivial⟩, ?_⟩
 ·cbv
 ·cbv; simp [hh]
 ·intro k hk
  cbv
  refine ⟨fun _ => rfl, fun e => ?_, fun e => ?_⟩ <;> simp only [hh, nI, decide_eq_true_eq, decide_eq_false_iff_not] at e
  ·have e' : k < 64 := Int.ofNat_lt.1 e
   have q1 := V4 (c := c) hp (Nat.le_of_lt e')
   have q2 := qct (c := c) hp e'
   cbv
   repeat' first
    | apply And.intro
    | exact sq
    | trivial
   refine ⟨k + 1, e', by show 64 - (k + 1) < 64 - k; omega, [], rfl, rfl, ⟨?_, trivial⟩, rfl, rfl, ?_, trivial⟩
   ·cbv
    simp only [hh, nI, <- Lk hp e']
    have q4 : (List.drop k (List.map u8P (vr p c k))).getD 0 noP = u8P p[k] := by simp [List.getD_eq_getElem?_getD, List.getElem?_drop, q2]
    simp only [Int.toNat_natCast, Nat.zero_add, Nat.add_zero, q4, u8P_int, qeP]
    rfl
   ·cbv; simp (disch := omega) [hh, wrap_i64]
  ·have e' : 64 <= k := Nat.le_of_not_lt fun q => e (Int.ofNat_lt.2 q)
   obtain rfl : k = 64 := by omega
   have q1 := V4 (c := c) hp (Nat.le_refl _)
   have q3 : vr p c 64 = p.map (· ^^^ c) := by rw [vr, List.take_of_length_le Y54, List.drop_eq_nil_of_le Y54, List.append_nil]
   cbv
   repeat' first
    | apply And.intro
    | exact .inr trivial
    | exact sq
    | trivial
end Go.Bl
namespace Go.Bl
open Go.RowKit Go.Proofs
attribute [local irreducible] qz
def vC (k : List UInt8) : List PV := [bP (VI k), bP (VL k)]
theorem qdo {k : List UInt8} (hk : k.length <= 64) : splice 0 (List.take 64 ((k.map u8P).flatMap PV.cells)) (List.replicate 64 (u8P 0)) = (k ++ List.replicate (64 - k.length) 0).map u8P := by
 rw [z8, List.take_of_length_le (by rw [List.length_map]; exact hk), splice, List.take_zero, List.nil_append, Nat.zero_add, List.length_map, List.drop_replicate, List.map_append, List.map_replicate]
theorem V8 {k : List UInt8} (hk : k.length <= 64) : List.take 64 (List.drop (0 + 0) (splice 0 (List.take 64 ((k.map u8P).flatMap PV.cells)) (List.replicate 64 (u8P 0)))) = (k ++ List.replicate (64 - k.length) 0).map u8P := by
 rw [qdo hk, List.drop_zero, List.take_of_length_le Y57]
theorem qeZ {k : List UInt8} (hk : k.length <= 64) : 64 <= (List.drop (0 + 0) (splice 0 (List.take 64 ((k.map u8P).flatMap PV.cells)) (List.replicate 64 (u8P 0)))).length := by
 rw [qdo hk, List.drop_zero, List.length_map, List.length_append, List.length_replicate]; omega
theorem UB (Z : Ad) (h : Hh) (hh : ∀ α g, h α g = g ()) (k : List UInt8) (hk : k.length <= 64) : qi Z 82 [.pv (bH h k)] (.pv (.p (h _ fun _ => vC k))) [.any] := by
 have nk : ¬ (64 : Int) < (k.length : Int) := by omega
 have hpl : (k ++ List.replicate (64 - k.length) (0 : UInt8)).length = 64 := by rw [List.length_append, List.length_replicate]; omega
 have he : ZU k = k ++ List.replicate (64 - k.length) 0 := by rw [ZU, Kn, if_neg Y54]
 have hK := hk
 obtain ⟨pd, hpd⟩ := exq (k ++ List.replicate (64 - k.length) (0 : UInt8))
 have t1 := xV Z h hh pd 54 (by rw [<- hpd]; exact hpl)
 have t2 := xV Z h hh pd 92 (by rw [<- hpd]; exact hpl)
 have pc := V8 hk
 rw [hpd] at pc he
 have ek : vC k = [.l ((pd.map (· ^^^ 54)).map u8P), .l ((pd.map (· ^^^ 92)).map u8P)] := by rw [vC, VI, VL, he]; rfl
 rw [ek]
 clear he hpl hpd ek
 have HP := Hdq pc
 clear pc
 refine qB Z h hh ⟨Tryz.func82, Tryz.ntmps82⟩ rfl rfl rfl rfl rfl fun C hC => ?_
 unfold Tryz.f82
 cbv
 repeat' first
  | exact s0
  | apply And.intro
  | (refine fun (_ : PUnit) => ?_; first | assumption | exact ⟨rfl⟩ | exact sg | (simp only [hh]; exact congrArg PV.a HP.out) | (simp only [hh]; exact qeZ hK))
  | trivial
  | (refine fun (e : (_ : Bool) = _) => ?_; first | (exfalso; simp [hh, nk] at e; done) | (replace e := Ev.mk e; cbv))
  | (refine ⟨_, _, _, hC _ _ _ _ t1, ?_⟩; cbv; clear t1)
  | (refine ⟨_, _, _, hC _ _ _ _ t2, ?_⟩; cbv; clear t2)
theorem qib {d : List UInt8} (hd : d.length = 32) : ((splice 0 (d.map u8P) (List.replicate 32 (u8P 0))).drop 0).take 32 = d.map u8P := by
 rw [splice_all (by rw [List.length_map, hd, List.length_replicate]), List.drop_zero, List.take_of_length_le (by rw [List.length_map, hd]; exact Nat.le_refl _)]
theorem qil {d : List UInt8} (hd : d.length = 32) : List.take 64 (List.drop (0 + 0) (splice 0 (List.take 64 ((((splice 0 (d.map u8P) (List.replicate 32 (u8P 0))).drop 0).take 32).flatMap PV.cells)) (List.replicate 64 (u8P 0)))) = (d ++ List.replicate (64 - d.length) 0).map u8P := by
 rw [qib hd]
 exact V8 Y54
theorem qf1 {d : List UInt8} (hd : d.length = 32) : 64 <= (List.drop (0 + 0) (splice 0 (List.take 64 ((((splice 0 (d.map u8P) (List.replicate 32 (u8P 0))).drop 0).take 32).flatMap PV.cells)) (List.replicate 64 (u8P 0)))).length := by
 rw [qib hd]
 exact qeZ Y54
theorem XJ (Z : Ad) (h : Hh) (hh : ∀ α g, h α g = g ()) (k : List UInt8) (hk : 64 < k.length) (hl : k.length <= 100000000) : qi Z 82 [.pv (bH h k)] (.pv (.p (h _ fun _ => vC k))) [.any] := by
 have nk : (64 : Int) < (k.length : Int) := by omega
 obtain ⟨d, hde⟩ := exq (qz k)
 have hd : d.length = 32 := by rw [<- hde]; exact jv k
 have hpl : (d ++ List.replicate (64 - d.length) (0 : UInt8)).length = 64 := by rw [List.length_append, List.length_replicate]; omega
 have he : ZU k = d ++ List.replicate (64 - d.length) 0 := by rw [ZU, Kn, if_pos hk, hde]
 obtain ⟨pd, hpd⟩ := exq (d ++ List.replicate (64 - d.length) (0 : UInt8))
 have t1 := xV Z h hh pd 54 (by rw [<- hpd]; exact hpl)
 have t2 := xV Z h hh pd 92 (by rw [<- hpd]; exact hpl)
 have pc := qil hd
 rw [hpd] at pc he
 have ek : vC k = [.l ((pd.map (· ^^^ 54)).map u8P), .l ((pd.map (· ^^^ 92)).map u8P)] := by rw [vC, VI, VL, he]; rfl
 rw [ek]
 have hsc := ue Z h hh [k] Y57
 rw [show [k].flatten = k by simp, hde] at hsc
 clear he hpl hpd ek hk hl hde
 have HP := Hdq pc
 clear pc
 refine qB Z h hh ⟨Tryz.func82, Tryz.ntmps82⟩ rfl rfl rfl rfl rfl fun C hC => ?_
 unfold Tryz.f82
 cbv
 repeat' first
  | exact s0
  | apply And.intro
  | (refine fun (_ : PUnit) => ?_; first | assumption | exact ⟨rfl⟩ | exact sg | (simp only [hh]; exact congrArg PV.a HP.out) | (simp only [hh]; exact qf1 hd))
  | trivial
  | (refine fun (e : (_ : Bool) = _) => ?_; first | (exfalso; simp [hh, nk] at e; done) | (replace e := Ev.mk e; cbv))
  | (refine ⟨_, _, _, hC _ _ _ _ hsc, ?_⟩; cbv; clear hsc)
  | (refine ⟨_, _, _, hC _ _ _ _ t1, ?_⟩; cbv; clear t1)
  | (refine ⟨_, _, _, hC _ _ _ _ t2, ?_⟩; cbv; clear t2)
theorem vf (Z : Ad) (h : Hh) (hh : ∀ α g, h α g = g ()) (k : List UInt8) (hl : k.length <= 100000000) : qi Z 82 [.pv (bH h k)] (.pv (.p (h _ fun _ => vC k))) [.any] := by
 rcases Nat.lt_or_ge 64 k.length with q | q
 ·exact XJ Z h hh k q hl
 ·exact UB Z h hh k q
end Go.Bl
namespace Go.Bl
open Go.RowKit Go.Proofs Go.Proofs.YtdloaifdpajcjaaGreatDoor
theorem Jy {ls : List (List UInt8)} : (∀ x ∈ ls.map bP, x.cells.length = 1) /\ ∀ x ∈ ls.map bP, ∀ c ∈ x.cells, c.one = true :=
 ⟨fun x hx => by obtain ⟨y, -, rfl⟩ := List.mem_map.1 hx; rfl, fun x hx c hc => by obtain ⟨y, -, rfl⟩ := List.mem_map.1 hx; simp [PV.cells, bP] at hc; subst hc; rfl⟩
theorem Kk {e base : Nat} {w : World} {v : Value} {us : List Value} (h : ja e base w v us) : ∀ b ∈ v.ownBlock.toList, base <= b /\ b < w.heap.size := by
 intro b hb
 rcases h.2 with ⟨h, -⟩ | ⟨g, cap, cur, hv, hg, hh, r⟩
 ·rw [h] at hb; cases hb
 ·rw [hv] at hb
  simp [Value.ownBlock] at hb
  subst hb
  exact ⟨hg, qk hh⟩
theorem Zz (v : Value) : v.ownBlock.toList.Nodup := by cases v.ownBlock <;> simp
theorem LM (Z : Ad) (h : Hh) (hh : ∀ α g, h α g = g ()) (ls : List (List UInt8)) (hl : ls.length <= 100000) : qi Z 241 [.pv (lH h bP ls)] (.own 22 1 (h _ fun _ => ls.map bP)) [.any] := by
 simp only [lH, hh]
 refine JA (xs := [.l (ls.map bP)]) Tryz.func241 rfl rfl fun A w us hA he hr => ?_
 cases hr with
 | cons h1 hr =>
  cases hr
  cases h1 with
  | l h h1 h2 h3 h4 h5 h6 =>
   rename_i ad cap s us
   rw [yX] at h
   have hlen := h.length
   have hone := h.ones fun x hx => by obtain ⟨y, -, rfl⟩ := List.mem_map.1 hx; rfl
   rw [hlen] at h4 ⊢
   refine (qag A w _ us ⟨ad, cap, rfl, h4, h5, h6⟩ hone (by rw [<- hlen, List.length_map]; exact hl)).mono ?_
   rintro e w' ⟨v', rfl, ho, hf⟩
   have hb := Kk ho
   refine ⟨v', v'.ownBlock.toList, rfl, .own (us := us) Y86 ?_ Jy.1 Jy.2 ?_, Zz v', hb, hf⟩
   ·rw [yX]
    refine h.stay ⟨fun b hb' _ => hf.block b hb' Y85, fun b hb' hq => ?_⟩
    rcases hq with hq | hq
    ·exact hq
    ·have := (hb b hq).1; omega
   ·rw [hlen]
    exact ho.base (Nat.zero_le _)
theorem qf7 (Z : Ad) (h : Hh) (hh : ∀ α g, h α g = g ()) (x : List UInt8) (ls : List (List UInt8)) (h1 : 1 <= ls.length) (hl : ls.length <= 1000) : qi Z 240 [.own 22 1 (h _ fun _ => ls.map bP), .pv (.v (.int .i64 0)), .own 22 1 (h _ fun _ => [bP x])] (.own 22 1 (h _ fun _ => (x :: ls).map bP)) [.any, .any, .any] := by
 simp only [hh]
 refine .mk' rfl ⟨enters_of Tryz.func240 rfl rfl, fun w vals bs A hA hbs hnd henv hr => ?_⟩
 cases hr with
 | @cons _ v _ _ _ _ r1 hr =>
 cases hr with
 | cons r2 hr =>
 cases hr with
 | @cons _ v3 _ _ _ _ r3 hr =>
  cases hr
  cases r2 with
  | pv r2 =>
   rw [VE r2]
   cases r1 with
   | @own _ _ _ _ us a1 a2 a3 a4 a5 =>
    cases r3 with
    | @own _ _ _ _ us3 c1 c2 c3 c4 c5 =>
     rw [yX] at a2
     have hlen := a2.length
     rw [List.length_map] at hlen
     have hone := a2.ones fun x hx => by obtain ⟨y, -, rfl⟩ := List.mem_map.1 hx; rfl
     have hO : ja 22 0 w v us := by
      rw [List.length_map, hlen] at a5
      exact a5
     obtain ⟨d1, d2⟩ := c5
     rcases d2 with ⟨-, d2⟩ | ⟨g, cap, cur, rfl, -, hh3, hn3, hm3, hs3, ht3⟩
     ·cases d2
     ·have hx3 : ∃ u, us3 = [u] /\ qN A w (bP x) u := by
       cases c2 with
       | cons q1 q2 =>
        cases q2
        exact ⟨_, rfl, q1⟩
      obtain ⟨u, rfl, hu⟩ := hx3
      have hv0 : cur[0]? = some u := by
       have : (cur.toList.take (1 * 1))[0]? = some u := by rw [show [bP x].length = 1 from rfl] at ht3; rw [ht3]; rfl
       rw [List.getElem?_take] at this
       simpa using this
      have hcap : 1 <= cap := hn3
      rw [Nat.mul_one] at hs3
      have hne : ∀ q, v.ownBlock = some q -> g ≠ q := by
       rintro q hq rfl
       have := (List.nodup_append.1 hnd).2.2 g (by simp [hq]) g (by simp [Value.ownBlock])
       exact this rfl
      refine (qeo w 0 g v us u hO (by rw [<- hlen]; exact h1) (by rw [<- hlen]; exact hl) hh3 hs3 hcap hv0 hne (Nat.zero_le _) hone (hu.one rfl)).mono ?_
      rintro e w' ⟨v', rfl, ho, hf, hq⟩
      have hb := Kk ho
      have hin : ∀ b ∈ v'.ownBlock.toList, (b ∈ v.ownBlock.toList ∨ w.heap.size <= b) := fun b hb' => by
       rcases hq b (by simpa using hb') with q | q
       ·exact .inl (by simpa using q)
       ·exact .inr Y54
      refine ⟨v', v'.ownBlock.toList, [], rfl, .own (us := u :: us) Y86 ?_ Jy.1 Jy.2 ?_, JH (xs := [.l [], .l [], .l []]) rfl, by rw [List.append_nil]; exact Zz v', ?_, hf.mono fun b hb' => .inl (List.mem_append.2 (.inl hb'))⟩
      ·rw [yX]
       have hst : ∀ {y : PV} {z : Value}, qN A w y z -> qN (fun b => (A b /\ b ∉ v.ownBlock.toList ++ ([] ++ ((Value.slice (some ⟨g, 0, none⟩) [bP x].length cap).ownBlock.toList ++ []))) ∨ b ∈ v'.ownBlock.toList ++ []) w' y z := fun hy => hy.stay ⟨fun b hb' hn => hf.block b hb' fun hm => hn (hbs b (List.mem_append.2 (.inl hm))), fun b hb' hq => by
        rcases hq with hq | hq
        ·exact hq.1
        ·rw [List.append_nil] at hq
         rcases hin b hq with r | r
         ·exact hbs b (List.mem_append.2 (.inl r))
         ·omega⟩
       refine .cons (hst hu) ?_
       exact a2.stay ⟨fun b hb' hn => hf.block b hb' fun hm => hn (hbs b (List.mem_append.2 (.inl hm))), fun b hb' hq => by
        rcases hq with hq | hq
        ·exact hq.1
        ·rw [List.append_nil] at hq
         rcases hin b hq with r | r
         ·exact hbs b (List.mem_append.2 (.inl r))
         ·omega⟩
      ·rw [List.length_map, List.length_cons, hlen]
       exact ho
      ·intro b hb'
       rw [List.append_nil] at hb'
       refine ⟨(hin b hb').imp (fun r => List.mem_append.2 (.inl r)) id, (hb b hb').2⟩
end Go.Bl
namespace Go.Bl
open Go.RowKit Go.Proofs
attribute [local irreducible] qz
theorem JD (Z : Ad) (h : Hh) (hh : ∀ α g, h α g = g ()) (xs : List UInt8) (hl : xs.length <= 140737488351232) : qi Z 107 [.pv (bH h xs)] (.own 5 1 (h _ fun _ => xs.map u8P)) [.any] := by
 simp only [bH, lH, hh]
 exact Ym Tryz.func107 rfl rfl fun A w u hA he hr => Go.Proofs.YtdloaifdpajcjaaGreatDoor.clone_any _ w u xs (JZ hr) hl
theorem Z2 (Z : Ad) (h : Hh) (hh : ∀ α g, h α g = g ()) (k : List UInt8) (ls : List (List UInt8)) (h1 : 1 <= ls.length) (hl : ls.length <= 1000) (hb : ls.flatten.length <= 90000000) :
  qi Z 208 [.pv (.p (h _ fun _ => vC k)), .pv (lH h bP ls)] (.pv (aH h u8P (JK k ls.flatten))) [.any, .any] := by
 obtain ⟨ki, hki⟩ := exq (VI k)
 obtain ⟨ko, hko⟩ := exq (VL k)
 have l1 : ki.length = 64 := by rw [<- hki]; exact qdJ k
 have l2 : ko.length = 64 := by rw [<- hko]; exact qdl k
 have hkp : vC k = [bP ki, bP ko] := by rw [vC, hki, hko]
 have hm : JK k ls.flatten = qz (ko ++ qz (ki ++ ls.flatten)) := by rw [JK, hki, hko]
 rw [hkp, hm]
 obtain ⟨d, hd⟩ := exq (qz (ki ++ ls.flatten))
 have l3 : d.length = 32 := by rw [<- hd]; exact jv _
 have c1 := LM Z h hh ls Y54
 have c2 := qf7 Z h hh ki ls h1 hl
 have c3 := ue Z h hh (ki :: ls) (by simp; simp at hb; omega)
 have c4 := ue Z h hh [ko, d] Y57
 rw [show (ki :: ls).flatten = ki ++ ls.flatten by simp, hd] at c3
 rw [show [ko, d].flatten = ko ++ d by simp] at c4
 rw [hd]
 clear hki hko hkp hm hd h1 hb
 refine qB Z h hh ⟨Tryz.func208, Tryz.ntmps208⟩ rfl rfl rfl rfl rfl fun C hC => ?_
 unfold Tryz.f208
 cbv
 repeat' first
  | exact s0
  | apply And.intro
  | exact sq
  | trivial
  | (refine fun (e : (_ : Bool) = _) => ?_; first | (exfalso; simp [hh] at e; done) | (replace e := Ev.mk e; cbv))
  | (refine ⟨_, _, _, hC _ _ _ _ c1, ?_⟩; cbv; clear c1)
  | (refine ⟨_, _, _, hC _ _ _ _ c2, ?_⟩; cbv; clear c2)
  | (refine ⟨_, _, _, hC _ _ _ _ c3, ?_⟩; cbv; clear c3)
  | (refine ⟨_, _, _, hC _ _ _ _ c4, ?_⟩; cbv; clear c4)
end Go.Bl
namespace Go.Bl
open Go.RowKit Go.Proofs
attribute [local irreducible] qz
open Go.Proofs.YtdloaifdpajcjaaGreatDoor (beK ZG jy)
theorem qdA (Z : Ad) (h : Hh) (hh : ∀ α g, h α g = g ()) (k : List UInt8) (ls : List (List UInt8)) (h1 : 1 <= ls.length) (hl : ls.length <= 1000) (hb : ls.flatten.length <= 90000000) :
  qi Z 155 [.pv (.p (h _ fun _ => vC k)), .pv (lH h bP ls)] (.own 5 1 (h _ fun _ => (JN k ls.flatten).map u8P)) [.any, .any] := by
 obtain ⟨d, hd⟩ := exq (JK k ls.flatten)
 have l3 : d.length = 32 := by rw [<- hd]; exact xe _ _
 have c1 := Z2 Z h hh k ls h1 hl hb
 have c2 := JD Z h hh (d.take 8) Y57
 rw [hd] at c1
 rw [JN, hd]
 clear hd h1 hb hl
 refine qB Z h hh ⟨Tryz.func155, Tryz.ntmps155⟩ rfl rfl rfl rfl rfl fun C hC => ?_
 unfold Tryz.f155
 cbv
 repeat' first
  | exact s0
  | apply And.intro
  | exact sq
  | trivial
  | (refine fun (e : (_ : Bool) = _) => ?_; first | (exfalso; simp [hh] at e; done) | (replace e := Ev.mk e; cbv))
  | (refine ⟨_, _, _, hC _ _ _ _ c1, ?_⟩; cbv; clear c1)
  | (refine ⟨_, _, _, hC _ _ _ _ c2, ?_⟩; cbv; clear c2)
theorem vI (Z : Ad) (h : Hh) (hh : ∀ α g, h α g = g ()) (n : Int) : qi Z 121 [.pv (iH h n)] (.own 5 1 (h _ fun _ => (beK 8 n).map u8P)) [.any] := by
 simp only [iH, hh]
 refine Ym Tryz.func121 rfl rfl fun A w u hA he hr => ?_
 rw [VE hr]
 exact ZG w n
theorem QU (Z : Ad) (h : Hh) (hh : ∀ α g, h α g = g ()) (k : List UInt8) (i : Int) : qi Z 160 [.pv (.a [.p (h _ fun _ => vC k)]), .pv (iH h i)] (.own 5 1 (h _ fun _ => (jy k i).map u8P)) [.any, .any] := by
 obtain ⟨nb, hnb⟩ := exq (beK 8 i)
 have ln : nb.length = 8 := by rw [<- hnb]; rfl
 obtain ⟨d, hd⟩ := exq (JK k nb)
 have l3 : d.length = 32 := by rw [<- hd]; exact xe _ _
 have c1 := vI Z h hh i
 rw [hnb] at c1
 have c2 := Z2 Z h hh k [nb] Y85 Y85 Y57
 rw [show [nb].flatten = nb by simp, hd] at c2
 have c3 := JD Z h hh (d.take 8) Y57
 rw [show jy k i = d.take 8 by rw [jy, JN, hnb, hd]]
 clear hnb hd
 refine qB Z h hh ⟨Tryz.func160, Tryz.ntmps160⟩ rfl rfl rfl rfl rfl fun C hC => ?_
 unfold Tryz.f160
 cbv
 repeat' first
  | exact s0
  | apply And.intro
  | exact sq
  | trivial
  | (refine fun (e : (_ : Bool) = _) => ?_; first | (exfalso; simp [hh] at e; done) | (replace e := Ev.mk e; cbv))
  | (refine ⟨_, _, _, hC _ _ _ _ c1, ?_⟩; cbv; clear c1)
  | (refine ⟨_, _, _, hC _ _ _ _ c2, ?_⟩; cbv; clear c2)
  | (refine ⟨_, _, _, hC _ _ _ _ c3, ?_⟩; cbv; clear c3)
def xD : List UInt8 -> Nat
 | [] => 0
 | xs@(_ :: _) => xs.foldl (fun a c => a * 256 + c.toNat) 0
theorem J2 {xs : List UInt8} {k : Nat} (hk : k < xs.length) : xD (xs.take (k + 1)) = xD (xs.take k) * 256 + xs[k].toNat := by
 have e : ∀ l : List UInt8, xD l = l.foldl (fun a c => a * 256 + c.toNat) 0 := fun l => by cases l <;> rfl
 rw [e, e, List.take_succ_eq_append_getElem hk, List.foldl_append]
 rfl
theorem Jz : ∀ (k : Nat) (xs : List UInt8), k <= xs.length -> xD (xs.take k) < 256 ^ k
 | 0, xs, _ => by simp [xD]
 | k + 1, xs, h => by
  have h1 := Jz k xs Y54
  have h2 := xs[k].toNat_lt
  rw [J2 Y54, Nat.pow_succ]
  omega
theorem qaR {a : Nat} {c : UInt8} (ha : a < 72057594037927936) : yp .or .u64 (IntKind.u64.wrap ((a : Int) * 256)) (IntKind.u64.wrap (c.toNat : Int)) = ((a * 256 + c.toNat : Nat) : Int) := by
 have hc := c.toNat_lt
 rw [xa Y54 Y54, xa Y54 Y54]
 change IntKind.u64.wrap (((BitVec.ofInt 64 ((a : Int) * 256) ||| BitVec.ofInt 64 (c.toNat : Int)).toNat : Nat) : Int) = _
 rw [show (a : Int) * 256 = ((a * 256 : Nat) : Int) by omega]
 simp only [BitVec.ofInt_natCast, BitVec.toNat_or, BitVec.toNat_ofNat]
 rw [Nat.mod_eq_of_lt Y54, Nat.mod_eq_of_lt Y54]
 have e : a * 256 ||| c.toNat = a * 256 + c.toNat := by
  have := Nat.shiftLeft_add_eq_or_of_lt (i := 8) (b := c.toNat) Y54 a
  rw [Nat.shiftLeft_eq] at this
  exact this.symm
 rw [e, xa Y54 Y54]
theorem Wp (Z : Ad) (h : Hh) (hh : ∀ α g, h α g = g ()) (k : List UInt8) (i : Int) : qi Z 92 [.pv (.a [.p (h _ fun _ => vC k)]), .pv (iH h i)] (.pv (kH h .u64 (nI (xD (jy k i))))) [.any, .any] := by
 have c1 := QU Z h hh k i
 obtain ⟨xs, hx⟩ := exq (jy k i)
 have lx : xs.length = 8 := by rw [<- hx]; exact yf _ _
 rw [hx] at c1 ⊢
 clear hx
 refine qB Z h hh ⟨Tryz.func92, Tryz.ntmps92⟩ rfl rfl rfl rfl rfl fun C hC => ?_
 unfold Tryz.f92
 cbv
 repeat' first
  | exact s0
  | apply And.intro
  | exact sq
  | trivial
  | (refine fun (e : (_ : Bool) = _) => ?_; first | (exfalso; simp [hh] at e; done) | (replace e := Ev.mk e; cbv))
  | (refine ⟨_, _, _, hC _ _ _ _ c1, ?_⟩; cbv; clear c1)
 refine ⟨Nat, fun j => ⟨[(5, some (.pv (kH h .u64 (nI (xD (xs.take j)))))), (10, some (.own 990)), (11, some (.pv (nH h xs.length))), (12, some (.pv (nH h j)))], [(990, some (.row 5 1 (h _ fun _ => xs.map u8P) false))]⟩,
  fun j => j <= xs.length, fun j => xs.length - j, 0, [], Nat.zero_le _, trivial, ⟨[(990, 10)], rfl, rfl, ⟨rfl, trivial⟩, ?_, rfl, ?_, ?_, trivial⟩, ?_⟩
 ·cbv; simp [hh, xD]
 ·cbv; simp [hh]
 ·cbv; simp [hh]
 ·intro j hj
  cbv
  refine ⟨fun _ => rfl, fun e => ?_, fun e => ?_⟩ <;> simp only [hh, nI, decide_eq_true_eq, decide_eq_false_iff_not] at e
  ·have e' : j < xs.length := jI e
   have hlt : xD (xs.take j) < 72057594037927936 := by
    have := Jz j xs hj
    have h2 : 256 ^ j <= 256 ^ 7 := Nat.pow_le_pow_right Y86 Y54
    omega
   have hor := Hdq (qaR (c := xs[j]) hlt)
   have lx' := Hdq lx
   clear lx hlt
   cbv
   repeat' first
    | exact s0
    | apply And.intro
    | exact sq
    | trivial
    | (refine fun (e : (_ : Bool) = _) => ?_; first | (exfalso; simp [hh] at e; done) | (replace e := Ev.mk e; cbv))
   refine ⟨j + 1, e', by show xs.length - (j + 1) < xs.length - j; omega, [], rfl, rfl, ⟨rfl, trivial⟩, ?_, rfl, rfl, ?_, trivial⟩
   ·cbv
    simp only [hh, nI, J2 e']
    refine congrArg (fun x : Int => some (AV.pv (PV.v (Value.int .u64 x)))) (Eq.trans ?_ hor.out)
    rw [show (2 : Int) ^ min (Int.toNat 8) IntKind.u64.bits = 256 from rfl]
    simp [e', u8P, u8v]
   ·cbv
    simp [hh]
    rw [wrap_i64 Y54 (by have := lx'.out; omega)]
  ·have e' : j = xs.length := Nat.le_antisymm hj (jN e)
   subst e'
   cbv
   repeat' first
    | exact s0
    | apply And.intro
    | exact sq
    | trivial
    | (refine fun (e : (_ : Bool) = _) => ?_; first | (exfalso; simp [hh] at e; done) | (replace e := Ev.mk e; cbv))
end Go.Bl
namespace Go.Bl
open Go.RowKit Go.Proofs
attribute [local irreducible] qz
open Go.Proofs.YtdloaifdpajcjaaGreatDoor (beK jy)
def yo (n i : Nat) : List Int := (List.range n).map fun x => if x < i then (x : Int) else 0
theorem JB (n i : Nat) : (yo n i).length = n := by simp [yo]
theorem qcA {n i : Nat} : (yo n i).set i i = yo n (i + 1) := by
 refine List.ext_getElem (by simp [yo]) fun a h1 h2 => ?_
 simp only [yo, List.getElem_set, List.getElem_map, List.getElem_range]
 split
 ·subst_vars; simp
 ·congr 1; exact propext ⟨fun h => by omega, fun h => by omega⟩
theorem LJ (n : Nat) : yo n 0 = List.replicate n 0 := by
 refine List.ext_getElem (by simp [yo]) fun a h1 h2 => ?_
 simp [yo]
def qaT (xs : List Int) (i j : Nat) : List Int := (xs.set i (xs.getD j 0)).set j (xs.getD i 0)
theorem qcN (xs : List Int) (i j : Nat) : (qaT xs i j).length = xs.length := by simp [qaT]
def atN (k : List UInt8) (r n j : Nat) : Nat := j + xD (jy k ((r * 1024 + j : Nat) : Int)) % (n - j)
def X8 (k : List UInt8) (r n : Nat) : Nat -> List Int
 | 0 => yo n n
 | j + 1 => qaT (X8 k r n j) j (atN k r n j)
theorem Vt (k : List UInt8) (r n : Nat) : ∀ j, (X8 k r n j).length = n
 | 0 => JB n n
 | j + 1 => (qcN ..).trans (Vt k r n j)
def KW (k : List UInt8) (r n c : Nat) : List Int := (X8 k r n c).take c
theorem qgT (k : List UInt8) (i : Int) : xD (jy k i) < 18446744073709551616 := by
 have l : (jy k i).length = 8 := yf _ _
 have := Jz 8 (jy k i) Y54
 rwa [List.take_of_length_le Y54] at this
theorem qck (Z : Ad) (h : Hh) (hh : ∀ α g, h α g = g ()) (k : List UInt8) (r n c : Nat) (hk : k.length <= 100000000) (hr : r <= 1073741824) (hn : n <= 1024) (hc : c <= n) :
  qi Z 38 [.pv (bH h k), .pv (nH h r), .pv (nH h n), .pv (nH h c)] (.tup [.pv (lH h iP (KW k r n c)), .pv (.v .nilIface)]) [.any, .any, .any, .any] := by
 have c1 := vf Z h hh k hk
 have hf := JB n
 have hw := Vt k r n
 unfold KW
 refine qB Z h hh ⟨Tryz.func38, Tryz.ntmps38⟩ rfl rfl rfl rfl rfl fun C hC => ?_
 unfold Tryz.f38
 cbv
 repeat' first
  | exact s0
  | apply And.intro
  | exact sq
  | trivial
  | exact sx
  | (refine sy fun e => ?_; cbv)
  | (refine ⟨_, _, _, hC _ _ _ _ c1, ?_⟩; cbv; clear c1)
 refine ⟨Nat, fun i => ⟨[(0, some (.pv (bH h k))), (1, some (.pv (nH h r))), (2, some (.pv (nH h n))), (3, some (.pv (nH h c))), (10, some (.ref 991 0 0)), (11, some (.own 990)), (45, some (.pv (nH h n))), (46, some (.pv (nH h i)))],
   [(990, some (.row 3 1 (h _ fun _ => (yo n i).map iP) false)), (991, some (.box 190 [.pv (.p (h _ fun _ => vC k))] false))]⟩,
  fun i => i <= n, fun i => n - i, 0, [], Nat.zero_le _, trivial, ⟨[(990, 43), (991, 10)], rfl, rfl, ⟨?_, rfl, trivial⟩, rfl, rfl, rfl, rfl, rfl, rfl, ?_, ?_, trivial⟩, ?_⟩
 ·cbv; simp [hh, LJ, uh, jn]
 ·cbv; simp [hh, JB]
 ·cbv; simp [hh]
 ·intro i hi
  cbv
  refine ⟨fun _ => rfl, fun e => ?_, fun e => ?_⟩ <;> simp only [hh, nI, decide_eq_true_eq, decide_eq_false_iff_not] at e
  ·have e' : i < n := jI e
   cbv
   repeat' first
    | exact s0
    | apply And.intro
    | exact sq
    | trivial
    | exact sx
    | (refine sy fun e => ?_; cbv)
   refine ⟨i + 1, e', by show n - (i + 1) < n - i; omega, [], rfl, rfl, ⟨?_, rfl, trivial⟩, rfl, rfl, rfl, rfl, rfl, rfl, rfl, ?_, trivial⟩
   ·cbv; simp only [hh]; rw [<- qcA]; simp [List.map_set]
   ·cbv
    simp [hh]
    rw [wrap_i64 Y54 Y54]
  ·have e' : i = n := Nat.le_antisymm hi (jN e)
   subst e'
   cbv
   repeat' first
    | exact s0
    | apply And.intro
    | exact sq
    | trivial
    | exact sx
    | (refine sy fun e => ?_; cbv)
   refine ⟨Nat, fun j => ⟨[(0, some (.pv (bH h k))), (1, some (.pv (nH h r))), (2, some (.pv (nH h i))), (3, some (.pv (nH h c))), (10, some (.ref 991 0 0)), (11, some (.own 990)), (54, some (.pv (nH h c))), (55, some (.pv (nH h j)))],
     [(990, some (.row 3 1 (h _ fun _ => (X8 k r i j).map iP) false)), (991, some (.box 190 [.pv (.p (h _ fun _ => vC k))] false))]⟩,
    fun j => j <= c, fun j => c - j, 0, [], Nat.zero_le _, trivial, ⟨[(990, 990), (991, 991)], rfl, rfl, ⟨rfl, rfl, trivial⟩, rfl, rfl, rfl, rfl, rfl, rfl, rfl, ?_, trivial⟩, ?_⟩
   ·cbv; simp [hh]
   ·intro j hj
    cbv
    refine ⟨fun _ => rfl, fun e => ?_, fun e => ?_⟩ <;> simp only [hh, nI, decide_eq_true_eq, decide_eq_false_iff_not] at e
    ·have e' : j < c := jI e
     have c2 := Wp Z h hh k ((r * 1024 + j : Nat) : Int)
     have hq := qgT k ((r * 1024 + j : Nat) : Int)
     obtain ⟨q, hq'⟩ : ∃ q, xD (jy k ((r * 1024 + j : Nat) : Int)) = q := ⟨_, rfl⟩
     have hat : atN k r i j = j + q % (i - j) := by rw [atN, hq']
     rw [hq'] at hq c2
     clear hq'
     obtain ⟨g, hg⟩ := exq (r * 1024 + j)
     rw [hg] at c2
     obtain ⟨m, hm⟩ := exq (i - j)
     have hji : j < i := by omega
     have hm0 : m ≠ 0 := by omega
     rw [hm] at hat
     have hqm : q % m < m := Nat.mod_lt _ Y54
     have hw1 : IntKind.i64.wrap (IntKind.i64.wrap ((r : Int) * 1024) + j) = (g : Int) := by
      rw [wrap_i64 (x := (r : Int) * 1024) Y54 Y54, wrap_i64 Y54 Y54]; omega
     have hw2 : IntKind.u64.wrap (IntKind.i64.wrap ((i : Int) - j)) = (m : Int) := by
      rw [wrap_i64 Y54 Y54, xa Y54 Y54]; omega
     have hw3 : IntKind.i64.wrap ((j : Int) + IntKind.i64.wrap ((q : Int).tmod m)) = (j + q % m : Nat) := by
      rw [<- Int.ofNat_tmod, wrap_i64 (x := ((q % m : Nat) : Int)) Y54 Y54, wrap_i64 Y54 Y54]; omega
     rw [<- hat] at hw3
     have ha : atN k r i j < i := by omega
     replace hqm := Hdq hqm
     replace hat := Hdq hat
     replace hm := Hdq hm
     replace hg := Hdq hg
     cbv
     repeat' first
      | exact s0
      | apply And.intro
      | exact sq
      | trivial
      | exact sx
      | (refine sy fun e => ?_; cbv)
      | (refine ⟨_, _, _, hC _ _ _ _ c2, ?_⟩; cbv; clear c2)
     refine ⟨j + 1, e', by show c - (j + 1) < c - j; omega, [], rfl, rfl, ⟨?_, rfl, trivial⟩, rfl, rfl, rfl, rfl, rfl, rfl, rfl, ?_, trivial⟩
     ·cbv
      simp only [hh, nI, hw2, hw3, Int.toNat_natCast, X8, qaT]
      simp [List.map_set, hw, hji, ha]
     ·cbv
      simp [hh]
      rw [wrap_i64 Y54 Y54]
    ·have e' : j = c := Nat.le_antisymm hj (jN e)
     subst e'
     cbv
     repeat' first
      | exact s0
      | apply And.intro
      | exact sq
      | trivial
      | exact sx
      | (refine sy fun e => ?_; cbv)
theorem qaq (Z : Ad) (h : Hh) (hh : ∀ α g, h α g = g ()) (k : List UInt8) (r n c : Int) (hb : (decide (r < 0) || decide (1073741824 < r) || decide (n < 0) || decide (1024 < n) || decide (c < 0) || decide (n < c)) = true) :
  qi Z 38 [.pv (bH h k), .pv (iH h r), .pv (iH h n), .pv (iH h c)] (.tup [.nil, .pv (qP Z 1)]) [.any, .any, .any, .any] := by
 refine qB Z h hh ⟨Tryz.func38, Tryz.ntmps38⟩ rfl rfl rfl rfl rfl fun C hC => ?_
 unfold Tryz.f38
 cbv
 repeat' first
  | exact s0
  | apply And.intro
  | exact sq
  | trivial
  | (refine fun (e : (_ : Bool) = _) => ?_; first | (exfalso; simp [hh] at e; done) | (exfalso; simp [hh] at e; omega) | (exfalso; simp [hh] at *; omega) | (have ev := Ev.mk e; cbv))
 done
end Go.Bl
