import Derived.Test.YtdloaifdpajcjaaGreatDoorPJ
set_option maxRecDepth 1000000
set_option maxHeartbeats 8000000
set_option linter.unusedVariables false
set_option linter.unusedSimpArgs false
set_option maxRecDepth 1000000
set_option maxHeartbeats 8000000
namespace Go.Proofs.YtdloaifdpajcjaaGreatDoor
open Go.RowKit Go.Bl
end Go.Proofs.YtdloaifdpajcjaaGreatDoor
namespace Go.Bl
open Go.RowKit Go.Proofs Go.Proofs.YtdloaifdpajcjaaGreatDoor
abbrev uH (h : Hh) (p : Par) : PV := .a [iH h p.size, iH h p.sent, iH h p.spots, iH h p.per, iH h p.pat, iH h p.ret]
def qip (p : Par) : List Value := [.int .i64 p.size, .int .i64 p.sent, .int .i64 p.spots, .int .i64 p.per, .int .i64 p.pat, .int .i64 p.ret]
theorem qfs {A : Nat -> Prop} {w : World} {p : Par} {u : Value} (h : qN A w (.a [iP p.size, iP p.sent, iP p.spots, iP p.per, iP p.pat, iP p.ret]) u) : u = .agg #[.int .i64 p.size, .int .i64 p.sent, .int .i64 p.spots, .int .i64 p.per, .int .i64 p.pat, .int .i64 p.ret] :=
 qgJ (xs := qip p) h
theorem K8 (Z : Ad) (h : Hh) (hh : ∀ α g, h α g = g ()) (p : Par) (hc : chk p = 0) : qi Z 36 [.pv (uH h p)] (.tup [.pv (iH h (blk p.size + p.sent)), .pv (.v .nilIface)]) [.any] := by
 simp only [uH, iH, hh]
 refine Ji (xs := [.a [iP p.size, iP p.sent, iP p.spots, iP p.per, iP p.pat, iP p.ret]]) (.tuple #[.int .i64 (blk p.size + p.sent), .nilIface]) Tryz.func36 rfl rfl (fun A w => .tup (.cons (.pv (.v rfl)) (.cons (.pv (.v rfl)) .nil))) fun A w us hA he hr => ?_
 cases hr with
 | cons h1 h2 =>
  cases h2
  rw [qfs h1]
  refine (L8 Z.e _ w p (Wz he)).mono ?_
  rintro e w' ⟨n, ev, rfl, hev, h1, -, hf⟩
  rw [hc] at hev
  rw [hev.nil_iff, h1 hc]
  exact ⟨rfl, hf⟩
def Z6 (m xs : List UInt8) (n : Int) (p : Par) : List PV := .l ((zc m n xs p.sent.toNat).map bP) :: ((jA ((zc m n xs p.sent.toNat).map qy)).map u8P ++ (qz xs).map u8P)
end Go.Bl
namespace Go.Proofs.YtdloaifdpajcjaaGreatDoor
open Go.RowKit Go.Bl
theorem holds_row {m xs : List UInt8} {n : Int} {s : Nat} (hN : (qF xs).length + s <= 512) (hk : qj m n = 0) {i : Nat} (hi : i < (zc m n xs s).length) :
  ((zc m n xs s)[i]).length = 16 /\ qhU m n (i : Int) ((zc m n xs s)[i]) = true := by
 rw [sealL_len] at hi
 obtain ⟨b, h1, h2⟩ := seal_row m xs n s Y54 i hi
 have e : (zc m n xs s)[i]'(by rw [sealL_len]; exact hi) = jL (qg m jd n) (i : Int) b := by
  rw [List.getElem?_eq_getElem (by rw [sealL_len]; exact hi)] at h2
  exact Option.some.inj h2
 rw [e]
 have hl : (jL (qg m jd n) (i : Int) b).length = 16 := by rw [tgdL_len, h1]
 refine ⟨hl, decide_eq_true ⟨hk, hl, ⟨by omega, by omega⟩, ?_⟩⟩
 have e1 : (jL (qg m jd n) (i : Int) b).drop 8 = JN (qg m jd n) (beK 8 (i : Int) ++ b) := by
  rw [jL, List.drop_append, List.drop_eq_nil_of_le Y54, h1]
  rfl
 have e2 : (jL (qg m jd n) (i : Int) b).take 8 = b := by
  rw [jL, List.take_append_of_le_length Y54, List.take_of_length_le Y54]
 rw [e1, e2]
theorem holds_len {p : Par} {xs : List UInt8} (h : (xs.length : Int) = p.size) (hc : chk p = 0) : ((qF xs).length : Int) = blk p.size /\ 0 <= p.sent /\ p.sent <= 8 /\ (qF xs).length <= 314 /\ 1 <= (qF xs).length := by
 have ho := j7 hc
 obtain ⟨h1, h2⟩ := ho.2
 have h3 : 0 <= p.size /\ p.size <= 2000 := ho.1
 have hl : (qF xs).length = nB xs.length + 32 * (shN (nB xs.length)).length := by
  unfold qF
  rw [yY [] _ _ (by rw [Qd, VX]; exact Nat.le_refl _), Qd]
 have hs := XQ (nB xs.length)
 have hn : 1 <= nB xs.length /\ nB xs.length <= 250 := by unfold nB; omega
 exact ⟨bl_len h ho.1, h1, h2, by omega, by omega⟩
theorem pathL_32 : ∀ (n : Nat) (l : List Dg) (i : Nat), l.length = n -> (∀ d ∈ l, d.length = 32) -> ∀ d ∈ jF l i, d.length = 32
 | n, l, i, hl, h, d, hd => by
  by_cases h1 : n <= 1
  ·rw [y6 Y54] at hd; cases hd
  ·have hb := qO n Y54
   by_cases hi : i < qf n
   ·have hlt : (l.take (qf n)).length = qf n := by rw [List.length_take]; omega
    rw [xJ Y54 Y82, hl] at hd
    rcases List.mem_append.1 hd with hd | hd
    ·exact pathL_32 (qf n) _ i hlt (fun d hd => h d (List.mem_of_mem_take hd)) d hd
    ·obtain rfl := List.mem_singleton.1 hd
     exact overL_32 _ (fun d hd => h d (List.mem_of_mem_drop hd)) Y73
   ·have hlt : (l.drop (qf n)).length = n - qf n := by rw [List.length_drop]; omega
    rw [vH Y54 Y82, hl] at hd
    rcases List.mem_append.1 hd with hd | hd
    ·exact pathL_32 (n - qf n) _ _ hlt (fun d hd => h d (List.mem_of_mem_drop hd)) d hd
    ·obtain rfl := List.mem_singleton.1 hd
     exact overL_32 _ (fun d hd => h d (List.mem_of_mem_take hd)) Y84
termination_by n => n
decreasing_by
 ·omega
 ·omega
end Go.Proofs.YtdloaifdpajcjaaGreatDoor
