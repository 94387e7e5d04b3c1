import Derived.Test.YtdloaifdpajcjaaGreatDoorPO
set_option linter.unusedVariables false
set_option linter.unusedSimpArgs false
namespace Go.Bl
open Go.RowKit Go.Proofs
set_option maxRecDepth 100000
set_option maxHeartbeats 8000000
open Go.Proofs.YtdloaifdpajcjaaGreatDoor (Par chk blk qU jU qj)
def x6 : List PV := .l [] :: List.replicate 64 (u8P 0)
theorem qfi (Z : Ad) (h : Hh) (hh : ∀ α g, h α g = g ()) (m : List UInt8) (n : Int) (hk : qj m n ≠ 0) : qi Z 37 [.pv (bH h m), .pv (iH h n)] (.tup [.pv (.a [.l [], .l [], .l [], .l [], .l []]), .pv (qP Z (qj m n))]) [.any, .any] :=
 qdn Z h hh m n hk
theorem qhc (Z : Ad) (h : Hh) (hh : ∀ α g, h α g = g ()) (m : List UInt8) (n : Int) (p : Par) (hc : chk p = 0) (hk : qj m n ≠ 0) : qi Z 32 [.pv (bH h m), .pv (iH h n), .pv (uH h p)] (.tup [.pv (.v (.pointer none)), .pv (qP Z (qj m n))]) [.any, .any, .any] := by
 have hst := K8 Z h hh p hc
 have hab := qfi Z h hh m n hk
 obtain ⟨k, hke⟩ := exq (qj m n)
 rw [hke] at hab ⊢
 clear hke hc hk
 refine qB Z h hh ⟨Tryz.func32, Tryz.ntmps32⟩ rfl rfl rfl rfl rfl fun C hC => ?_
 unfold Tryz.f32
 cbv
 repeat' first
  | exact s0
  | apply And.intro
  | exact sq
  | trivial
  | (refine fun (e : (_ : Bool) = _) => ?_; first | (exfalso; simp [hh] at e; done) | (replace e := Ev.mk e; cbv))
 refine ⟨_, _, _, hC _ _ _ _ hst, ?_⟩
 clear hst
 cbv
 repeat' first
  | exact s0
  | apply And.intro
  | exact sq
  | trivial
  | (refine fun (e : (_ : Bool) = _) => ?_; first | (exfalso; simp [hh] at e; done) | (replace e := Ev.mk e; cbv))
 refine ⟨_, _, _, hC _ _ _ _ hab, ?_⟩
 clear hab
 cbv
 repeat' first
  | exact s0
  | apply And.intro
  | exact sq
  | trivial
  | (refine fun (e : (_ : Bool) = _) => ?_; first | (exfalso; simp [hh] at e; done) | (replace e := Ev.mk e; cbv))
theorem qeE (Z : Ad) (h : Hh) (hh : ∀ α g, h α g = g ()) (m xs : List UInt8) (n : Int) (p : Par) (x : List PV) (hb : qi Z 31 [.pv (uH h p)] (.pv (.i 171 (.p (h _ fun _ => x)))) [.any]) :
  qi Z 7 [.pv (bH h m), .pv (iH h n), .pv (bH h xs), .pv (uH h p)] (.tup [.pv (.a (h _ fun _ => x6)), .pv (.i 171 (.p (h _ fun _ => x)))]) [.any, .any, .any, .any] := by
 refine qB Z h hh ⟨Tryz.func7, Tryz.ntmps7⟩ rfl rfl rfl rfl rfl fun C hC => ?_
 unfold Tryz.f7
 cbv
 repeat' first
  | exact s0
  | apply And.intro
  | exact sq
  | trivial
  | (refine fun (e : (_ : Bool) = _) => ?_; first | (exfalso; simp [hh] at e; done) | (replace e := Ev.mk e; cbv))
 refine ⟨_, _, _, hC _ _ _ _ hb, ?_⟩
 cbv
 clear hb
 repeat' first
  | exact s0
  | apply And.intro
  | exact sq
  | (refine fun (_ : PUnit) => ?_; simp [hh, *, jn, x6, List.replicate]; done)
  | trivial
  | (refine fun (e : (_ : Bool) = _) => ?_; first | (exfalso; simp [hh] at e; done) | (replace e := Ev.mk e; cbv))
theorem qcO (Z : Ad) (h : Hh) (hh : ∀ α g, h α g = g ()) (m xs : List UInt8) (n : Int) (p : Par) (hb : qi Z 31 [.pv (uH h p)] (.pv (.v .nilIface)) [.any]) (hs : (xs.length : Int) ≠ p.size) :
  qi Z 7 [.pv (bH h m), .pv (iH h n), .pv (bH h xs), .pv (uH h p)] (.tup [.pv (.a (h _ fun _ => x6)), .pv (qP Z 8)]) [.any, .any, .any, .any] := by
 refine qB Z h hh ⟨Tryz.func7, Tryz.ntmps7⟩ rfl rfl rfl rfl rfl fun C hC => ?_
 unfold Tryz.f7
 cbv
 repeat' first
  | exact s0
  | apply And.intro
  | exact sq
  | trivial
  | (refine fun (e : (_ : Bool) = _) => ?_; first | (exfalso; simp [hh] at e; done) | (replace e := Ev.mk e; cbv))
 refine ⟨_, _, _, hC _ _ _ _ hb, ?_⟩
 cbv
 clear hb
 repeat' first
  | exact s0
  | apply And.intro
  | exact sq
  | (refine fun (_ : PUnit) => ?_; simp [hh, *, jn, x6, List.replicate]; done)
  | trivial
  | (refine fun (e : (_ : Bool) = _) => ?_; first | (exfalso; simp [hh, hs] at e; done) | (replace e := Ev.mk e; cbv))
theorem qeU (Z : Ad) (h : Hh) (hh : ∀ α g, h α g = g ()) (m xs : List UInt8) (n : Int) (p : Par) (hb : qi Z 31 [.pv (uH h p)] (.pv (.v .nilIface)) [.any]) (hc : chk p = 0) (hs : (xs.length : Int) = p.size) (hk : qj m n ≠ 0) :
  qi Z 7 [.pv (bH h m), .pv (iH h n), .pv (bH h xs), .pv (uH h p)] (.tup [.pv (.a (h _ fun _ => x6)), .pv (qP Z (qj m n))]) [.any, .any, .any, .any] := by
 have ho := qhc Z h hh m n p hc hk
 obtain ⟨k, hke⟩ := exq (qj m n)
 rw [hke] at ho ⊢
 clear hke hc hk
 have ns : ¬ (xs.length : Int) ≠ p.size := fun q => q hs
 have HS := Hdq hs
 clear hs
 refine qB Z h hh ⟨Tryz.func7, Tryz.ntmps7⟩ rfl rfl rfl rfl rfl fun C hC => ?_
 unfold Tryz.f7
 cbv
 repeat' first
  | exact s0
  | apply And.intro
  | exact sq
  | trivial
  | (refine fun (e : (_ : Bool) = _) => ?_; first | (exfalso; simp [hh] at e; done) | (replace e := Ev.mk e; cbv))
 refine ⟨_, _, _, hC _ _ _ _ hb, ?_⟩
 cbv
 clear hb
 repeat' first
  | exact s0
  | apply And.intro
  | exact sq
  | trivial
  | (refine fun (e : (_ : Bool) = _) => ?_; first | (exfalso; simp [hh, HS.out] at e; done) | (replace e := Ev.mk e; cbv))
 refine ⟨_, _, _, hC _ _ _ _ ho, ?_⟩
 cbv
 clear ho
 repeat' first
  | exact s0
  | apply And.intro
  | exact sq
  | (refine fun (_ : PUnit) => ?_; simp [hh, *, jn, x6, List.replicate]; done)
  | trivial
  | (refine fun (e : (_ : Bool) = _) => ?_; first | (exfalso; simp [hh, HS.out] at e; done) | (replace e := Ev.mk e; cbv))
end Go.Bl
