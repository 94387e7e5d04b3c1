import Derived.Test.YtdloaifdpajcjaaGreatDoorPU
set_option linter.unusedVariables false
set_option linter.unusedSimpArgs false
namespace Go.Bl
open Go.RowKit Go.Proofs Go.ChangeShapes Go.WideShapes Go.ChangeAt
set_option maxRecDepth 100000
theorem qc1 (n : Nat) : ∀ (xs : List UInt8), (Sh.ar n .u).cs xs = xs.map u8P
 | [] => rfl
 | x :: xs => by
  have := qc1 n xs
  show u8P x :: (Sh.ar n .u).cs xs = _
  rw [this]; rfl
abbrev shI : Sh := .i .i64
abbrev qic : Sh := .pc shI (.pc shI (.pc shI (.pc shI (.pc shI (.pc shI .p0)))))
abbrev WJ : Sh := .ar 32 .u
abbrev shEntry : Sh := .pc shI (.pc shI (.pc shI (.pc shI (.pc shI (.pc shI (.pc shI .p0))))))
abbrev UU : Sh := .pc WJ (.pc shI (.pc shI (.pc (.l .u) (.pc (.l WJ) .p0))))
theorem qfW (x : WJ.Dat) : WJ.el x = aP x := congrArg PV.a (qc1 32 x)
def qaf (d : UU.Dat) : j8 := ⟨d.1, d.2.1, d.2.2.1, d.2.2.2.1, d.2.2.2.2.1⟩
theorem qbv (d : UU.Dat) : UU.el d = leafP (qaf d) := by
 obtain ⟨r, n, i, l, p, -⟩ := d
 show PV.a (WJ.cs r ++ [iP n, iP i, bP l, .l (List.map WJ.el p)]) = PV.a (List.map u8P r ++ [iP n, iP i, bP l, .l (List.map aP p)])
 rw [show WJ.cs r = List.map u8P r from qc1 32 r, show WJ.el = aP from funext qfW]
 rfl
theorem L7 {H : Type} {enc : TypeId × Value -> H} {W : World} {base : Nat} {v : Value} {d : DataW H} {p : List MemPlace} (hval : Value.okWide Tryz.prog W .any base 26 v) (h : DataW.Trod enc Tryz.prog W 0 (fun _ => true) true 26 v d p) :
  ∃ (m : List UInt8) (n : Int) (xs : List UInt8) (q : Go.Proofs.YtdloaifdpajcjaaGreatDoor.Par), qN (fun _ => False) W (.a [bP m, iP n, bP xs, iP q.size, iP q.sent, iP q.spots, iP q.per, iP q.pat, iP q.ret]) v := by
 obtain ⟨⟨m, n, f, ⟨p0, p1, p2, p3, p4, p5, u⟩, q⟩, ho, hr⟩ := ZB (P := Tryz.prog) (.l .u) (.pc shI (.pc (.l .u) (.pc qic .p0))) Tryz.underlying26 Y55 hval h
 exact ⟨m, n, f, ⟨p0, p1, p2, p3, p4, p5⟩, hr⟩
theorem WT {H : Type} {enc : TypeId × Value -> H} {W : World} {base : Nat} {v : Value} {d : DataW H} {p : List MemPlace} (hval : Value.okWide Tryz.prog W .any base 28 v) (h : DataW.Trod enc Tryz.prog W 0 (fun _ => true) true 28 v d p) :
  ∃ y : jc, qN (fun _ => False) W (.a [iP y.id, iP y.obj, iP y.way, iP y.idx, iP y.tick, iP y.verd, iP y.at']) v := by
 obtain ⟨⟨a0, a1, a2, a3, a4, a5, a6, q⟩, ho, hr⟩ := ZB (P := Tryz.prog) shI (.pc shI (.pc shI (.pc shI (.pc shI (.pc shI (.pc shI .p0)))))) Tryz.underlying28 Y55 hval h
 exact ⟨⟨a0, a1, a2, a3, a4, a5, a6⟩, hr⟩
theorem KO {H : Type} {enc : TypeId × Value -> H} {W : World} {base : Nat} {v : Value} {d : DataW H} {p : List MemPlace} (hval : Value.okWide Tryz.prog W .any base 29 v) (h : DataW.Trod enc Tryz.prog W 0 (fun _ => true) true 29 v d p) :
  ∃ sh : List j8, (∀ a ∈ sh, a.Ok) /\ qN (fun _ => False) W (.l (sh.map leafP)) v := by
 obtain ⟨xs, ⟨-, ho⟩, hr⟩ := qcw (P := Tryz.prog) UU Tryz.underlying29 Y55 hval h
 refine ⟨List.map qaf xs, fun a ha => ?_, ?_⟩
 ·obtain ⟨d, hd, rfl⟩ := List.mem_map.1 ha
  have h1 := ho d hd
  exact ⟨h1.1.1, fun p hp => (h1.2.2.2.2.1.2 p hp).1⟩
 ·rw [List.map_map, show leafP ∘ qaf = UU.el from (funext qbv).symm]
  exact hr
end Go.Bl
