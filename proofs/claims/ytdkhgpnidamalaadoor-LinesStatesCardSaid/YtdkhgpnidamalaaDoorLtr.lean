/-
  Layer 22: letters as they come in; the law's Long.
-/
import Derived.Test.YtdkhgpnidamalaaDoorRec
import Derived.Test.YtdkhgpnidamalaaDoorCol
import Derived.Test.YtdkhgpnidamalaaDoorLeh
namespace Go.Proofs.YtdkhgpnidamalaaDoor
open Go.RowKit Go.Bl
set_option linter.unusedVariables false
/-- a stored block that is shown -/
structure ShP where
  place : Int
  stored : List UInt8
  path : List (List UInt8)
structure ShV where
  p : ShP
  sv : Value
  pv : Value
def shC (x : ShV) : List Value := [.int .i64 x.p.place, x.sv, x.pv]
def digC (d : List UInt8) : List Value := d.map u8v
/-- what is shown can be read -/
def RdSh (A : Nat → Prop) (w : World) (v : Value) (l : List ShV) : Prop := RdK A 3 w v (l.map shC) ∧ ∀ x ∈ l, Bs A w x.sv x.p.stored ∧ RdK A 32 w x.pv (x.p.path.map digC)
theorem RdSh.keep0 {A : Nat → Prop} {w w' : World} {v : Value} {l : List ShV} (h : RdSh A w v l) (hf : Fr [] w w') : RdSh A w' v l :=
  ⟨h.1.keep0 hf, fun x hx => ⟨(h.2 x hx).1.keep hf (by simp), (h.2 x hx).2.keep0 hf⟩⟩
def longOk (PN SN BN : Nat) (l : List ShV) (bl : List (Value × List UInt8)) : Prop := PN ≤ 100 ∧ SN ≤ 30 ∧ BN ≤ 600 ∧ (∀ x ∈ l, x.p.stored.length ≤ 100 ∧ x.p.path.length ≤ 40) ∧ ∀ b ∈ bl, b.2.length ≤ 100
def longP (w : World) (PN SN BN : Nat) (l : List ShV) (bl : List (Value × List UInt8)) (e : Ending) (w' : World) : Prop := ∃ b, e = .returned (.bool b) ∧ (b = false → longOk PN SN BN l bl) ∧ Fr [] w w'
end Go.Proofs.YtdkhgpnidamalaaDoor
