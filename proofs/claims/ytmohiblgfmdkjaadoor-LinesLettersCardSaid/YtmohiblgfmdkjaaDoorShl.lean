/-
  Contracts of the shelf, laid for this seat (written by the kit's tools lay-shelf and lay-plain; cut by shelfcut.py).
-/
import Derived.Shelf.Strconv.Itoa3
import Derived.Shelf.LaysM
import Derived.Shelf.Strings.OnBuilder
import Derived.Ground.Names2Prog
import Derived.Test.YtmohiblgfmdkjaaDoorProg
namespace Go.Proofs
open Go.Shelf
def Tryd.lays156_ren : Go.Shelf.Ren := ⟨fun | 156 => 59 | 165 => 73 | 166 => 74 | 169 => 75 | 240 => 94 | 241 => 95 | 276 => 121 | 277 => 122 | n => n, fun | 31 => 85 | 9 => 9 | 3 => 3 | 4 => 4 | 0 => 0 | 20 => 20 | 72 => 161 | 76 => 91 | 70 => 159 | 37 => 22 | 75 => 27 | 127 => 184 | 164 => 208 | 5 => 5 | 80 => 164 | n => n, fun | n => n⟩
theorem Tryd.lays156 : Go.Proofs.Lays.n156 Tryd.prog Tryd.lays156_ren := {
  mixed := by kernel_rfl
  f156 := Tryd.func59.trans (congrArg some (by kernel_rfl))
  f165 := Tryd.func73.trans (congrArg some (by kernel_rfl))
  f166 := Tryd.func74.trans (congrArg some (by kernel_rfl))
  f169 := Tryd.func75.trans (congrArg some (by kernel_rfl))
  f240 := Tryd.func94.trans (congrArg some (by kernel_rfl))
  f241 := Tryd.func95.trans (congrArg some (by kernel_rfl))
  f276 := Tryd.func121.trans (congrArg some (by kernel_rfl))
  f277 := Tryd.func122.trans (congrArg some (by kernel_rfl))
  t0 := Tryd.underlying0
  a0 := Tryd.isAgg0
  z0 := Tryd.sizeOf0
  v0 := Tryd.zeroValue0
  t3 := Tryd.underlying3
  a3 := Tryd.isAgg3
  z3 := Tryd.sizeOf3
  v3 := Tryd.zeroValue3
  t4 := Tryd.underlying4
  a4 := Tryd.isAgg4
  z4 := Tryd.sizeOf4
  v4 := Tryd.zeroValue4
  t9 := Tryd.underlying9
  a9 := Tryd.isAgg9
  z9 := Tryd.sizeOf9
  v9 := Tryd.zeroValue9
  t20 := Tryd.underlying20
  a20 := Tryd.isAgg20
  z20 := Tryd.sizeOf20
  v20 := Tryd.zeroValue20
  t31 := Tryd.underlying85
  a31 := Tryd.isAgg85
  z31 := Tryd.sizeOf85
  v31 := Tryd.zeroValue85
  t37 := Tryd.underlying22
  a37 := Tryd.isAgg22
  z37 := Tryd.sizeOf22
  v37 := Tryd.zeroValue22
  t70 := Tryd.underlying159
  a70 := Tryd.isAgg159
  z70 := Tryd.sizeOf159
  v70 := Tryd.zeroValue159
  t72 := Tryd.underlying161
  a72 := Tryd.isAgg161
  z72 := Tryd.sizeOf161
  v72 := Tryd.zeroValue161
  t75 := Tryd.underlying27
  a75 := Tryd.isAgg27
  z75 := Tryd.sizeOf27
  v75 := Tryd.zeroValue27
  t76 := Tryd.underlying91
  a76 := Tryd.isAgg91
  z76 := Tryd.sizeOf91
  v76 := Tryd.zeroValue91
  t127 := Tryd.underlying184
  a127 := Tryd.isAgg184
  z127 := Tryd.sizeOf184
  v127 := Tryd.zeroValue184
  t164 := Tryd.underlying208
  a164 := Tryd.isAgg208
  z164 := Tryd.sizeOf208
  v164 := Tryd.zeroValue208 }
theorem Tryd.Builder_Extra_156 : Builder.Extra Tryd.prog Tryd.lays156_ren := {
  sizeBuilder := by kernel_rfl
  liesBuilder := by kernel_rfl
  t5 := Tryd.underlying5
  a5 := Tryd.isAgg5
  z5 := Tryd.sizeOf5
  v5 := Tryd.zeroValue5
  infoByte := by kernel_rfl
  cellsByte := by kernel_rfl
  sizeByte := by kernel_rfl
  neB5 := by decide }
open Go.RowKit in
theorem Tryd.strings_Join_none (a : Option Addr) (c : Nat) (sep : ByteArray) (w : World) :
    Calls Tryd.prog 59 #[.slice a 0 c, .string sep] w fun e w' => e = .returned (.string ⟨#[]⟩) ∧ w' = w := Any.strings_Join_none Tryd.lays156 Tryd.Builder_Extra_156 a c sep w
open Go.RowKit in
theorem Tryd.strings_Join (bk o c : Nat) (xs : List ByteArray) (sep : ByteArray) (w : World) (hcells : ∀ (j : Nat) x, xs[j]? = some x → w.cell? ⟨bk, o + j, none⟩ = some (.string x)) (hbk : bk < w.heap.size) (hN : xs.length ≤ 140737488355328) (hcap : xs.length ≤ c) (hlen : (Lib.join (xs.map (·.data.toList)) sep.data.toList).length ≤ 140737488355328) :
    Calls Tryd.prog 59 #[.slice (some ⟨bk, o, none⟩) xs.length c, .string sep] w fun e w' => e = .returned (.string ⟨(Lib.join (xs.map (·.data.toList)) sep.data.toList).toArray⟩) ∧ Below w.heap.size w w' := Any.strings_Join Tryd.lays156 Tryd.Builder_Extra_156 bk o c xs sep w hcells hbk hN hcap hlen
def Tryd.laysM171_ren : Go.Shelf.Ren := ⟨fun | 171 => 58 | 243 => 72 | 246 => 93 | 283 => 117 | 284 => 118 | 285 => 119 | 286 => 120 | 129 => 138 | 317 => 137 | 318 => 139 | 319 => 140 | 320 => 141 | 337 => 149 | 338 => 150 | n => n, fun | 3 => 3 | 9 => 9 | 2 => 2 | 4 => 4 | 171 => 203 | 0 => 0 | 53 => 43 | 37 => 22 | 5 => 5 | 173 => 206 | 212 => 224 | 51 => 225 | 20 => 20 | 213 => 226 | 46 => 107 | 232 => 64 | 233 => 251 | n => n, fun | 17 => 9 | 18 => 14 | 19 => 15 | n => n⟩
theorem Tryd.laysM171 : Go.Proofs.LaysM.n171 Tryd.prog Tryd.laysM171_ren := {
  mixed := by kernel_rfl
  f129 := Tryd.func138.trans (congrArg some (by kernel_rfl))
  f171 := Tryd.func58.trans (congrArg some (by kernel_rfl))
  f243 := Tryd.func72.trans (congrArg some (by kernel_rfl))
  f246 := Tryd.func93.trans (congrArg some (by kernel_rfl))
  f283 := Tryd.func117.trans (congrArg some (by kernel_rfl))
  f284 := Tryd.func118.trans (congrArg some (by kernel_rfl))
  f285 := Tryd.func119.trans (congrArg some (by kernel_rfl))
  f286 := Tryd.func120.trans (congrArg some (by kernel_rfl))
  f317 := Tryd.func137.trans (congrArg some (by kernel_rfl))
  f318 := Tryd.func139.trans (congrArg some (by kernel_rfl))
  f319 := Tryd.func140.trans (congrArg some (by kernel_rfl))
  f320 := Tryd.func141.trans (congrArg some (by kernel_rfl))
  f337 := Tryd.func149.trans (congrArg some (by kernel_rfl))
  f338 := Tryd.func150.trans (congrArg some (by kernel_rfl))
  t0 := Tryd.underlying0
  a0 := Tryd.isAgg0
  z0 := Tryd.sizeOf0
  v0 := Tryd.zeroValue0
  t2 := Tryd.underlying2
  a2 := Tryd.isAgg2
  z2 := Tryd.sizeOf2
  v2 := Tryd.zeroValue2
  t3 := Tryd.underlying3
  a3 := Tryd.isAgg3
  z3 := Tryd.sizeOf3
  v3 := Tryd.zeroValue3
  t4 := Tryd.underlying4
  a4 := Tryd.isAgg4
  z4 := Tryd.sizeOf4
  v4 := Tryd.zeroValue4
  t5 := Tryd.underlying5
  a5 := Tryd.isAgg5
  z5 := Tryd.sizeOf5
  v5 := Tryd.zeroValue5
  t9 := Tryd.underlying9
  a9 := Tryd.isAgg9
  z9 := Tryd.sizeOf9
  v9 := Tryd.zeroValue9
  t20 := Tryd.underlying20
  a20 := Tryd.isAgg20
  z20 := Tryd.sizeOf20
  v20 := Tryd.zeroValue20
  t37 := Tryd.underlying22
  a37 := Tryd.isAgg22
  z37 := Tryd.sizeOf22
  v37 := Tryd.zeroValue22
  t46 := Tryd.underlying107
  a46 := Tryd.isAgg107
  z46 := Tryd.sizeOf107
  v46 := Tryd.zeroValue107
  t51 := Tryd.underlying225
  a51 := Tryd.isAgg225
  z51 := Tryd.sizeOf225
  v51 := Tryd.zeroValue225
  t53 := Tryd.underlying43
  a53 := Tryd.isAgg43
  z53 := Tryd.sizeOf43
  v53 := Tryd.zeroValue43
  t171 := Tryd.underlying203
  a171 := Tryd.isAgg203
  z171 := Tryd.sizeOf203
  v171 := Tryd.zeroValue203
  t173 := Tryd.underlying206
  a173 := Tryd.isAgg206
  z173 := Tryd.sizeOf206
  v173 := Tryd.zeroValue206
  t212 := Tryd.underlying224
  a212 := Tryd.isAgg224
  z212 := Tryd.sizeOf224
  v212 := Tryd.zeroValue224
  t213 := Tryd.underlying226
  a213 := Tryd.isAgg226
  z213 := Tryd.sizeOf226
  t232 := Tryd.underlying64
  a232 := Tryd.isAgg64
  z232 := Tryd.sizeOf64
  v232 := Tryd.zeroValue64
  t233 := Tryd.underlying251
  a233 := Tryd.isAgg251
  z233 := Tryd.sizeOf251
  v233 := Tryd.zeroValue251
  g17 := by kernel_rfl
  g18 := by kernel_rfl
  g19 := by kernel_rfl
  i0 := by kernel_rfl
  i2 := by kernel_rfl
  i3 := by kernel_rfl
  i4 := by kernel_rfl
  i5 := by kernel_rfl
  i9 := by kernel_rfl
  i20 := by kernel_rfl
  i37 := by kernel_rfl
  i46 := by kernel_rfl
  i51 := by kernel_rfl
  i53 := by kernel_rfl
  i171 := by kernel_rfl
  i173 := by kernel_rfl
  i212 := by kernel_rfl
  i232 := by kernel_rfl
  i233 := by kernel_rfl
  m17 := by kernel_rfl
  m18 := by kernel_rfl
  m19 := by kernel_rfl }
open Go.RowKit Go.Sort Go.Lib in
theorem Tryd.strconv_Itoa (n : Int) (h0 : -9223372036854775808 ≤ n) (h1 : n ≤ 9223372036854775807) (w : World) (htab : Lib.TabIs Tryd.prog w "internal/strconv.uint64pow10" .u64 Lib.pow10Tab) :
    Calls Tryd.prog 58 #[.int .i64 n] w fun e w' => e = .returned (.string ⟨(Lib.itoa n).toArray⟩) ∧ ∃ k os, w' = grow (w.drewN k) os := Any.strconv_Itoa Tryd.laysM171 n h0 h1 w htab
end Go.Proofs
