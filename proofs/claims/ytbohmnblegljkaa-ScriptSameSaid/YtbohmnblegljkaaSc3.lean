/-
  Layer 31: the guarded tests of the document's Same. (printed by gencase.py)
-/
import Derived.Test.YtbohmnblegljkaaSct
namespace Go.Proofs.Ytbohmnblegljkaa
open Go.RowKit Go.Bl
set_option linter.unusedVariables false

set_option maxRecDepth 1000000 in
set_option maxHeartbeats 8000000 in
theorem tests_6 (A : Nat → Prop) (w : World) (g0 g1 : Nat) (zo0 zo1 : Option Addr) (zn0 zc0 zn1 zc1 : Nat) (x y : ActP) (c0 c1 c2 c3 c4 c5 c8 c9 c10 c11 c12 c13 c14 c15 c16 c17 c18 c19 c20 c21 c22 c23 c24 c25 c103 u26 u27 u28 u29 u30 u31 u32 u33 u34 u35 u36 u37 u38 u39 u40 u41 u42 u43 u44 u45 u46 u47 u48 u49 u50 u51 u52 u53 u54 u55 u56 u57 u58 u59 u60 u61 u62 u63 u64 u65 u66 u67 u68 u69 u70 u71 u72 u73 u74 u75 u76 u77 u78 u79 u80 u81 u82 u83 u84 u85 u86 u87 u88 u89 u90 u91 u92 u93 u94 u95 u96 u97 u98 u99 u100 u101 u102 : Value) (Q : Exit → Go.Act → World → Prop)
    (hb0 : Bs A w (.slice zo0 zn0 zc0) x.bytes) (hb1 : Bs A w (.slice zo1 zn1 zc1) y.bytes) (hd : ¬ (x.p0 = y.p0 ∧ x.p1 = y.p1 ∧ x.p2 = y.p2 ∧ x.p3 = y.p3 ∧ x.p4 = y.p4 ∧ x.p5 = y.p5))
    (p0 : w.cell? ⟨g0, 0, none⟩ = some (.int .i64 x.kind)) (p1 : w.cell? ⟨g0, 1, none⟩ = some (.int .i64 x.n)) (p2 : w.cell? ⟨g0, 2, none⟩ = some (.int .i64 x.i)) (p3 : w.cell? ⟨g0, 3, none⟩ = some (.int .i64 x.at_)) (p4 : w.cell? ⟨g0, 4, none⟩ = some (.int .i64 x.by_)) (p5 : w.cell? ⟨g0, 5, none⟩ = some (.string x.name)) (p6 : w.cell? ⟨g0, 6, none⟩ = some (.slice zo0 zn0 zc0)) (p7 : w.cell? ⟨g0, 7, none⟩ = some (.int .i64 x.p0)) (p8 : w.cell? ⟨g0, 8, none⟩ = some (.int .i64 x.p1)) (p9 : w.cell? ⟨g0, 9, none⟩ = some (.int .i64 x.p2)) (p10 : w.cell? ⟨g0, 10, none⟩ = some (.int .i64 x.p3)) (p11 : w.cell? ⟨g0, 11, none⟩ = some (.int .i64 x.p4)) (p12 : w.cell? ⟨g0, 12, none⟩ = some (.int .i64 x.p5)) (p13 : w.cell? ⟨g0, 13, none⟩ = some (.int .i64 x.kept)) (p14 : w.cell? ⟨g0, 14, none⟩ = some (.int .i64 x.torn)) (p15 : w.cell? ⟨g0, 15, none⟩ = some (.int .u64 x.scat))
    (r0 : w.cell? ⟨g1, 0, none⟩ = some (.int .i64 x.kind)) (r1 : w.cell? ⟨g1, 1, none⟩ = some (.int .i64 x.n)) (r2 : w.cell? ⟨g1, 2, none⟩ = some (.int .i64 x.i)) (r3 : w.cell? ⟨g1, 3, none⟩ = some (.int .i64 x.at_)) (r4 : w.cell? ⟨g1, 4, none⟩ = some (.int .i64 x.by_)) (r5 : w.cell? ⟨g1, 5, none⟩ = some (.string x.name)) (r6 : w.cell? ⟨g1, 6, none⟩ = some (.slice zo1 zn1 zc1)) (r7 : w.cell? ⟨g1, 7, none⟩ = some (.int .i64 y.p0)) (r8 : w.cell? ⟨g1, 8, none⟩ = some (.int .i64 y.p1)) (r9 : w.cell? ⟨g1, 9, none⟩ = some (.int .i64 y.p2)) (r10 : w.cell? ⟨g1, 10, none⟩ = some (.int .i64 y.p3)) (r11 : w.cell? ⟨g1, 11, none⟩ = some (.int .i64 y.p4)) (r12 : w.cell? ⟨g1, 12, none⟩ = some (.int .i64 y.p5)) (r13 : w.cell? ⟨g1, 13, none⟩ = some (.int .i64 y.kept)) (r14 : w.cell? ⟨g1, 14, none⟩ = some (.int .i64 y.torn)) (r15 : w.cell? ⟨g1, 15, none⟩ = some (.int .u64 y.scat))
    (hQ : ∀ (u26 u27 u28 u29 u30 u31 u32 u33 u34 u35 u36 u37 u38 u39 u40 u41 u42 u43 u44 u45 u46 u47 u48 u49 u50 u51 u52 u53 u54 u55 u56 u57 u58 u59 u60 u61 u62 u63 u64 u65 u66 u67 u68 u69 u70 u71 u72 u73 u74 u75 u76 u77 u78 u79 u80 u81 u82 u83 u84 u85 u86 u87 u88 u89 u90 u91 u92 u93 u94 u95 u96 u97 u98 u99 u100 u101 : Value), Q .normal ⟨(c0 :: c1 :: c2 :: c3 :: c4 :: c5 :: .pointer (some ⟨g0, 0, none⟩) :: .pointer (some ⟨g1, 0, none⟩) :: c8 :: c9 :: c10 :: c11 :: c12 :: c13 :: c14 :: c15 :: c16 :: c17 :: c18 :: c19 :: c20 :: c21 :: c22 :: c23 :: c24 :: c25 :: u26 :: u27 :: u28 :: u29 :: u30 :: u31 :: u32 :: u33 :: u34 :: u35 :: u36 :: u37 :: u38 :: u39 :: u40 :: u41 :: u42 :: u43 :: u44 :: u45 :: u46 :: u47 :: u48 :: u49 :: u50 :: u51 :: u52 :: u53 :: u54 :: u55 :: u56 :: u57 :: u58 :: u59 :: u60 :: u61 :: u62 :: u63 :: u64 :: u65 :: u66 :: u67 :: u68 :: u69 :: u70 :: u71 :: u72 :: u73 :: u74 :: u75 :: u76 :: u77 :: u78 :: u79 :: u80 :: u81 :: u82 :: u83 :: u84 :: u85 :: u86 :: u87 :: u88 :: u89 :: u90 :: u91 :: u92 :: u93 :: u94 :: u95 :: u96 :: u97 :: u98 :: u99 :: u100 :: u101 :: .bool true :: c103 :: []).toArray, []⟩ w) :
    Code.wp Try.prog sameTests Q ⟨(c0 :: c1 :: c2 :: c3 :: c4 :: c5 :: .pointer (some ⟨g0, 0, none⟩) :: .pointer (some ⟨g1, 0, none⟩) :: c8 :: c9 :: c10 :: c11 :: c12 :: c13 :: c14 :: c15 :: c16 :: c17 :: c18 :: c19 :: c20 :: c21 :: c22 :: c23 :: c24 :: c25 :: u26 :: u27 :: u28 :: u29 :: u30 :: u31 :: u32 :: u33 :: u34 :: u35 :: u36 :: u37 :: u38 :: u39 :: u40 :: u41 :: u42 :: u43 :: u44 :: u45 :: u46 :: u47 :: u48 :: u49 :: u50 :: u51 :: u52 :: u53 :: u54 :: u55 :: u56 :: u57 :: u58 :: u59 :: u60 :: u61 :: u62 :: u63 :: u64 :: u65 :: u66 :: u67 :: u68 :: u69 :: u70 :: u71 :: u72 :: u73 :: u74 :: u75 :: u76 :: u77 :: u78 :: u79 :: u80 :: u81 :: u82 :: u83 :: u84 :: u85 :: u86 :: u87 :: u88 :: u89 :: u90 :: u91 :: u92 :: u93 :: u94 :: u95 :: u96 :: u97 :: u98 :: u99 :: u100 :: u101 :: u102 :: c103 :: []).toArray, []⟩ w := by
  have B0 := Lib.hid hb0
  have B1 := Lib.hid hb1
  have HQ := Lib.hid hQ
  clear hb0 hb1 hQ
  have q_par := fun w => eq_p42 x.p0 x.p1 x.p2 x.p3 x.p4 x.p5 y.p0 y.p1 y.p2 y.p3 y.p4 y.p5 w false (decide_eq_false hd).symm
  clear hd
  conv => arg 2; whnf
  simp only [List.append]
  go_wp2
  exact HQ.out _ _ _ _ _ _ _ _ _ _ _ _ _ _ _ _ _ _ _ _ _ _ _ _ _ _ _ _ _ _ _ _ _ _ _ _ _ _ _ _ _ _ _ _ _ _ _ _ _ _ _ _ _ _ _ _ _ _ _ _ _ _ _ _ _ _ _ _ _ _ _ _ _ _ _ _
end Go.Proofs.Ytbohmnblegljkaa
