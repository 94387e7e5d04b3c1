/-
  Layer 31: a round of the document's Decode, its body taken out of the program. (printed by genrdec.py)
-/
import Derived.Test.YtbohmnblegljkaaRDec3
import Derived.Test.YtbohmnblegljkaaRDec4
import Derived.Test.YtbohmnblegljkaaRDec5
import Derived.Test.YtbohmnblegljkaaRDec6
namespace Go.Proofs.Ytbohmnblegljkaa
open Go.RowKit Go.Bl
set_option linter.unusedVariables false

/-- what holds between rounds -/
def RelW (w0 : World) (rb : Nat) (v : Value) (xs : List UInt8) (s4 : Value) (w' : World) : Prop :=
  ∃ (l : List AV) (K : Nat), OwnA 44 (rb + 1) w' s4 l ∧ Cu (fun b => rb ≤ b) w' rb v xs K ∧ l.map (·.1) ++ acts (xs.drop K) = acts xs ∧ Fr [] w0 w'
theorem RelE.next {w0 : World} {rb : Nat} {v : Value} {xs ys : List UInt8} {l : List AV} {s4 : Value} {w' : World} (h : RelE w0 rb v xs ys l s4 w') (hn : ys ≠ []) (hl : l.map (·.1) ++ acts ys = acts xs) :
    RelW w0 rb v xs s4 w' ∧ lenV s4 = l.length + 1 := by
  obtain ⟨bv, h1, ⟨K, h2, h3⟩, h4⟩ := h
  refine ⟨⟨_, K, h1, h2, ?_, h4⟩, ?_⟩
  · rw [h3, ← hl, acts_cons ys hn]; simp
  · obtain ⟨oa, oc, rfl⟩ := ownA_shape h1
    simp [lenV]
theorem acts_len (ys : List UInt8) : (acts ys).length ≤ ys.length := by
  induction hl : ys.length using Nat.strongRecOn generalizing ys with
  | _ n ih =>
    by_cases h : ys = []
    · subst h; rw [acts_nil]; simp
    · rw [acts_cons ys h]
      have h0 : 0 < ys.length := List.length_pos_iff.2 h
      have hp := rdAct_pos ys
      have := ih (ys.drop (rdAct ys).2).length (by rw [List.length_drop]; omega) _ rfl
      rw [List.length_drop] at this
      simp only [List.length_cons]; omega
set_option maxRecDepth 1000000 in
def WI (w0 : World) (rb : Nat) (va : Option Addr) (vc : Nat) (xs : List UInt8) (c1 c2 c6 c7 c8 c9 c100 : Value) (a : Go.Act) (w' : World) : Prop :=
  ∃ s4 u5 u10 u11 u12 u13 u14 u15 u16 u17 u18 u19 u20 u21 u22 u23 u24 u25 u26 u27 u28 u29 u30 u31 u32 u33 u34 u35 u36 u37 u38 u39 u40 u41 u42 u43 u44 u45 u46 u47 u48 u49 u50 u51 u52 u53 u54 u55 u56 u57 u58 u59 u60 u61 u62 u63 u64 u65 u66 u67 u68 u69 u70 u71 u72 u73 u74 u75 u76 u77 u78 u79 u80 u81 u82 u83 u84 u85 u86 u87 u88 u89 u90 u91 u92 u93 u94 u95 u96 u97 u98 u99 : Value, RelW w0 rb (.slice va xs.length vc) xs s4 w' ∧ a = ⟨#[.slice va xs.length vc, c1, c2, .pointer (some ⟨rb, 0, none⟩), s4, u5, c6, c7, c8, c9, u10, u11, u12, u13, u14, u15, u16, u17, u18, u19, u20, u21, u22, u23, u24, u25, u26, u27, u28, u29, u30, u31, u32, u33, u34, u35, u36, u37, u38, u39, u40, u41, u42, u43, u44, u45, u46, u47, u48, u49, u50, u51, u52, u53, u54, u55, u56, u57, u58, u59, u60, u61, u62, u63, u64, u65, u66, u67, u68, u69, u70, u71, u72, u73, u74, u75, u76, u77, u78, u79, u80, u81, u82, u83, u84, u85, u86, u87, u88, u89, u90, u91, u92, u93, u94, u95, u96, u97, u98, u99, c100], []⟩
def Wmu (xs : List UInt8) (a : Go.Act) (_ : World) : Nat := (acts xs).length - lenV (a.tmps.getD 4 undef)

set_option maxRecDepth 1000000 in
set_option maxHeartbeats 8000000 in
theorem rdec_exit (rb : Nat) (wr : World) (va : Option Addr) (vc : Nat) (xs : List UInt8) (s4 c1 c2 c6 c7 c8 c9 c100 u5 u10 u11 u12 u13 u14 u15 u16 u17 u18 u19 u20 u21 u22 u23 u24 u25 u26 u27 u28 u29 u30 u31 u32 u33 u34 u35 u36 u37 u38 u39 u40 u41 u42 u43 u44 u45 u46 u47 u48 u49 u50 u51 u52 u53 u54 u55 u56 u57 u58 u59 u60 u61 u62 u63 u64 u65 u66 u67 u68 u69 u70 u71 u72 u73 u74 u75 u76 u77 u78 u79 u80 u81 u82 u83 u84 u85 u86 u87 u88 u89 u90 u91 u92 u93 u94 u95 u96 u97 u98 u99 : Value) (Q : Exit → Go.Act → World → Prop)
    (hc : Cu (fun b => rb ≤ b) wr rb (.slice va xs.length vc) xs xs.length) (hx : xs.length ≤ 1000000)
    (hQ : ∀ u5 u10 u11 u12 u13 u14 u15 u16 u17 u18 u19 u20 u21 u22 u23 u24 u25 u26 u27 u28 u29 u30 u31 u32 u33 u34 u35 u36 u37 u38 u39 u40 u41 u42 u43 u44 u45 u46 u47 u48 u49 u50 u51 u52 u53 u54 u55 u56 u57 u58 u59 u60 u61 u62 u63 u64 u65 u66 u67 u68 u69 u70 u71 u72 u73 u74 u75 u76 u77 u78 u79 u80 u81 u82 u83 u84 u85 u86 u87 u88 u89 u90 u91 u92 u93 u94 u95 u96 u97 u98 u99 : Value, Q (.exit 0) ⟨#[.slice va xs.length vc, c1, c2, .pointer (some ⟨rb, 0, none⟩), s4, u5, c6, c7, c8, c9, u10, u11, u12, u13, u14, u15, u16, u17, u18, u19, u20, u21, u22, u23, u24, u25, u26, u27, u28, u29, u30, u31, u32, u33, u34, u35, u36, u37, u38, u39, u40, u41, u42, u43, u44, u45, u46, u47, u48, u49, u50, u51, u52, u53, u54, u55, u56, u57, u58, u59, u60, u61, u62, u63, u64, u65, u66, u67, u68, u69, u70, u71, u72, u73, u74, u75, u76, u77, u78, u79, u80, u81, u82, u83, u84, u85, u86, u87, u88, u89, u90, u91, u92, u93, u94, u95, u96, u97, u98, u99, c100], []⟩ wr) :
    Code.wp Try.prog decBody Q ⟨#[.slice va xs.length vc, c1, c2, .pointer (some ⟨rb, 0, none⟩), s4, u5, c6, c7, c8, c9, u10, u11, u12, u13, u14, u15, u16, u17, u18, u19, u20, u21, u22, u23, u24, u25, u26, u27, u28, u29, u30, u31, u32, u33, u34, u35, u36, u37, u38, u39, u40, u41, u42, u43, u44, u45, u46, u47, u48, u49, u50, u51, u52, u53, u54, u55, u56, u57, u58, u59, u60, u61, u62, u63, u64, u65, u66, u67, u68, u69, u70, u71, u72, u73, u74, u75, u76, u77, u78, u79, u80, u81, u82, u83, u84, u85, u86, u87, u88, u89, u90, u91, u92, u93, u94, u95, u96, u97, u98, u99, c100], []⟩ wr := by
  have HC := Lib.hid hc
  have q1 := HC.out.2.1.cell 1
  have q0 := HC.out.2.1.cell 0
  simp only [List.getElem?_toArray, List.getElem?_cons_zero, List.getElem?_cons_succ] at q0 q1
  obtain ⟨N, hN⟩ : ∃ N, xs.length = N := ⟨_, rfl⟩
  rw [hN] at hx q0 q1 hQ ⊢
  clear hc hN HC
  conv => arg 2; whnf
  go_wp2_with fail
  exact hQ _ _ _ _ _ _ _ _ _ _ _ _ _ _ _ _ _ _ _ _ _ _ _ _ _ _ _ _ _ _ _ _ _ _ _ _ _ _ _ _ _ _ _ _ _ _ _ _ _ _ _ _ _ _ _ _ _ _ _ _ _ _ _ _ _ _ _ _ _ _ _ _ _ _ _ _ _ _ _ _ _ _ _ _ _ _ _ _ _ _ _

set_option maxRecDepth 1000000 in
set_option maxHeartbeats 8000000 in
theorem rdec_frame (rb : Nat) (wr : World) (va : Option Addr) (vc : Nat) (xs : List UInt8) (s4 c1 c2 c6 c7 c8 c9 c100 u5 u10 u11 u12 u13 u14 u15 u16 u17 u18 u19 u20 u21 u22 u23 u24 u25 u26 u27 u28 u29 u30 u31 u32 u33 u34 u35 u36 u37 u38 u39 u40 u41 u42 u43 u44 u45 u46 u47 u48 u49 u50 u51 u52 u53 u54 u55 u56 u57 u58 u59 u60 u61 u62 u63 u64 u65 u66 u67 u68 u69 u70 u71 u72 u73 u74 u75 u76 u77 u78 u79 u80 u81 u82 u83 u84 u85 u86 u87 u88 u89 u90 u91 u92 u93 u94 u95 u96 u97 u98 u99 : Value) (Q : Exit → Go.Act → World → Prop)
    (hx : xs.length ≤ 1000000) (hvc : vc ≤ 2 ^ 63 - 1) (w0 : World) (hw0 : w0.heap.size = rb)
    (hI : RelW w0 rb (.slice va xs.length vc) xs s4 wr)
    (hE : ∀ s4 u5 u10 u11 u12 u13 u14 u15 u16 u17 u18 u19 u20 u21 u22 u23 u24 u25 u26 u27 u28 u29 u30 u31 u32 u33 u34 u35 u36 u37 u38 u39 u40 u41 u42 u43 u44 u45 u46 u47 u48 u49 u50 u51 u52 u53 u54 u55 u56 u57 u58 u59 u60 u61 u62 u63 u64 u65 u66 u67 u68 u69 u70 u71 u72 u73 u74 u75 u76 u77 u78 u79 u80 u81 u82 u83 u84 u85 u86 u87 u88 u89 u90 u91 u92 u93 u94 u95 u96 u97 u98 u99 : Value, ∀ w', RelW w0 rb (.slice va xs.length vc) xs s4 w' → (∃ l, OwnA 44 (rb + 1) w' s4 l ∧ l.map (·.1) = acts xs ∧ Fr [] w0 w') → Q (.exit 0) ⟨#[.slice va xs.length vc, c1, c2, .pointer (some ⟨rb, 0, none⟩), s4, u5, c6, c7, c8, c9, u10, u11, u12, u13, u14, u15, u16, u17, u18, u19, u20, u21, u22, u23, u24, u25, u26, u27, u28, u29, u30, u31, u32, u33, u34, u35, u36, u37, u38, u39, u40, u41, u42, u43, u44, u45, u46, u47, u48, u49, u50, u51, u52, u53, u54, u55, u56, u57, u58, u59, u60, u61, u62, u63, u64, u65, u66, u67, u68, u69, u70, u71, u72, u73, u74, u75, u76, u77, u78, u79, u80, u81, u82, u83, u84, u85, u86, u87, u88, u89, u90, u91, u92, u93, u94, u95, u96, u97, u98, u99, c100], []⟩ w') :
    Code.wp Try.prog decBody (Exit.then (fun a' w' => WI w0 rb va vc xs c1 c2 c6 c7 c8 c9 c100 a' w' ∧ Wmu xs a' w' < Wmu xs ⟨#[.slice va xs.length vc, c1, c2, .pointer (some ⟨rb, 0, none⟩), s4, u5, c6, c7, c8, c9, u10, u11, u12, u13, u14, u15, u16, u17, u18, u19, u20, u21, u22, u23, u24, u25, u26, u27, u28, u29, u30, u31, u32, u33, u34, u35, u36, u37, u38, u39, u40, u41, u42, u43, u44, u45, u46, u47, u48, u49, u50, u51, u52, u53, u54, u55, u56, u57, u58, u59, u60, u61, u62, u63, u64, u65, u66, u67, u68, u69, u70, u71, u72, u73, u74, u75, u76, u77, u78, u79, u80, u81, u82, u83, u84, u85, u86, u87, u88, u89, u90, u91, u92, u93, u94, u95, u96, u97, u98, u99, c100], []⟩ wr) Q) ⟨#[.slice va xs.length vc, c1, c2, .pointer (some ⟨rb, 0, none⟩), s4, u5, c6, c7, c8, c9, u10, u11, u12, u13, u14, u15, u16, u17, u18, u19, u20, u21, u22, u23, u24, u25, u26, u27, u28, u29, u30, u31, u32, u33, u34, u35, u36, u37, u38, u39, u40, u41, u42, u43, u44, u45, u46, u47, u48, u49, u50, u51, u52, u53, u54, u55, u56, u57, u58, u59, u60, u61, u62, u63, u64, u65, u66, u67, u68, u69, u70, u71, u72, u73, u74, u75, u76, u77, u78, u79, u80, u81, u82, u83, u84, u85, u86, u87, u88, u89, u90, u91, u92, u93, u94, u95, u96, u97, u98, u99, c100], []⟩ wr := by
  obtain ⟨l, K, h1, h2, h3, h4⟩ := id hI
  have hKl : K ≤ xs.length := h2.2.2.2
  by_cases hK : K < xs.length
  · obtain ⟨ys, hy⟩ : ∃ ys, xs.drop K = ys := ⟨_, rfl⟩
    have hne : ys ≠ [] := by
      intro h0
      have := congrArg List.length hy
      rw [h0, List.length_drop] at this
      simp at this; omega
    rw [hy] at h3
    have hll : l.length + (acts ys).length = (acts xs).length := by rw [← h3]; simp
    have hlb := acts_len xs
    have hac : (acts ys).length = (acts (ys.drop (rdAct ys).2)).length + 1 := by rw [acts_cons ys hne]; simp
    have hln : l.length ≤ 1000000 := by omega
    have hs4 : lenV s4 = l.length := by
      obtain ⟨oa, oc, rfl⟩ := ownA_shape h1
      rfl
    have hQ : ∀ (xs4 xu5 xu10 xu11 xu12 xu13 xu14 xu15 xu16 xu17 xu18 xu19 xu20 xu21 xu22 xu23 xu24 xu25 xu26 xu27 xu28 xu29 xu30 xu31 xu32 xu33 xu34 xu35 xu36 xu37 xu38 xu39 xu40 xu41 xu42 xu43 xu44 xu45 xu46 xu47 xu48 xu49 xu50 xu51 xu52 xu53 xu54 xu55 xu56 xu57 xu58 xu59 xu60 xu61 xu62 xu63 xu64 xu65 xu66 xu67 xu68 xu69 xu70 xu71 xu72 xu73 xu74 xu75 xu76 xu77 xu78 xu79 xu80 xu81 xu82 xu83 xu84 xu85 xu86 xu87 xu88 xu89 xu90 xu91 xu92 xu93 xu94 xu95 xu96 xu97 xu98 xu99 : Value) (w' : World), RelE w0 rb (.slice va xs.length vc) xs ys l xs4 w' → (Exit.then (fun a' w' => WI w0 rb va vc xs c1 c2 c6 c7 c8 c9 c100 a' w' ∧ Wmu xs a' w' < Wmu xs ⟨#[.slice va xs.length vc, c1, c2, .pointer (some ⟨rb, 0, none⟩), s4, u5, c6, c7, c8, c9, u10, u11, u12, u13, u14, u15, u16, u17, u18, u19, u20, u21, u22, u23, u24, u25, u26, u27, u28, u29, u30, u31, u32, u33, u34, u35, u36, u37, u38, u39, u40, u41, u42, u43, u44, u45, u46, u47, u48, u49, u50, u51, u52, u53, u54, u55, u56, u57, u58, u59, u60, u61, u62, u63, u64, u65, u66, u67, u68, u69, u70, u71, u72, u73, u74, u75, u76, u77, u78, u79, u80, u81, u82, u83, u84, u85, u86, u87, u88, u89, u90, u91, u92, u93, u94, u95, u96, u97, u98, u99, c100], []⟩ wr) Q) .normal ⟨#[.slice va xs.length vc, c1, c2, .pointer (some ⟨rb, 0, none⟩), xs4, xu5, c6, c7, c8, c9, xu10, xu11, xu12, xu13, xu14, xu15, xu16, xu17, xu18, xu19, xu20, xu21, xu22, xu23, xu24, xu25, xu26, xu27, xu28, xu29, xu30, xu31, xu32, xu33, xu34, xu35, xu36, xu37, xu38, xu39, xu40, xu41, xu42, xu43, xu44, xu45, xu46, xu47, xu48, xu49, xu50, xu51, xu52, xu53, xu54, xu55, xu56, xu57, xu58, xu59, xu60, xu61, xu62, xu63, xu64, xu65, xu66, xu67, xu68, xu69, xu70, xu71, xu72, xu73, xu74, xu75, xu76, xu77, xu78, xu79, xu80, xu81, xu82, xu83, xu84, xu85, xu86, xu87, xu88, xu89, xu90, xu91, xu92, xu93, xu94, xu95, xu96, xu97, xu98, xu99, c100], []⟩ w' := by
      intro xs4 xu5 xu10 xu11 xu12 xu13 xu14 xu15 xu16 xu17 xu18 xu19 xu20 xu21 xu22 xu23 xu24 xu25 xu26 xu27 xu28 xu29 xu30 xu31 xu32 xu33 xu34 xu35 xu36 xu37 xu38 xu39 xu40 xu41 xu42 xu43 xu44 xu45 xu46 xu47 xu48 xu49 xu50 xu51 xu52 xu53 xu54 xu55 xu56 xu57 xu58 xu59 xu60 xu61 xu62 xu63 xu64 xu65 xu66 xu67 xu68 xu69 xu70 xu71 xu72 xu73 xu74 xu75 xu76 xu77 xu78 xu79 xu80 xu81 xu82 xu83 xu84 xu85 xu86 xu87 xu88 xu89 xu90 xu91 xu92 xu93 xu94 xu95 xu96 xu97 xu98 xu99 w' hr
      obtain ⟨hr1, hr2⟩ := hr.next hne h3
      exact ⟨⟨_, _, _, _, _, _, _, _, _, _, _, _, _, _, _, _, _, _, _, _, _, _, _, _, _, _, _, _, _, _, _, _, _, _, _, _, _, _, _, _, _, _, _, _, _, _, _, _, _, _, _, _, _, _, _, _, _, _, _, _, _, _, _, _, _, _, _, _, _, _, _, _, _, _, _, _, _, _, _, _, _, _, _, _, _, _, _, _, _, _, _, _, hr1, rfl⟩, show (acts xs).length - lenV xs4 < (acts xs).length - lenV s4 by omega⟩
    by_cases k10 : nb 1 ys = 10
    · exact rdec_10 rb wr va vc xs ys K s4 c1 c2 c6 c7 c8 c9 c100 u5 u10 u11 u12 u13 u14 u15 u16 u17 u18 u19 u20 u21 u22 u23 u24 u25 u26 u27 u28 u29 u30 u31 u32 u33 u34 u35 u36 u37 u38 u39 u40 u41 u42 u43 u44 u45 u46 u47 u48 u49 u50 u51 u52 u53 u54 u55 u56 u57 u58 u59 u60 u61 u62 u63 u64 u65 u66 u67 u68 u69 u70 u71 u72 u73 u74 u75 u76 u77 u78 u79 u80 u81 u82 u83 u84 u85 u86 u87 u88 u89 u90 u91 u92 u93 u94 u95 u96 u97 u98 u99 _ hK hy h2 hx hvc w0 hw0 h4 l h1 hln k10 hQ
    by_cases k1 : nb 1 ys = 1
    · exact rdec_1 rb wr va vc xs ys K s4 c1 c2 c6 c7 c8 c9 c100 u5 u10 u11 u12 u13 u14 u15 u16 u17 u18 u19 u20 u21 u22 u23 u24 u25 u26 u27 u28 u29 u30 u31 u32 u33 u34 u35 u36 u37 u38 u39 u40 u41 u42 u43 u44 u45 u46 u47 u48 u49 u50 u51 u52 u53 u54 u55 u56 u57 u58 u59 u60 u61 u62 u63 u64 u65 u66 u67 u68 u69 u70 u71 u72 u73 u74 u75 u76 u77 u78 u79 u80 u81 u82 u83 u84 u85 u86 u87 u88 u89 u90 u91 u92 u93 u94 u95 u96 u97 u98 u99 _ hK hy h2 hx hvc w0 hw0 h4 l h1 hln k1 hQ
    by_cases k9 : nb 1 ys = 9
    · exact rdec_9 rb wr va vc xs ys K s4 c1 c2 c6 c7 c8 c9 c100 u5 u10 u11 u12 u13 u14 u15 u16 u17 u18 u19 u20 u21 u22 u23 u24 u25 u26 u27 u28 u29 u30 u31 u32 u33 u34 u35 u36 u37 u38 u39 u40 u41 u42 u43 u44 u45 u46 u47 u48 u49 u50 u51 u52 u53 u54 u55 u56 u57 u58 u59 u60 u61 u62 u63 u64 u65 u66 u67 u68 u69 u70 u71 u72 u73 u74 u75 u76 u77 u78 u79 u80 u81 u82 u83 u84 u85 u86 u87 u88 u89 u90 u91 u92 u93 u94 u95 u96 u97 u98 u99 _ hK hy h2 hx hvc w0 hw0 h4 l h1 hln k9 hQ
    by_cases k13 : nb 1 ys = 13
    · exact rdec_13 rb wr va vc xs ys K s4 c1 c2 c6 c7 c8 c9 c100 u5 u10 u11 u12 u13 u14 u15 u16 u17 u18 u19 u20 u21 u22 u23 u24 u25 u26 u27 u28 u29 u30 u31 u32 u33 u34 u35 u36 u37 u38 u39 u40 u41 u42 u43 u44 u45 u46 u47 u48 u49 u50 u51 u52 u53 u54 u55 u56 u57 u58 u59 u60 u61 u62 u63 u64 u65 u66 u67 u68 u69 u70 u71 u72 u73 u74 u75 u76 u77 u78 u79 u80 u81 u82 u83 u84 u85 u86 u87 u88 u89 u90 u91 u92 u93 u94 u95 u96 u97 u98 u99 _ hK hy h2 hx hvc w0 hw0 h4 l h1 hln k13 hQ
    · exact rdec_base rb wr va vc xs ys K s4 c1 c2 c6 c7 c8 c9 c100 u5 u10 u11 u12 u13 u14 u15 u16 u17 u18 u19 u20 u21 u22 u23 u24 u25 u26 u27 u28 u29 u30 u31 u32 u33 u34 u35 u36 u37 u38 u39 u40 u41 u42 u43 u44 u45 u46 u47 u48 u49 u50 u51 u52 u53 u54 u55 u56 u57 u58 u59 u60 u61 u62 u63 u64 u65 u66 u67 u68 u69 u70 u71 u72 u73 u74 u75 u76 u77 u78 u79 u80 u81 u82 u83 u84 u85 u86 u87 u88 u89 u90 u91 u92 u93 u94 u95 u96 u97 u98 u99 _ hK hy h2 hx hvc w0 hw0 h4 l h1 hln k10 k1 k9 k13 hQ
  · obtain rfl : K = xs.length := by omega
    refine rdec_exit rb wr va vc xs s4 c1 c2 c6 c7 c8 c9 c100 u5 u10 u11 u12 u13 u14 u15 u16 u17 u18 u19 u20 u21 u22 u23 u24 u25 u26 u27 u28 u29 u30 u31 u32 u33 u34 u35 u36 u37 u38 u39 u40 u41 u42 u43 u44 u45 u46 u47 u48 u49 u50 u51 u52 u53 u54 u55 u56 u57 u58 u59 u60 u61 u62 u63 u64 u65 u66 u67 u68 u69 u70 u71 u72 u73 u74 u75 u76 u77 u78 u79 u80 u81 u82 u83 u84 u85 u86 u87 u88 u89 u90 u91 u92 u93 u94 u95 u96 u97 u98 u99 _ h2 hx ?_
    intro xu5 xu10 xu11 xu12 xu13 xu14 xu15 xu16 xu17 xu18 xu19 xu20 xu21 xu22 xu23 xu24 xu25 xu26 xu27 xu28 xu29 xu30 xu31 xu32 xu33 xu34 xu35 xu36 xu37 xu38 xu39 xu40 xu41 xu42 xu43 xu44 xu45 xu46 xu47 xu48 xu49 xu50 xu51 xu52 xu53 xu54 xu55 xu56 xu57 xu58 xu59 xu60 xu61 xu62 xu63 xu64 xu65 xu66 xu67 xu68 xu69 xu70 xu71 xu72 xu73 xu74 xu75 xu76 xu77 xu78 xu79 xu80 xu81 xu82 xu83 xu84 xu85 xu86 xu87 xu88 xu89 xu90 xu91 xu92 xu93 xu94 xu95 xu96 xu97 xu98 xu99
    rw [List.drop_length, acts_nil, List.append_nil] at h3
    exact hE s4 xu5 xu10 xu11 xu12 xu13 xu14 xu15 xu16 xu17 xu18 xu19 xu20 xu21 xu22 xu23 xu24 xu25 xu26 xu27 xu28 xu29 xu30 xu31 xu32 xu33 xu34 xu35 xu36 xu37 xu38 xu39 xu40 xu41 xu42 xu43 xu44 xu45 xu46 xu47 xu48 xu49 xu50 xu51 xu52 xu53 xu54 xu55 xu56 xu57 xu58 xu59 xu60 xu61 xu62 xu63 xu64 xu65 xu66 xu67 xu68 xu69 xu70 xu71 xu72 xu73 xu74 xu75 xu76 xu77 xu78 xu79 xu80 xu81 xu82 xu83 xu84 xu85 xu86 xu87 xu88 xu89 xu90 xu91 xu92 xu93 xu94 xu95 xu96 xu97 xu98 xu99 wr hI ⟨l, h1, h3, h4⟩

set_option maxRecDepth 1000000 in
set_option maxHeartbeats 8000000 in
theorem rdec_loop (rb : Nat) (wr : World) (va : Option Addr) (vc : Nat) (xs : List UInt8) (s4 c1 c2 c6 c7 c8 c9 c100 u5 u10 u11 u12 u13 u14 u15 u16 u17 u18 u19 u20 u21 u22 u23 u24 u25 u26 u27 u28 u29 u30 u31 u32 u33 u34 u35 u36 u37 u38 u39 u40 u41 u42 u43 u44 u45 u46 u47 u48 u49 u50 u51 u52 u53 u54 u55 u56 u57 u58 u59 u60 u61 u62 u63 u64 u65 u66 u67 u68 u69 u70 u71 u72 u73 u74 u75 u76 u77 u78 u79 u80 u81 u82 u83 u84 u85 u86 u87 u88 u89 u90 u91 u92 u93 u94 u95 u96 u97 u98 u99 : Value) (Q : Exit → Go.Act → World → Prop)
    (hx : xs.length ≤ 1000000) (hvc : vc ≤ 2 ^ 63 - 1) (w0 : World) (hw0 : w0.heap.size = rb)
    (hI : RelW w0 rb (.slice va xs.length vc) xs s4 wr)
    (hE : ∀ s4 u5 u10 u11 u12 u13 u14 u15 u16 u17 u18 u19 u20 u21 u22 u23 u24 u25 u26 u27 u28 u29 u30 u31 u32 u33 u34 u35 u36 u37 u38 u39 u40 u41 u42 u43 u44 u45 u46 u47 u48 u49 u50 u51 u52 u53 u54 u55 u56 u57 u58 u59 u60 u61 u62 u63 u64 u65 u66 u67 u68 u69 u70 u71 u72 u73 u74 u75 u76 u77 u78 u79 u80 u81 u82 u83 u84 u85 u86 u87 u88 u89 u90 u91 u92 u93 u94 u95 u96 u97 u98 u99 : Value, ∀ w', RelW w0 rb (.slice va xs.length vc) xs s4 w' → (∃ l, OwnA 44 (rb + 1) w' s4 l ∧ l.map (·.1) = acts xs ∧ Fr [] w0 w') → Q (.exit 0) ⟨#[.slice va xs.length vc, c1, c2, .pointer (some ⟨rb, 0, none⟩), s4, u5, c6, c7, c8, c9, u10, u11, u12, u13, u14, u15, u16, u17, u18, u19, u20, u21, u22, u23, u24, u25, u26, u27, u28, u29, u30, u31, u32, u33, u34, u35, u36, u37, u38, u39, u40, u41, u42, u43, u44, u45, u46, u47, u48, u49, u50, u51, u52, u53, u54, u55, u56, u57, u58, u59, u60, u61, u62, u63, u64, u65, u66, u67, u68, u69, u70, u71, u72, u73, u74, u75, u76, u77, u78, u79, u80, u81, u82, u83, u84, u85, u86, u87, u88, u89, u90, u91, u92, u93, u94, u95, u96, u97, u98, u99, c100], []⟩ w') :
    Code.wp Try.prog (Code.loop decBody) Q ⟨#[.slice va xs.length vc, c1, c2, .pointer (some ⟨rb, 0, none⟩), s4, u5, c6, c7, c8, c9, u10, u11, u12, u13, u14, u15, u16, u17, u18, u19, u20, u21, u22, u23, u24, u25, u26, u27, u28, u29, u30, u31, u32, u33, u34, u35, u36, u37, u38, u39, u40, u41, u42, u43, u44, u45, u46, u47, u48, u49, u50, u51, u52, u53, u54, u55, u56, u57, u58, u59, u60, u61, u62, u63, u64, u65, u66, u67, u68, u69, u70, u71, u72, u73, u74, u75, u76, u77, u78, u79, u80, u81, u82, u83, u84, u85, u86, u87, u88, u89, u90, u91, u92, u93, u94, u95, u96, u97, u98, u99, c100], []⟩ wr := by
  refine wp_loop (WI w0 rb va vc xs c1 c2 c6 c7 c8 c9 c100) (Wmu xs) ⟨_, _, _, _, _, _, _, _, _, _, _, _, _, _, _, _, _, _, _, _, _, _, _, _, _, _, _, _, _, _, _, _, _, _, _, _, _, _, _, _, _, _, _, _, _, _, _, _, _, _, _, _, _, _, _, _, _, _, _, _, _, _, _, _, _, _, _, _, _, _, _, _, _, _, _, _, _, _, _, _, _, _, _, _, _, _, _, _, _, _, _, _, hI, rfl⟩ ?_
  clear hI
  intro a wr hI
  obtain ⟨s4, hI⟩ := hI
  obtain ⟨u5, hI⟩ := hI
  obtain ⟨u10, hI⟩ := hI
  obtain ⟨u11, hI⟩ := hI
  obtain ⟨u12, hI⟩ := hI
  obtain ⟨u13, hI⟩ := hI
  obtain ⟨u14, hI⟩ := hI
  obtain ⟨u15, hI⟩ := hI
  obtain ⟨u16, hI⟩ := hI
  obtain ⟨u17, hI⟩ := hI
  obtain ⟨u18, hI⟩ := hI
  obtain ⟨u19, hI⟩ := hI
  obtain ⟨u20, hI⟩ := hI
  obtain ⟨u21, hI⟩ := hI
  obtain ⟨u22, hI⟩ := hI
  obtain ⟨u23, hI⟩ := hI
  obtain ⟨u24, hI⟩ := hI
  obtain ⟨u25, hI⟩ := hI
  obtain ⟨u26, hI⟩ := hI
  obtain ⟨u27, hI⟩ := hI
  obtain ⟨u28, hI⟩ := hI
  obtain ⟨u29, hI⟩ := hI
  obtain ⟨u30, hI⟩ := hI
  obtain ⟨u31, hI⟩ := hI
  obtain ⟨u32, hI⟩ := hI
  obtain ⟨u33, hI⟩ := hI
  obtain ⟨u34, hI⟩ := hI
  obtain ⟨u35, hI⟩ := hI
  obtain ⟨u36, hI⟩ := hI
  obtain ⟨u37, hI⟩ := hI
  obtain ⟨u38, hI⟩ := hI
  obtain ⟨u39, hI⟩ := hI
  obtain ⟨u40, hI⟩ := hI
  obtain ⟨u41, hI⟩ := hI
  obtain ⟨u42, hI⟩ := hI
  obtain ⟨u43, hI⟩ := hI
  obtain ⟨u44, hI⟩ := hI
  obtain ⟨u45, hI⟩ := hI
  obtain ⟨u46, hI⟩ := hI
  obtain ⟨u47, hI⟩ := hI
  obtain ⟨u48, hI⟩ := hI
  obtain ⟨u49, hI⟩ := hI
  obtain ⟨u50, hI⟩ := hI
  obtain ⟨u51, hI⟩ := hI
  obtain ⟨u52, hI⟩ := hI
  obtain ⟨u53, hI⟩ := hI
  obtain ⟨u54, hI⟩ := hI
  obtain ⟨u55, hI⟩ := hI
  obtain ⟨u56, hI⟩ := hI
  obtain ⟨u57, hI⟩ := hI
  obtain ⟨u58, hI⟩ := hI
  obtain ⟨u59, hI⟩ := hI
  obtain ⟨u60, hI⟩ := hI
  obtain ⟨u61, hI⟩ := hI
  obtain ⟨u62, hI⟩ := hI
  obtain ⟨u63, hI⟩ := hI
  obtain ⟨u64, hI⟩ := hI
  obtain ⟨u65, hI⟩ := hI
  obtain ⟨u66, hI⟩ := hI
  obtain ⟨u67, hI⟩ := hI
  obtain ⟨u68, hI⟩ := hI
  obtain ⟨u69, hI⟩ := hI
  obtain ⟨u70, hI⟩ := hI
  obtain ⟨u71, hI⟩ := hI
  obtain ⟨u72, hI⟩ := hI
  obtain ⟨u73, hI⟩ := hI
  obtain ⟨u74, hI⟩ := hI
  obtain ⟨u75, hI⟩ := hI
  obtain ⟨u76, hI⟩ := hI
  obtain ⟨u77, hI⟩ := hI
  obtain ⟨u78, hI⟩ := hI
  obtain ⟨u79, hI⟩ := hI
  obtain ⟨u80, hI⟩ := hI
  obtain ⟨u81, hI⟩ := hI
  obtain ⟨u82, hI⟩ := hI
  obtain ⟨u83, hI⟩ := hI
  obtain ⟨u84, hI⟩ := hI
  obtain ⟨u85, hI⟩ := hI
  obtain ⟨u86, hI⟩ := hI
  obtain ⟨u87, hI⟩ := hI
  obtain ⟨u88, hI⟩ := hI
  obtain ⟨u89, hI⟩ := hI
  obtain ⟨u90, hI⟩ := hI
  obtain ⟨u91, hI⟩ := hI
  obtain ⟨u92, hI⟩ := hI
  obtain ⟨u93, hI⟩ := hI
  obtain ⟨u94, hI⟩ := hI
  obtain ⟨u95, hI⟩ := hI
  obtain ⟨u96, hI⟩ := hI
  obtain ⟨u97, hI⟩ := hI
  obtain ⟨u98, hI⟩ := hI
  obtain ⟨u99, hI⟩ := hI
  obtain ⟨hI, rfl⟩ := hI
  exact rdec_frame rb wr va vc xs s4 c1 c2 c6 c7 c8 c9 c100 u5 u10 u11 u12 u13 u14 u15 u16 u17 u18 u19 u20 u21 u22 u23 u24 u25 u26 u27 u28 u29 u30 u31 u32 u33 u34 u35 u36 u37 u38 u39 u40 u41 u42 u43 u44 u45 u46 u47 u48 u49 u50 u51 u52 u53 u54 u55 u56 u57 u58 u59 u60 u61 u62 u63 u64 u65 u66 u67 u68 u69 u70 u71 u72 u73 u74 u75 u76 u77 u78 u79 u80 u81 u82 u83 u84 u85 u86 u87 u88 u89 u90 u91 u92 u93 u94 u95 u96 u97 u98 u99 Q hx hvc w0 hw0 hI hE

set_option maxRecDepth 1000000 in
set_option maxHeartbeats 8000000 in
theorem rdecode_any (A : Nat → Prop) (w : World) (v : Value) (xs : List UInt8) (hb : Bs A w v xs) (hx : xs.length ≤ 1000000) :
    Calls Try.prog 10 #[v] w fun e w' => ∃ u l, e = .returned u ∧ OwnA 44 w.heap.size w' u l ∧ l.map (·.1) = acts xs ∧ Fr [] w w' := by
  obtain ⟨va, vc, rfl, h2, h3, -⟩ := id hb
  have HC0 := Lib.hid (show Cu (fun b => w.heap.size ≤ b) ((w.alloc (.cells #[.slice va xs.length vc, .int .i64 0] 52)).alloc (.cells #[] 44)) w.heap.size (.slice va xs.length vc) xs 0 from
    ⟨Nat.le_refl _, At.al (At.new rfl), ((hb.mono (Fr.al (Fr.alloc (S := []) w _)) (by simp) (fun b h => .inr h)).mono (A' := fun b => w.heap.size ≤ b) (Fr.refl [] _) (by simp) (fun b h => .inl h)), Nat.zero_le _⟩)
  clear hb
  unfold maxLen at h3
  go_enter Try.func10, Try.ntmps10
  go_wp2_with fail
  refine rdec_loop w.heap.size _ va vc xs _ _ _ _ _ _ _ _ _ _ _ _ _ _ _ _ _ _ _ _ _ _ _ _ _ _ _ _ _ _ _ _ _ _ _ _ _ _ _ _ _ _ _ _ _ _ _ _ _ _ _ _ _ _ _ _ _ _ _ _ _ _ _ _ _ _ _ _ _ _ _ _ _ _ _ _ _ _ _ _ _ _ _ _ _ _ _ _ _ _ _ _ _ _ _ _ _ _ _ _ hx h3 w rfl ?_ ?_
  · refine ⟨[], 0, ⟨⟨rfl, .inr ⟨w.heap.size + 1, 0, #[], rfl, Nat.le_refl _, At.new (by simp), Nat.le_refl _, by simp [maxLen], rfl, rfl⟩⟩, fun x hx => by simp at hx⟩, HC0.out, by simp, Fr.al (Fr.al (Fr.refl _ _))⟩
  · rintro s4 u5 u10 u11 u12 u13 u14 u15 u16 u17 u18 u19 u20 u21 u22 u23 u24 u25 u26 u27 u28 u29 u30 u31 u32 u33 u34 u35 u36 u37 u38 u39 u40 u41 u42 u43 u44 u45 u46 u47 u48 u49 u50 u51 u52 u53 u54 u55 u56 u57 u58 u59 u60 u61 u62 u63 u64 u65 u66 u67 u68 u69 u70 u71 u72 u73 u74 u75 u76 u77 u78 u79 u80 u81 u82 u83 u84 u85 u86 u87 u88 u89 u90 u91 u92 u93 u94 u95 u96 u97 u98 u99 w' - ⟨l, h4, h5, h6⟩
    obtain ⟨oa, oc, rfl⟩ := ownA_shape h4
    have H4 := Lib.hid h4
    have H5 := Lib.hid h5
    have H6 := Lib.hid h6
    clear h4 h5 h6 HC0
    go_wp2
    go_ret
    exact ⟨_, l, rfl, H4.out.keep' (by omega), H5.out, H6.out⟩
end Go.Proofs.Ytbohmnblegljkaa
