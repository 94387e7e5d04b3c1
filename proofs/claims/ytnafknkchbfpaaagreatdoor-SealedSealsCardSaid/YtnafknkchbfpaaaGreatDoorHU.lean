import Derived.Test.YtnafknkchbfpaaaGreatDoorSStr
set_option maxRecDepth 1000000
set_option maxHeartbeats 8000000
namespace Go.Proofs.YtnafknkchbfpaaaGreatDoor
open Go.RowKit Go.Bl
set_option linter.unusedVariables false
def Jy : List UInt8 := [201, 202, 203, 204, 205, 206]
def Mk (base : Nat) (w : World) (u : Value) (xs : List UInt8) : Prop :=
 ∃ g cap cur, u = .slice (some ⟨g, 0, none⟩) xs.length cap /\ base <= g /\ At w g (.cells cur 5 (0, 0)) /\ xs.length + 6 <= cap /\ cap <= maxLen /\ cur.size = cap /\ cur.toList.take (xs.length + 6) = (xs ++ Jy).map u8v
theorem Mk.keep {base : Nat} {w w' : World} {u : Value} {xs : List UInt8} {S : List Nat} (h : Mk base w u xs) (hf : Fr S w w') (hS : ∀ g ∈ S, g < base) : Mk base w' u xs := by
 obtain ⟨g, cap, cur, h1, h2, h3, h4⟩ := h
 exact ⟨g, cap, cur, h1, h2, h3.keep hf (fun hm => by have := hS g hm; omega), h4⟩
theorem Mk.keep0 {base : Nat} {w w' : World} {u : Value} {xs : List UInt8} (h : Mk base w u xs) (hf : Fr [] w w') : Mk base w' u xs := h.keep hf qg
theorem Mk.bs {A : Nat -> Prop} {base : Nat} {w : World} {u : Value} {xs : List UInt8} (h : Mk base w u xs) (hA : ∀ b, A b -> b < base) : Bs A w u xs := by
 obtain ⟨g, cap, cur, h1, h2, h3, h4, h5, h6, h7⟩ := h
 refine ⟨_, cap, h1, by omega, h5, .inr ⟨g, 0, cur, 5, (0, 0), rfl, fun h => by have := hA g h; omega, h3, fun i hi => ?_⟩⟩
 simp only [List.length_map] at hi
 have : (cur.toList.take (xs.length + 6))[i]? = ((xs ++ Jy).map u8v)[i]? := by rw [h7]
 rw [List.getElem?_take, if_pos Y95, List.map_append, List.getElem?_append_left (by simpa using hi)] at this
 simpa using this
theorem ZT (A : Nat -> Prop) (w : World) (v : Value) (xs : List UInt8) (hb : Bs A w v xs) (hx : xs.length <= 4000000) :
  Calls Tryz.prog 25 #[v] w fun e w' => ∃ u, e = .returned u /\ Mk w.heap.size w' u xs /\ Fr [] w w' := by
 obtain ⟨a, cap, rfl, h2, h3, -⟩ := id hb
 obtain ⟨i, hi, hz, hsz, hby⟩ := qO Tryz.infoByte
 have HB := Hdq (hb.mono (A' := fun _ => False) (Fr.refl [] w) qg (fun b h => h.elim))
 obtain ⟨N, hN⟩ := exq (xs.length)
 rw [hN] at HB hx h2 ⊢
 have HN := Hdq hN
 unfold maxLen at h3
 clear hb hN
 go_enter Tryz.func25, Tryz.ntmps25
 go_wp2_with (refine wpList_make_own _ rfl (.const (.int .i64 0)) (.tmp 6) 22 rfl w.heap.size 5 i (.int .u8 0) 1 Tryz.underlying22 hi hz hsz .i64 .i64 _ (N + 6) rfl rfl qg XU X9 (Nat.le_refl _) ?_)
 intro w1 r1 g1
 have o1 : qi 5 w.heap.size w1 (.slice (some ⟨w.heap.size, 0, none⟩) 0 (N + 6)) [] := r1
 have f1 : Fr [] w w1 := Fr.grown g1 qg
 have B1 : Bs (fun _ => False) w1 (.slice a N cap) xs := HB.keep f1 qg
 replace f1 := Hdq f1
 replace g1 := Hdq g1
 replace r1 := Hdq o1
 replace B1 := Hdq B1
 clear o1
 obtain ⟨v1, hv1⟩ := exq (Value.slice (some ⟨w.heap.size, 0, none⟩) 0 (N + 6))
 rw [hv1] at r1 ⊢
 replace hv1 := Hdq hv1
 go_wp2_with (at_builtin; refine qh (A := fun _ => False) (ys := xs) (base := w.heap.size) Tryz.underlying22 Tryz.infoByte rfl (.tmp 7) (.tmp 8) rfl rfl rfl r1 B1 ?hl ?hb ?_)
 case hl => have : xs.length = N := HN; simp; omega
 case hb => exact Fr.size f1
 intro v2 w2 r2 g2
 have f2 : Fr [] w w2 := r1.fr f1 g2 (Nat.le_refl _)
 replace f2 := Hdq f2
 replace g2 := Hdq g2
 replace r2 := Hdq r2
 have B2 : Hid (Bs (fun _ => False) (w2.alloc (.cells #[.int .u8 201, .int .u8 202, .int .u8 203, .int .u8 204, .int .u8 205, .int .u8 206] 5)) (.slice (some ⟨w2.heap.size, 0, none⟩) 6 6) Jy) :=
  Hdq (qi.bs (e := 5) (base := w2.heap.size) (World.ownsRow_lit (size := 1) w2 #[.int .u8 201, .int .u8 202, .int .u8 203, .int .u8 204, .int .u8 205, .int .u8 206] 6 (Nat.le_refl _) qe rfl) (fun b h => h.elim))
 have R2 : Hid (qi 5 w.heap.size (w2.alloc (.cells #[.int .u8 201, .int .u8 202, .int .u8 203, .int .u8 204, .int .u8 205, .int .u8 206] 5)) v2 xs) := Hdq (r2.keep (S := []) (Fr.alloc _ _) qg)
 have F2 : Hid (Fr [] w (w2.alloc (.cells #[.int .u8 201, .int .u8 202, .int .u8 203, .int .u8 204, .int .u8 205, .int .u8 206] 5))) := Hdq (f2.trans (Fr.alloc _ _))
 go_wp2_with (at_builtin; refine qh (A := fun _ => False) (ys := Jy) (base := w.heap.size) Tryz.underlying22 Tryz.infoByte rfl (.tmp 9) (.tmp 10) rfl rfl rfl R2 B2 ?hl ?hb ?_)
 case hl => have : xs.length = N := HN; simp [Jy]; omega
 case hb => exact Fr.size F2
 intro v3 w3 r3 g3
 have f3 : Fr [] w w3 := R2.fr F2 g3 (Nat.le_refl _)
 have hl3 : (xs ++ Jy).length = N + 6 := by rw [List.length_append, HN]; rfl
 obtain ⟨q1, ⟨q2, q3⟩ | ⟨g, cp, cur, rfl, q2, q3, q4, q5, q6, q7⟩⟩ := id r3
 ·rw [hl3] at q3; omega
 rw [hl3] at q1 q4 q7 ⊢
 rw [Nat.mul_one] at q6 q7
 have M : Hid (Mk w.heap.size w3 (.slice (some ⟨g, 0, none⟩) N cp) xs) := Hdq ⟨g, cp, cur, by rw [HN], q2, q3, by rw [HN]; exact q4, q5, q6, by rw [HN]; exact q7⟩
 replace f3 := Hdq f3
 replace q4 : N <= cp := by omega
 unfold maxLen at q5
 clear q1 q2 q3 q6 q7 r3 g3 hl3 F2 R2 B2
 go_wp2
 go_ret
 exact ⟨_, rfl, M, f3⟩
theorem ZA {P : Program} {o : Oper} {a : Act} {C : World -> Prop} {K : Act -> Prop} {s d : TypeId} {v : Value} (x : Operand) (h : o.op = .convert s d x) (hr : ∀ w, C w -> (convert s d (a.eval x)).run P w = .ok v w) (hk : K (a.put o.dst v)) : o.quiet P a C K :=
 ⟨v, fun w hw => by
  unfold Oper.quietAt execOp
  simp only [h, Sem.run_bind, hr w hw, Result.andThen_ok, Sem.run_pure]
  first | exact ⟨rfl, rfl⟩ | exact ⟨rfl, hw⟩ | trivial, hk⟩
theorem UY (A : Nat -> Prop) (base : Nat) (w : World) (u v : Value) (xs : List UInt8) (hm : Mk base w u xs) (hb : Bs A w v xs) (hx : xs.length <= 4000000) :
  Calls Tryz.prog 29 #[u, v] w fun e w' => e = .returned (.bool true) /\ Fr [] w w' := by
 have HU := Hdq (hm.bs (A := fun _ => False) (fun _ h => h.elim))
 have HV := Hdq hb
 obtain ⟨ad, c2, rfl, g2, g3, -⟩ := id hb
 obtain ⟨g, cp, cur, rfl, q2, q3, q4, q5, q6, q7⟩ := id hm
 have HC : Hid (∀ k, k < 6 -> w.cell? ⟨g, xs.length + k, none⟩ = some (.int .u8 (201 + k))) := Hdq fun k hk => by
  have : (cur.toList.take (xs.length + 6))[xs.length + k]? = ((xs ++ Jy).map u8v)[xs.length + k]? := by rw [q7]
  rw [List.getElem?_take, if_pos Y95, List.map_append, List.getElem?_append_right qg] at this
  rw [qE q3]
  simp only [List.length_map, Nat.add_sub_cancel_left] at this
  rw [Array.getElem?_toList] at this
  rw [this]
  have : k = 0 ∨ k = 1 ∨ k = 2 ∨ k = 3 ∨ k = 4 ∨ k = 5 := by omega
  rcases this with rfl | rfl | rfl | rfl | rfl | rfl <;> rfl
 obtain ⟨N, hN⟩ := exq (xs.length)
 rw [hN] at HU HV HC hx q4 g2
 rw [hN]
 unfold maxLen at g3 q5
 have HG := Hdq q3
 have hd : decide ((cp : Int) < (N : Int) + 6) = false := by simp; omega
 clear hb hm q2 q3 q6 q7 hN
 go_enter Tryz.func29, Tryz.ntmps29
 go_wp2_with fail
 refine x7 w qf qf (Fr.refl _ _) ?_
 repeat (go_big_quiet_step (fail))
 refine BigFrame.wpQuiet_want rfl fun K hK => ?_
 refine ZA (.tmp 21) rfl (v := .string ⟨xs.toArray⟩) ?_ (hK _ ?_)
 ·rintro _ ⟨y, rfl⟩
  exact J9 Tryz.underlying22 Tryz.underlying5 Tryz.underlying9 (HU.out.keep y.fr qg)
 simp only [Act.put, List.setIfInBounds_toArray, List.set_cons_succ, List.set_cons_zero]
 repeat (go_big_quiet_step (fail))
 refine BigFrame.wpQuiet_want rfl fun K hK => ?_
 refine ZA (.tmp 23) rfl (v := .string ⟨xs.toArray⟩) ?_ (hK _ ?_)
 ·rintro _ ⟨y, rfl⟩
  exact J9 Tryz.underlying22 Tryz.underlying5 Tryz.underlying9 (HV.out.keep y.fr qg)
 simp only [Act.put, List.setIfInBounds_toArray, List.set_cons_succ, List.set_cons_zero]
 repeat (go_big_quiet_step (fail))
 refine wpQuiet_nil ?_
 rintro _ ⟨wq, rfl⟩
 have HC2 : Hid (∀ k, k < 6 -> wq.w.cell? ⟨g, N + k, none⟩ = some (.int .u8 (201 + k))) := Hdq fun k hk => by
  have := HC.out k hk
  have h1 : At wq.w g (.cells cur 5) := HG.out.keep0 wq.fr
  rw [qE h1]
  rw [qE HG.out] at this
  exact this
 have HF := Hdq wq.fr
 generalize wq.w = w1 at HC2 HF ⊢
 clear HC HV HU HG hd
 go_wp2
 go_loopw [6] (fun v wr => ∃ k : Nat, k <= 6 /\ v = .int .i64 k /\ wr = w1) (fun v _ => (6 - intOf v).toNat)
 case atStart => exact ⟨0, by omega, rfl, rfl⟩
 case round =>
  obtain ⟨k, hk, rfl, rfl⟩ := hrel
  by_cases h6 : k < 6
  ·have q0 := HC2.out k h6
   go_wp2
   go_roundw
   case rel => exact ⟨k + 1, by omega, by simp, trivial⟩
   case measure => simp [intOf]; omega
  ·go_wp2
   exact Y82
end Go.Proofs.YtnafknkchbfpaaaGreatDoor
