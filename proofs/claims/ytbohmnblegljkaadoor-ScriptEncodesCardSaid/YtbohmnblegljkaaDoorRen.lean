/-
  Layer 31: the document's Encode: the bytes of all acts, or false.
-/
import Derived.Test.YtbohmnblegljkaaDoorGJ
import Derived.Test.YtbohmnblegljkaaDoorRn4
import Derived.Test.YtbohmnblegljkaaDoorRn5
namespace Go.Proofs.YtbohmnblegljkaaDoor
open Go.RowKit Go.Bl
set_option linter.unusedVariables false

set_option maxRecDepth 1000000 in
set_option maxHeartbeats 8000000 in
theorem renc_exit (wr : World) (a : Go.Act) (hsz : a.tmps.size = 144) (hd : a.defers = []) (N : Nat) (h12 : slot a 12 = .int .i64 N) (h13 : slot a 13 = .int .i64 N) (hN : N ≤ 30) (Q : Exit → Go.Act → World → Prop)
    (hQ : ∀ c : Go.Act, c.defers = [] → c.tmps.size = 144 → slot c 4 = slot a 4 → Q (.exit 0) c wr) : Code.wp Tryd.prog encBody Q a wr := by
  have HQ := Lib.hid hQ
  rw [frame144 a hsz hd, h12, h13]
  clear hQ h12 h13
  conv => arg 2; whnf
  go_wp2_with fail
  exact HQ.out _ rfl rfl rfl

set_option maxRecDepth 1000000 in
set_option maxHeartbeats 8000000 in
theorem renc_badr (w0 wr : World) (a : Go.Act) (hsz : a.tmps.size = 144) (hd : a.defers = []) (N j b off cap : Nat) (x : ActP) (bo : Option Addr) (bn bc : Nat)
    (h11 : slot a 11 = .slice (some ⟨b, off, none⟩) N cap) (h12 : slot a 12 = .int .i64 N) (h13 : slot a 13 = .int .i64 j) (hj : j < N) (hN : N ≤ 30) (hcell : wr.rangeAt b (off + j * 16) (avC (x, .slice bo bn bc)))
    (hF : Fr [] w0 wr) (hg : ¬ (0 ≤ x.kind ∧ x.kind ≤ 255)) (Q : Exit → Go.Act → World → Prop)
    (hQ : ∀ (c : Go.Act) (p : World), c.defers = [] → c.tmps.size = 144 → slot c 2 = .slice none 0 0 → slot c 3 = .bool false → Fr [] w0 p → Q .ret c p) : Code.wp Tryd.prog encBody Q a wr := by
  have HA0 := Lib.hid (show At (wr.alloc (actO x (.slice bo bn bc) 99)) wr.heap.size (actO x (.slice bo bn bc) 99) from At.new rfl)
  have HF0 := Lib.hid (show Fr [] w0 (wr.alloc (actO x (.slice bo bn bc) 99)) from Fr.al hF)
  have HC := Lib.hid hcell
  have HQ := Lib.hid hQ
  have z0 : (wr.alloc (actO x (.slice bo bn bc) 99)).cell? ⟨wr.heap.size, 0, none⟩ = some (.int .i64 x.kind) := (actCells HA0.out).1
  have hor : x.kind < 0 ∨ (0 ≤ x.kind ∧ 255 < x.kind) := by omega
  rw [frame144 a hsz hd, h11, h12, h13]
  clear hcell hQ hF h11 h12 h13 hg
  unfold actO at z0
  conv => arg 2; whnf
  rcases hor with hneg | ⟨hpos, hbig⟩
  all_goals
    go_wp2_with (first | (refine wpl_load_row (.tmp 15) rfl rfl b (off + j * 16) (actC x (.slice bo bn bc)) rfl HC.out Tryd.underlying99 rfl (by kernel_rfl) ?_) | (refine wpl_store_new (.tmp 6) (.tmp 16) rfl rfl (actC x (.slice bo bn bc)) rfl rfl (by kernel_rfl) rfl (by simp [actC, Value.oneCell']) ?_))
    exact HQ.out _ _ rfl rfl rfl rfl HF0.out

/-- what holds between rounds -/
structure RencI (w0 : World) (l : List AV) (v : Value) (a : Go.Act) (wr : World) : Prop where
  sz : a.tmps.size = 144
  df : a.defers = []
  s11 : slot a 11 = v
  s12 : slot a 12 = .int .i64 l.length
  more : ∃ j : Nat, j ≤ l.length ∧ slot a 13 = .int .i64 j ∧ OwnB 5 w0.heap.size wr (slot a 4) (encL ((l.take j).map (·.1))) ∧ Fr [] w0 wr ∧ ∀ x ∈ l.take j, 0 ≤ x.1.kind ∧ x.1.kind ≤ 255
def kOf : Value → Nat
  | .int _ n => n.toNat
  | _ => 0
theorem bs_out {w : World} {v : Value} {xs : List UInt8} {A : Nat → Prop} (h : Bs A w v xs) : Bs (fun b => w.heap.size ≤ b) w v xs := h.mono (S := []) (Fr.refl _ _) (by simp) fun b h => .inr h
set_option maxRecDepth 1000000 in
set_option maxHeartbeats 8000000 in
theorem renc_loop (A : Nat → Prop) (w0 : World) (v : Value) (l : List AV) (hr : RdA A w0 v l) (hl : l.length ≤ 30) (hby : ∀ x ∈ l, x.1.bytes.length ≤ 70000) (hnl : ∀ x ∈ l, x.1.name.size ≤ 1000) (a : Go.Act) (wr : World) (hI : RencI w0 l v a wr) (Q : Exit → Go.Act → World → Prop)
    (hE : ∀ (c : Go.Act) (p : World), c.defers = [] → c.tmps.size = 144 → OwnB 5 w0.heap.size p (slot c 4) (encL (l.map (·.1))) → Fr [] w0 p → (∀ x ∈ l, 0 ≤ x.1.kind ∧ x.1.kind ≤ 255) → Q (.exit 0) c p)
    (hR : ∀ (c : Go.Act) (p : World), c.defers = [] → c.tmps.size = 144 → slot c 2 = .slice none 0 0 → slot c 3 = .bool false → Fr [] w0 p → (∃ x ∈ l, ¬ (0 ≤ x.1.kind ∧ x.1.kind ≤ 255)) → Q .ret c p) : Code.wp Tryd.prog (Code.loop encBody) Q a wr := by
  refine wp_loop (RencI w0 l v) (fun a _ => l.length - kOf (slot a 13)) hI ?_
  clear hI
  rintro a wr ⟨h1, h2, h11, h12, j, hj, h13, ho, hf, hg⟩
  by_cases hjn : j < l.length
  · obtain ⟨ad, cap, rfl, c2, c3, c4⟩ := hr.shape
    obtain ⟨b, off, rfl, hnA, hcell⟩ := c4 (by omega)
    obtain ⟨x, hx⟩ : ∃ x, l[j]? = some x := ⟨_, List.getElem?_eq_getElem hjn⟩
    have hc := hcell j x hx
    have hm : x ∈ l := List.mem_of_getElem? hx
    have hbx := hr.2 x hm
    obtain ⟨bo, bn, bc, hb⟩ := bs_shape hbx
    have hby := hby x hm
    have hnl := hnl x hm
    have hT := encL_take l j x hx
    have hel := encL_len ((l.take j).map (·.1))
    have hel2 : ((l.take j).map (·.1)).length ≤ 30 := by simp; omega
    obtain ⟨ac, bv⟩ := x
    simp only at hb hby hbx hnl
    subst hb
    have hc' : wr.rangeAt b (off + j * 16) (avC (ac, .slice bo bn bc)) := fun f u hu => cell_mono hf (hc f u hu)
    have hbx' : Bs (fun b => w0.heap.size ≤ b) wr (.slice bo bn bc) ac.bytes := (bs_out hbx).keep hf (by simp)
    by_cases hgo : 0 ≤ ac.kind ∧ ac.kind ≤ 255
    · have hQ : ∀ (c : Go.Act) (p : World), c.defers = [] → c.tmps.size = 144 → slot c 11 = slot a 11 → slot c 12 = slot a 12 → slot c 13 = .int .i64 ((j : Int) + 1) → OwnB 5 w0.heap.size p (slot c 4) (encL ((l.take j).map (·.1)) ++ entryL (plainA ac)) → Fr [] w0 p →
          (Exit.then (fun a' w' => RencI w0 l (.slice (some ⟨b, off, none⟩) l.length cap) a' w' ∧ l.length - kOf (slot a' 13) < l.length - kOf (slot a 13)) Q) .normal c p := by
        intro c p k1 k2 k3 k4 k5 k6 k7
        refine ⟨⟨k2, k1, k3.trans h11, k4.trans h12, j + 1, by omega, by rw [k5]; simp, ?_, k7, ?_⟩, ?_⟩
        · rw [List.map_take] at hT
          rw [List.map_take, hT]
          exact k6
        · intro y hy
          rw [List.take_add_one, hx] at hy
          rcases List.mem_append.1 hy with hy | hy
          · exact hg y hy
          · simp at hy; subst hy; exact hgo
        · rw [k5, h13]
          simp [kOf]; omega
      by_cases k10 : ac.kind = 10
      · exact renc_round_10 w0 wr a h1 h2 l.length j b off cap ac bo bn bc _ _ h11 h12 h13 hjn hl hc' hbx' rfl ho (by omega) hnl hby hf hgo k10 _ hQ
      by_cases k9 : ac.kind = 9
      · exact renc_round_9 w0 wr a h1 h2 l.length j b off cap ac bo bn bc _ _ h11 h12 h13 hjn hl hc' hbx' rfl ho (by omega) hnl hby hf hgo k9 _ hQ
      by_cases k13 : ac.kind = 13
      · exact renc_round_13 w0 wr a h1 h2 l.length j b off cap ac bo bn bc _ _ h11 h12 h13 hjn hl hc' hbx' rfl ho (by omega) hnl hby hf hgo k13 _ hQ
      by_cases k1 : ac.kind = 1
      · by_cases hnc : 255 < ac.name.size
        · exact renc_round_1c w0 wr a h1 h2 l.length j b off cap ac bo bn bc _ _ h11 h12 h13 hjn hl hc' hbx' rfl ho (by omega) hnl hby hf hgo k1 hnc _ hQ
        · exact renc_round_1w w0 wr a h1 h2 l.length j b off cap ac bo bn bc _ _ h11 h12 h13 hjn hl hc' hbx' rfl ho (by omega) hnl hby hf hgo k1 hnc _ hQ
      · exact renc_round_o w0 wr a h1 h2 l.length j b off cap ac bo bn bc _ _ h11 h12 h13 hjn hl hc' hbx' rfl ho (by omega) hnl hby hf hgo ⟨k10, k1, k9, k13⟩ _ hQ
    · exact renc_badr w0 wr a h1 h2 l.length j b off cap ac bo bn bc h11 h12 h13 hjn hl hc' hf hgo _ fun c p k1 k2 k3 k4 k5 => hR c p k1 k2 k3 k4 k5 ⟨_, hm, hgo⟩
  · obtain rfl : j = l.length := by omega
    rw [List.take_length] at ho hg
    exact renc_exit wr a h1 h2 l.length h12 h13 hl _ fun c k1 k2 k3 => hE c wr k1 k2 (by rw [k3]; exact ho) hf hg

set_option maxRecDepth 1000000 in
set_option maxHeartbeats 8000000 in
/-- the document's Encode -/
theorem renc_any (A : Nat → Prop) (w : World) (v : Value) (l : List AV) (hr : RdA A w v l) (hl : l.length ≤ 30) (hby : ∀ x ∈ l, x.1.bytes.length ≤ 70000) (hnl : ∀ x ∈ l, x.1.name.size ≤ 1000) :
    Calls Tryd.prog 30 #[v] w fun e w' => ∃ u ok, e = .returned (.tuple #[u, .bool ok]) ∧ Fr [] w w' ∧ ((ok = true ∧ (∀ x ∈ l, 0 ≤ x.1.kind ∧ x.1.kind ≤ 255) ∧ OwnB 5 w.heap.size w' u (encL (l.map (·.1)))) ∨ (ok = false ∧ (∃ x ∈ l, ¬ (0 ≤ x.1.kind ∧ x.1.kind ≤ 255)) ∧ u = .slice none 0 0)) := by
  have HR := Lib.hid hr
  have HBY := Lib.hid hby
  have HNL := Lib.hid hnl
  obtain ⟨ad, cap, rfl, c2, c3, -⟩ := hr.shape
  clear hr hby hnl
  unfold maxLen at c3
  go_enter Tryd.func30, Tryd.ntmps30
  go_wp2_with fail
  refine renc_loop A w _ l HR.out hl HBY.out HNL.out _ _ ⟨rfl, rfl, rfl, rfl, 0, Nat.zero_le _, rfl, OwnB.empty _ _ _ (Nat.le_refl _), Fr.alloc _ _, by simp⟩ _ ?_ ?_
  · intro c p h1 h2 h3 h4 h5
    have H3 := Lib.hid h3
    have H4 := Lib.hid h4
    have H5 := Lib.hid h5
    rw [frame144 c h2 h1]
    clear h1 h2 h3 h4 h5
    go_wp2
    go_ret2
    exact ⟨_, true, rfl, H4.out, .inl ⟨rfl, H5.out, H3.out⟩⟩
  · intro c p h1 h2 h3 h4 h5 h6
    have H5 := Lib.hid h5
    have H6 := Lib.hid h6
    rw [frame144 c h2 h1, h3, h4]
    clear h1 h2 h3 h4 h5 h6
    go_wp2
    go_ret2
    exact ⟨_, false, rfl, H5.out, .inr ⟨rfl, H6.out, rfl⟩⟩
end Go.Proofs.YtbohmnblegljkaaDoor
