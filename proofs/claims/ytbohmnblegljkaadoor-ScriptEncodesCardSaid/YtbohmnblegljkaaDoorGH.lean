/-
  Layer 31: an act's bytes are read as its plain form.
  Layer 31: an act's bytes are read as its plain form: by kinds.
  Layer 31: all acts' bytes are read as their plain forms; a plain form is its own.
  Layer 31: the document's bytes of an act are those of its plain form.
-/
import Derived.Test.YtbohmnblegljkaaDoorGG
namespace Go.Proofs.YtbohmnblegljkaaDoor
open Go.RowKit Go.Bl
set_option linter.unusedVariables false

theorem nb1 (b : UInt8) (xs : List UInt8) : nb 1 (b :: xs) = b.toNat := by
  simp [nb, padTo, num8]
theorem nb2 (b c : UInt8) (xs : List UInt8) : nb 2 (b :: c :: xs) = b.toNat * 256 + c.toNat := by
  simp [nb, padTo, num8]
theorem nb1_b8 (n : Int) (h : 0 ≤ n ∧ n < 256) (xs : List UInt8) : (nb 1 (b8 n :: xs) : Int) = n := by
  rw [nb1, b8_mod]; omega
theorem nb2_be2 (n : Int) (h : 0 ≤ n ∧ n < 65536) (xs : List UInt8) : (nb 2 (b8 (n / 256) :: b8 n :: xs) : Int) = n := by
  rw [nb2]
  have h1 := b8_mod (n / 256)
  have h2 := b8_mod n
  omega
theorem nb8 (b0 b1 b2 b3 b4 b5 b6 b7 : UInt8) (xs : List UInt8) : nb 8 (b0 :: b1 :: b2 :: b3 :: b4 :: b5 :: b6 :: b7 :: xs) = ((((((b0.toNat * 256 + b1.toNat) * 256 + b2.toNat) * 256 + b3.toNat) * 256 + b4.toNat) * 256 + b5.toNat) * 256 + b6.toNat) * 256 + b7.toNat := by
  simp [nb, padTo, num8]
theorem nb8_beK (n : Int) (s : Int) (h : 0 ≤ s ∧ s < 18446744073709551616) (hn : n = wrap64 s) (xs : List UInt8) : (nb 8 (beK 8 n ++ xs) : Int) = s := by
  rw [beK8]
  simp only [List.cons_append, List.nil_append]
  rw [nb8]
  have h0 := b8_mod (n / 72057594037927936)
  have h1 := b8_mod (n / 281474976710656)
  have h2 := b8_mod (n / 1099511627776)
  have h3 := b8_mod (n / 4294967296)
  have h4 := b8_mod (n / 16777216)
  have h5 := b8_mod (n / 65536)
  have h6 := b8_mod (n / 256)
  have h7 := b8_mod n
  unfold wrap64 at hn
  omega
/-- the first eight bytes -/
theorem baseA_ent (a : ActP) (r : List UInt8) (hk : 0 ≤ a.kind ∧ a.kind < 256) (hn : 0 ≤ a.n ∧ a.n < 65536) (hi : 0 ≤ a.i ∧ a.i < 65536) (ha : 0 ≤ a.at_ ∧ a.at_ < 65536) (hb : 0 ≤ a.by_ ∧ a.by_ < 256) :
    baseA (entBase a ++ r) = ⟨a.kind, a.n, a.i, a.at_, a.by_, ⟨#[]⟩, [], 0, 0, 0, 0, 0, 0, 0, 0, 0⟩ ∧ (nb 1 (entBase a ++ r) : Int) = a.kind ∧ (entBase a ++ r).drop 8 = r := by
  refine ⟨?_, ?_, ?_⟩
  · unfold baseA entBase be2
    simp only [List.cons_append, List.nil_append, List.tail_cons, List.drop_succ_cons, List.drop_zero]
    rw [nb1_b8 _ hk, nb2_be2 _ hn, nb2_be2 _ hi, nb2_be2 _ ha, nb1_b8 _ hb]
  · unfold entBase be2
    simp only [List.cons_append, List.nil_append]
    exact nb1_b8 _ hk _
  · simp [entBase, be2]
end Go.Proofs.YtbohmnblegljkaaDoor
namespace Go.Proofs.YtbohmnblegljkaaDoor
open Go.RowKit Go.Bl
set_option linter.unusedVariables false

def bare (a : ActP) : ActP := ⟨a.kind, a.n, a.i, a.at_, a.by_, ⟨#[]⟩, [], 0, 0, 0, 0, 0, 0, 0, 0, 0⟩
structure Rg (a : ActP) : Prop where
  k : 0 ≤ a.kind ∧ a.kind < 256
  n : 0 ≤ a.n ∧ a.n < 65536
  i : 0 ≤ a.i ∧ a.i < 65536
  at_ : 0 ≤ a.at_ ∧ a.at_ < 65536
  by_ : 0 ≤ a.by_ ∧ a.by_ < 256
theorem drop_ent (a : ActP) (t : List UInt8) (k : Nat) : (entBase a ++ t).drop (8 + k) = t.drop k := by
  rw [← List.drop_drop]
  congr 1
theorem rd_10 (a : ActP) (t : List UInt8) (h : Rg a) (hk : a.kind = 10) : rdAct (entBase a ++ t) = ({ bare a with kept := nb 1 t, torn := nb 1 (t.drop 1), scat := nb 8 (t.drop 2) }, 18) := by
  obtain ⟨h1, h2, h3⟩ := baseA_ent a t h.k h.n h.i h.at_ h.by_
  unfold rdAct
  rw [if_pos (by omega), h1, h3, show (9 : Nat) = 8 + 1 from rfl, drop_ent, show (10 : Nat) = 8 + 2 from rfl, drop_ent]
  rfl
theorem rd_9 (a : ActP) (t : List UInt8) (h : Rg a) (hk : a.kind = 9 ∨ a.kind = 13) : rdAct (entBase a ++ t) = ({ bare a with bytes := (t.drop 2).take (nb 2 t) }, 10 + nb 2 t) := by
  obtain ⟨h1, h2, h3⟩ := baseA_ent a t h.k h.n h.i h.at_ h.by_
  unfold rdAct
  rw [if_neg (by omega), if_neg (by omega), if_pos (by omega), h1, h3]
  have h4 : (entBase a ++ t).drop 10 = t.drop 2 := drop_ent a t 2
  rw [h4]
  rfl
theorem rd_o (a : ActP) (t : List UInt8) (h : Rg a) (h10 : a.kind ≠ 10) (h1' : a.kind ≠ 1) (h9 : a.kind ≠ 9) (h13 : a.kind ≠ 13) : rdAct (entBase a ++ t) = (bare a, 8) := by
  obtain ⟨h1, h2, h3⟩ := baseA_ent a t h.k h.n h.i h.at_ h.by_
  unfold rdAct
  rw [if_neg (by omega), if_neg (by omega), if_neg (by omega), h1]
  rfl
theorem rd_1 (a : ActP) (t : List UInt8) (h : Rg a) (hk : a.kind = 1) (m : Nat) (hm : nb 1 t = m) : rdAct (entBase a ++ t) =
    ({ bare a with name := ⟨((t.drop 1).take m).toArray⟩, p0 := nb 2 (t.drop (1 + m)), p1 := nb 1 (t.drop (1 + m + 2)), p2 := nb 1 (t.drop (1 + m + 3)), p3 := nb 2 (t.drop (1 + m + 4)), p4 := nb 2 (t.drop (1 + m + 6)), p5 := nb 1 (t.drop (1 + m + 8)), bytes := (t.drop (1 + m + 11)).take (nb 2 (t.drop (1 + m + 9))) }, 9 + m + 11 + nb 2 (t.drop (1 + m + 9))) := by
  obtain ⟨h1, h2, h3⟩ := baseA_ent a t h.k h.n h.i h.at_ h.by_
  unfold rdAct parA
  have d : ∀ k, (entBase a ++ t).drop (9 + m + k) = t.drop (1 + m + k) := fun k => by
    rw [show 9 + m + k = 8 + (1 + m + k) by omega, drop_ent]
  have d0 : (entBase a ++ t).drop (9 + m) = t.drop (1 + m) := d 0
  have d9 : (entBase a ++ t).drop 9 = t.drop 1 := drop_ent a t 1
  rw [if_neg (by omega), if_pos (by omega), h1, h3, hm, d9, d0, d, d, d, d, d, d, d]
  rfl

theorem rg_plain (a : ActP) (hk : 0 ≤ a.kind ∧ a.kind ≤ 255) : Rg (plainBase a) := ⟨by simp only [plainBase]; omega, by simp only [plainBase]; omega, by simp only [plainBase]; omega, by simp only [plainBase]; omega, by simp only [plainBase]; omega⟩
/-- WHAT IS WRITTEN IS READ AS ITS PLAIN FORM -/
theorem rdAct_entry (a : ActP) (r : List UInt8) (hk : 0 ≤ a.kind ∧ a.kind ≤ 255) (hs : 0 ≤ a.scat ∧ a.scat < 18446744073709551616) : rdAct (entryL (plainA a) ++ r) = (plainA a, (entryL (plainA a)).length) := by
  have hg := rg_plain a hk
  by_cases h10 : a.kind = 10
  · have hp : plainA a = { plainBase a with kept := a.kept % 256, torn := a.torn % 256, scat := a.scat } := by unfold plainA; rw [if_pos h10]
    have he : entryL (plainA a) = entBase (plainBase a) ++ (b8 (a.kept % 256) :: b8 (a.torn % 256) :: beK 8 (wrap64 a.scat)) := by
      rw [hp]; unfold entryL; rw [if_pos (by exact h10)]; rfl
    rw [he, List.append_assoc, rd_10 (plainBase a) _ hg h10]
    simp only [List.cons_append, List.drop_succ_cons, List.drop_zero]
    rw [nb1_b8 _ (by omega), nb1_b8 _ (by omega), nb8_beK _ a.scat hs rfl, hp]
    simp [bare, plainBase, entBase, be2, beK]
  by_cases h1 : a.kind = 1
  · obtain ⟨nm, hnm⟩ : ∃ nm : ByteArray, a.name.extract 0 (min a.name.size 255) = nm := ⟨_, rfl⟩
    have hm : nm.size ≤ 255 := by rw [← hnm]; simp only [ByteArray.size_extract]; omega
    obtain ⟨B, hB⟩ : ∃ B, a.bytes.take 65535 = B := ⟨_, rfl⟩
    have hl : B.length ≤ 65535 := by rw [← hB]; simp; omega
    have hp : plainA a = { plainBase a with name := nm, p0 := a.p0 % 65536, p1 := a.p1 % 256, p2 := a.p2 % 256, p3 := a.p3 % 65536, p4 := a.p4 % 65536, p5 := a.p5 % 256, bytes := B } := by unfold plainA; rw [if_neg h10, if_pos h1, hnm, hB]
    have he : entryL (plainA a) = entBase (plainBase a) ++ (b8 nm.size :: (nm.data.toList ++ (laidL (a.p0 % 65536) (a.p1 % 256) (a.p2 % 256) (a.p3 % 65536) (a.p4 % 65536) (a.p5 % 256) ++ (be2 B.length ++ B)))) := by
      rw [hp]; unfold entryL; rw [if_neg (by exact h10), if_pos (by exact h1)]; rfl
    obtain ⟨L, hL⟩ : ∃ L, nm.data.toList = L := ⟨_, rfl⟩
    have hLm : L.length = nm.size := by rw [← hL]; simp
    have hback : (⟨L.toArray⟩ : ByteArray) = nm := by rw [← hL]
    rw [hL] at he
    obtain ⟨q, hq⟩ : ∃ q, laidL (a.p0 % 65536) (a.p1 % 256) (a.p2 % 256) (a.p3 % 65536) (a.p4 % 65536) (a.p5 % 256) ++ (be2 B.length ++ B) ++ r = q := ⟨_, rfl⟩
    have ht : entryL (plainA a) ++ r = entBase (plainBase a) ++ (b8 nm.size :: (L ++ q)) := by rw [he, ← hq]; simp
    have hlen : (entryL (plainA a)).length = 9 + nm.size + 11 + B.length := by rw [he]; simp [entBase, be2, laidL, hLm]; omega
    have n0 : nb 1 (b8 nm.size :: (L ++ q)) = nm.size := by
      have := nb1_b8 (nm.size : Int) (by omega) (L ++ q)
      omega
    rw [ht, rd_1 (plainBase a) _ hg h1 nm.size n0, hlen]
    have d : ∀ k, (b8 nm.size :: (L ++ q)).drop (1 + nm.size + k) = q.drop k := fun k => by
      rw [show 1 + nm.size + k = (nm.size + k) + 1 by omega, List.drop_succ_cons, ← hLm, List.drop_length_add_append]
    have d0 : (b8 nm.size :: (L ++ q)).drop (1 + nm.size) = q := by
      have := d 0
      simpa using this
    have d1 : ((b8 nm.size :: (L ++ q)).drop 1).take nm.size = L := by
      rw [List.drop_succ_cons, List.drop_zero, ← hLm, List.take_left]
    rw [d0, d1, d, d, d, d, d, d, d, hback]
    have hqq : q = b8 (a.p0 % 65536 / 256) :: b8 (a.p0 % 65536) :: b8 (a.p1 % 256) :: b8 (a.p2 % 256) :: b8 (a.p3 % 65536 / 256) :: b8 (a.p3 % 65536) :: b8 (a.p4 % 65536 / 256) :: b8 (a.p4 % 65536) :: b8 (a.p5 % 256) :: b8 ((B.length : Int) / 256) :: b8 (B.length : Int) :: (B ++ r) := by
      rw [← hq]; simp [laidL, be2]
    have hn : nb 2 (q.drop 9) = B.length := by
      rw [hqq]
      simp only [List.drop_succ_cons, List.drop_zero]
      have := nb2_be2 (B.length : Int) (by omega) (B ++ r)
      omega
    rw [hn, hqq]
    simp only [List.drop_succ_cons, List.drop_zero]
    rw [nb2_be2 _ (by omega), nb1_b8 _ (by omega), nb1_b8 _ (by omega), nb2_be2 _ (by omega), nb2_be2 _ (by omega), nb1_b8 _ (by omega), List.take_left, hp]
    rfl
  by_cases h9 : a.kind = 9 ∨ a.kind = 13
  · have hp : plainA a = { plainBase a with bytes := a.bytes.take 65535 } := by unfold plainA; rw [if_neg h10, if_neg h1, if_pos h9]
    have he : entryL (plainA a) = entBase (plainBase a) ++ (be2 (a.bytes.take 65535).length ++ a.bytes.take 65535) := by
      rw [hp]; unfold entryL; rw [if_neg (by exact h10), if_neg (by exact h1), if_pos (by exact h9)]; rfl
    have hl : (a.bytes.take 65535).length ≤ 65535 := by simp; omega
    obtain ⟨B, hB⟩ : ∃ B, a.bytes.take 65535 = B := ⟨_, rfl⟩
    rw [hB] at hp he hl
    rw [he, List.append_assoc, rd_9 (plainBase a) _ hg h9]
    have hn : nb 2 (be2 B.length ++ B ++ r) = B.length := by
      have := nb2_be2 (B.length : Int) (by omega) (B ++ r)
      simp only [be2, List.cons_append, List.nil_append]
      omega
    rw [hn, hp]
    simp [bare, plainBase, entBase, be2]
    omega
  · have hp : plainA a = plainBase a := by unfold plainA; rw [if_neg h10, if_neg h1, if_neg h9]
    have he : entryL (plainA a) = entBase (plainBase a) := by
      rw [hp]; unfold entryL; rw [if_neg (by exact h10), if_neg (by exact h1), if_neg (by exact h9)]
    rw [he, rd_o (plainBase a) r hg h10 h1 (fun h => h9 (.inl h)) (fun h => h9 (.inr h)), hp]
    simp [bare, plainBase, entBase, be2]
end Go.Proofs.YtbohmnblegljkaaDoor
namespace Go.Proofs.YtbohmnblegljkaaDoor
open Go.RowKit Go.Bl
set_option linter.unusedVariables false

/-- what a writable act's numbers are -/
def Wr (a : ActP) : Prop := (0 ≤ a.kind ∧ a.kind ≤ 255) ∧ 0 ≤ a.scat ∧ a.scat < 18446744073709551616
theorem acts_encL (l : List ActP) (h : ∀ a ∈ l, Wr a) : acts (encL l) = l.map plainA := by
  induction l with
  | nil => simp [encL, acts_nil]
  | cons a l ih =>
    have ha := h a (by simp)
    have hc : encL (a :: l) = entryL (plainA a) ++ encL l := by simp [encL]
    have hr := rdAct_entry a (encL l) ha.1 ha.2
    have hne : entryL (plainA a) ++ encL l ≠ [] := by
      intro h0
      have h8 := rdAct_pos (entryL (plainA a) ++ encL l)
      rw [hr, (List.append_eq_nil_iff.1 h0).1] at h8
      simp at h8
    rw [hc, acts_cons _ hne, hr, List.drop_left, ih (fun b hb => h b (by simp [hb])), List.map_cons]
theorem plainA_kind (a : ActP) : (plainA a).kind = a.kind := by
  unfold plainA
  split
  · rfl
  · split
    · rfl
    · split <;> rfl
theorem extract_again (s : ByteArray) : (s.extract 0 (min s.size 255)).extract 0 (min (s.extract 0 (min s.size 255)).size 255) = s.extract 0 (min s.size 255) := by
  have h : (s.extract 0 (min s.size 255)).size = min s.size 255 := by simp only [ByteArray.size_extract]; omega
  rw [h, ByteArray.extract_extract]
  congr 1
  omega
theorem plain_10 (a : ActP) (h : a.kind = 10) : plainA a = { plainBase a with kept := a.kept % 256, torn := a.torn % 256, scat := a.scat } := by unfold plainA; rw [if_pos h]
theorem plain_1 (a : ActP) (h : a.kind = 1) : plainA a = { plainBase a with name := a.name.extract 0 (min a.name.size 255), p0 := a.p0 % 65536, p1 := a.p1 % 256, p2 := a.p2 % 256, p3 := a.p3 % 65536, p4 := a.p4 % 65536, p5 := a.p5 % 256, bytes := a.bytes.take 65535 } := by unfold plainA; rw [if_neg (by omega), if_pos h]
theorem plain_9 (a : ActP) (h : a.kind = 9 ∨ a.kind = 13) : plainA a = { plainBase a with bytes := a.bytes.take 65535 } := by unfold plainA; rw [if_neg (by omega), if_neg (by omega), if_pos h]
theorem plain_o (a : ActP) (h10 : a.kind ≠ 10) (h1 : a.kind ≠ 1) (h9 : ¬ (a.kind = 9 ∨ a.kind = 13)) : plainA a = plainBase a := by unfold plainA; rw [if_neg h10, if_neg h1, if_neg h9]
theorem plainA_plain (a : ActP) : plainA (plainA a) = plainA a := by
  have hk := plainA_kind a
  by_cases h10 : a.kind = 10
  · rw [plain_10 (plainA a) (by rw [hk]; exact h10), plain_10 a h10]
    simp only [plainBase, Int.emod_emod_of_dvd _ (Int.dvd_refl _)]
  by_cases h1 : a.kind = 1
  · rw [plain_1 (plainA a) (by rw [hk]; exact h1), plain_1 a h1]
    simp only [plainBase, Int.emod_emod_of_dvd _ (Int.dvd_refl _), extract_again, List.take_take, Nat.min_self]
  by_cases h9 : a.kind = 9 ∨ a.kind = 13
  · rw [plain_9 (plainA a) (by rw [hk]; exact h9), plain_9 a h9]
    simp only [plainBase, Int.emod_emod_of_dvd _ (Int.dvd_refl _), List.take_take, Nat.min_self]
  · rw [plain_o (plainA a) (by rw [hk]; exact h10) (by rw [hk]; exact h1) (by rw [hk]; exact h9), plain_o a h10 h1 h9]
    simp only [plainBase, Int.emod_emod_of_dvd _ (Int.dvd_refl _)]
end Go.Proofs.YtbohmnblegljkaaDoor
namespace Go.Proofs.YtbohmnblegljkaaDoor
open Go.RowKit Go.Bl
set_option linter.unusedVariables false

theorem b8_ext {n m : Int} (h : n % 256 = m % 256) : b8 n = b8 m := by unfold b8; rw [h]
theorem be2_ext {n m : Int} (h : n % 65536 = m % 65536) : be2 n = be2 m := by
  unfold be2
  rw [b8_ext (n := n / 256) (m := m / 256) (by omega), b8_ext (n := n) (m := m) (by omega)]
theorem entBase_plain (a : ActP) : entBase (plainBase a) = entBase a := by
  unfold entBase
  simp only [plainBase]
  rw [be2_ext (n := a.n % 65536) (m := a.n) (by omega), be2_ext (n := a.i % 65536) (m := a.i) (by omega), be2_ext (n := a.at_ % 65536) (m := a.at_) (by omega), b8_ext (n := a.by_ % 256) (m := a.by_) (by omega)]
/-- the document's pieces -/
def refCut (a : ActP) : ByteArray := a.name.extract 0 (min a.name.size 255)
theorem ref_10 (a : ActP) (h : a.kind = 10) : entryL (plainA a) = entBase a ++ ([b8 a.kept, b8 a.torn] ++ beK 8 (wrap64 a.scat)) := by
  rw [plain_10 a h]
  unfold entryL
  rw [if_pos (by exact h)]
  show entBase (plainBase a) ++ _ = _
  rw [entBase_plain]
  show _ ++ ([b8 (a.kept % 256), b8 (a.torn % 256)] ++ _) = _
  rw [b8_ext (n := a.kept % 256) (m := a.kept) (by omega), b8_ext (n := a.torn % 256) (m := a.torn) (by omega)]
theorem ref_9 (a : ActP) (h : a.kind = 9 ∨ a.kind = 13) : entryL (plainA a) = entBase a ++ (be2 (a.bytes.take 65535).length ++ a.bytes.take 65535) := by
  rw [plain_9 a h]
  unfold entryL
  rw [if_neg (by show ¬ a.kind = 10; omega), if_neg (by show ¬ a.kind = 1; omega), if_pos (by exact h)]
  show entBase (plainBase a) ++ _ = _
  rw [entBase_plain]
  rfl
theorem ref_o (a : ActP) (h10 : a.kind ≠ 10) (h1 : a.kind ≠ 1) (h9 : ¬ (a.kind = 9 ∨ a.kind = 13)) : entryL (plainA a) = entBase a := by
  rw [plain_o a h10 h1 h9]
  unfold entryL
  rw [if_neg (by exact h10), if_neg (by exact h1), if_neg (by exact h9), entBase_plain]
theorem laidL_plain (p0 p1 p2 p3 p4 p5 : Int) : laidL (p0 % 65536) (p1 % 256) (p2 % 256) (p3 % 65536) (p4 % 65536) (p5 % 256) = laidL p0 p1 p2 p3 p4 p5 := by
  unfold laidL
  rw [be2_ext (n := p0 % 65536) (m := p0) (by omega), be2_ext (n := p3 % 65536) (m := p3) (by omega), be2_ext (n := p4 % 65536) (m := p4) (by omega), b8_ext (n := p1 % 256) (m := p1) (by omega), b8_ext (n := p2 % 256) (m := p2) (by omega), b8_ext (n := p5 % 256) (m := p5) (by omega)]
theorem ref_1 (a : ActP) (h : a.kind = 1) : entryL (plainA a) = entBase a ++ (b8 (refCut a).size :: ((refCut a).data.toList ++ (laidL a.p0 a.p1 a.p2 a.p3 a.p4 a.p5 ++ (be2 (a.bytes.take 65535).length ++ a.bytes.take 65535)))) := by
  rw [plain_1 a h]
  unfold entryL
  rw [if_neg (by show ¬ a.kind = 10; omega), if_pos (by exact h)]
  show entBase (plainBase a) ++ (b8 (refCut a).size :: ((refCut a).data.toList ++ (laidL (a.p0 % 65536) (a.p1 % 256) (a.p2 % 256) (a.p3 % 65536) (a.p4 % 65536) (a.p5 % 256) ++ _))) = _
  rw [entBase_plain, laidL_plain]
  rfl
end Go.Proofs.YtbohmnblegljkaaDoor
