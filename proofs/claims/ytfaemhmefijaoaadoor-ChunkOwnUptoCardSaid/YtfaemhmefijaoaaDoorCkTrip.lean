/- What is put together is taken apart as it was: lists of numbers alone. -/
import Derived.Test.YtfaemhmefijaoaaDoorCkJoin
namespace Go.Proofs.YtfaemhmefijaoaaDoor
open Go.RowKit

namespace ck
theorem be32_be4 {c : Nat} (_h : c < 4294967296) (t : List Int) : be32 (be4 c ++ t) = c := by
  simp only [be32, be4, List.cons_append, List.nil_append, List.getD_cons_zero, List.getD_cons_succ, Int.toNat_natCast]
  omega
theorem be4_be32 {l : List Int} (hb : sm.Bytes l) (h : 4 ≤ l.length) : be4 (be32 l) = l.take 4 := by
  match l, h with
  | a :: b :: c :: d :: t, _ =>
    have h0 := hb a (by simp)
    have h1 := hb b (by simp)
    have h2 := hb c (by simp)
    have h3 := hb d (by simp)
    simp only [be32, be4, List.getD_cons_zero, List.getD_cons_succ, List.take_succ_cons, List.take_zero, List.cons.injEq, and_true]
    refine ⟨?_, ?_, ?_, ?_⟩ <;> omega
theorem be4_length (c : Nat) : (be4 c).length = 4 := rfl
theorem letters_len {t : List Int} (h : lettersL t = true) : t.length = 4 := by
  unfold lettersL letters4 at h
  rw [Bool.and_eq_true] at h
  have := h.1
  simp only [beq_iff_eq] at this
  rwa [strOfNums_size] at this
/-- a chunk that can be put together and taken apart -/
def Good (c : Ck) : Prop := lettersL c.1 = true ∧ c.2.length < 2147483648 ∧ sm.Bytes c.1 ∧ sm.Bytes c.2
theorem drop4_encode {c : Ck} (t : List Int) : (encode c ++ t).drop 4 = c.1 ++ (c.2 ++ (be4 (sm.crcOn 0 (c.1 ++ c.2)) ++ t)) := by
  unfold encode
  simp only [List.append_assoc]
  exact List.drop_left' (be4_length _)
theorem head_encode {c : Ck} (h : Good c) (t : List Int) : headOk (encode c ++ t) ∧ headCk (encode c ++ t) = c ∧ headRest (encode c ++ t) = t := by
  obtain ⟨hl, h2, b1, b2⟩ := h
  have h1 := letters_len hl
  have hn : be32 (encode c ++ t) = c.2.length := by
    unfold encode
    simp only [List.append_assoc]
    rw [be32_be4 (Nat.mod_lt _ (by decide)), Nat.mod_eq_of_lt (by omega)]
  have hL : (encode c ++ t).length = 12 + c.2.length + t.length := by rw [List.length_append, encode_length, h1]
  have d4 := drop4_encode (c := c) t
  have t4 : ((encode c ++ t).drop 4).take 4 = c.1 := by rw [d4]; exact List.take_left' h1
  have d8 : (encode c ++ t).drop 8 = c.2 ++ (be4 (sm.crcOn 0 (c.1 ++ c.2)) ++ t) := by
    rw [show 8 = 4 + 4 from rfl, ← List.drop_drop, d4]
    exact List.drop_left' h1
  have t8 : ((encode c ++ t).drop 8).take c.2.length = c.2 := by rw [d8]; exact List.take_left' rfl
  have d8n : (encode c ++ t).drop (8 + c.2.length) = be4 (sm.crcOn 0 (c.1 ++ c.2)) ++ t := by
    rw [← List.drop_drop, d8]
    exact List.drop_left' rfl
  have t4n : ((encode c ++ t).drop 4).take (4 + c.2.length) = c.1 ++ c.2 := by
    rw [d4, ← List.append_assoc]
    exact List.take_left' (by rw [List.length_append, h1])
  have d12 : (encode c ++ t).drop (12 + c.2.length) = t := by
    rw [show 12 + c.2.length = 8 + c.2.length + 4 by omega, ← List.drop_drop, d8n]
    exact List.drop_left' (be4_length _)
  refine ⟨⟨by omega, by omega, by omega, by rw [t4]; exact hl, ?_⟩, ?_, ?_⟩
  · rw [hn, t4n, d8n, be32_be4 (sm.crcOn_lt (by decide) (b1.append b2))]
  · unfold headCk
    rw [hn, t4, t8]
  · unfold headRest
    rw [hn, d12]
theorem parse_encode {c : Ck} (h : Good c) (t : List Int) : parse (encode c ++ t) = c :: parse t := by
  obtain ⟨h1, h2, h3⟩ := head_encode h t
  rw [parse_some h1, h2, h3]
theorem parse_flatMap : ∀ (cs : List Ck), (∀ c ∈ cs, Good c) → ∀ t, parse (cs.flatMap encode ++ t) = cs ++ parse t
  | [], _, _ => rfl
  | c :: cs, h, t => by
    rw [List.flatMap_cons, List.append_assoc, parse_encode (h c (by simp)), parse_flatMap cs (fun x hx => h x (by simp [hx]))]
    rfl
theorem okAt_all {cs : List Ck} {j : List Int} (h : join cs = some j) : j = joined cs ∧ cs ≠ [] ∧ ∀ i, i < cs.length → okAt cs i = true := by
  unfold join at h
  split at h
  · rename_i hok
    unfold joinOk at hok
    rw [Bool.and_eq_true, List.all_eq_true] at hok
    exact ⟨(Option.some.inj h).symm, by rintro rfl; simp at hok, fun i hi => hok.2 i (List.mem_range.2 hi)⟩
  · cases h
theorem split_joined {cs : List Ck} {j : List Int} (h : join cs = some j) (hd : ∀ c ∈ cs, c.2.length < 2147483648) (hb : ∀ c ∈ cs, sm.Bytes c.1 ∧ sm.Bytes c.2) (more : List Int) : split (j ++ more) = some cs := by
  obtain ⟨rfl, h0, hok⟩ := okAt_all h
  have hg : ∀ c ∈ cs, Good c := by
    intro c hc
    obtain ⟨i, hi, rfl⟩ := List.mem_iff_getElem.1 hc
    have h1 := hok i hi
    unfold okAt at h1
    rw [List.getElem?_eq_getElem hi] at h1
    simp only [Bool.and_eq_true] at h1
    exact ⟨h1.1, hd _ hc, hb _ hc⟩
  have hend : ∀ i (hi : i < cs.length), cs[i].1 = iend ↔ i + 1 = cs.length := by
    intro i hi
    have h1 := hok i hi
    unfold okAt at h1
    rw [List.getElem?_eq_getElem hi] at h1
    simp only [Bool.and_eq_true, beq_iff_eq, decide_eq_decide] at h1
    exact h1.2
  have hj : joined cs ++ more = sign ++ (cs.flatMap encode ++ more) := by
    unfold joined joinedTo
    rw [List.take_of_length_le (Nat.le_refl _), List.append_assoc]
  unfold split
  rw [hj, if_pos (List.take_left' (show sign.length = 8 from rfl)), List.drop_left' (show sign.length = 8 from rfl), parse_flatMap cs hg]
  obtain ⟨pre, z, rfl⟩ : ∃ pre z, cs = pre ++ [z] := ⟨cs.dropLast, cs.getLast h0, (List.dropLast_concat_getLast h0).symm⟩
  rw [List.append_assoc]
  refine uptoEnd_end (fun c hc => ?_) ?_
  · obtain ⟨i, hi, rfl⟩ := List.mem_iff_getElem.1 hc
    intro he
    have h1 := (hend i (by rw [List.length_append]; simp; omega)).1 (by rw [List.getElem_append_left hi]; exact he)
    rw [List.length_append] at h1
    simp at h1
    omega
  · have h1 := (hend pre.length (by simp)).2 (by simp)
    simpa using h1
/-- and what is taken apart was put together so -/
theorem encode_head {b : List Int} (hb : sm.Bytes b) (h : headOk b) : b = encode (headCk b) ++ headRest b := by
  obtain ⟨h1, h2, h3, h4, h5⟩ := h
  obtain ⟨n, hn⟩ : ∃ n, be32 b = n := ⟨_, rfl⟩
  unfold headCk headRest encode
  rw [hn] at h2 h3 h5 ⊢
  have l1 : ((b.drop 8).take n).length = n := by rw [List.length_take, List.length_drop]; omega
  have e1 : (b.drop 4).take 4 ++ (b.drop 8).take n = (b.drop 4).take (4 + n) := by
    rw [List.take_add, List.drop_drop]
  have e2 : be4 n = b.take 4 := by rw [← hn]; exact be4_be32 hb (by omega)
  have e3 : be4 (sm.crcOn 0 ((b.drop 4).take (4 + n))) = (b.drop (8 + n)).take 4 := by
    rw [h5]
    exact be4_be32 (hb.drop _) (by rw [List.length_drop]; omega)
  simp only [l1]
  rw [Nat.mod_eq_of_lt (by omega), e2]
  simp only [e1, e3]
  rw [List.append_assoc (b.take 4), e1]
  have e4 : (b.drop 4).drop (4 + n) = b.drop (8 + n) := by rw [List.drop_drop]; congr 1; omega
  have e5 : (b.drop (8 + n)).drop 4 = b.drop (12 + n) := by rw [List.drop_drop]; congr 1; omega
  rw [List.append_assoc, ← e5, List.take_append_drop, ← e4, List.append_assoc, List.take_append_drop, List.take_append_drop]
theorem parse_inv : ∀ (pre rest : List Ck) (b : List Int), sm.Bytes b → parse b = pre ++ rest → ∃ t, b = pre.flatMap encode ++ t
  | [], _, b, _, _ => ⟨b, rfl⟩
  | c :: pre, rest, b, hb, h => by
    by_cases hok : headOk b
    · rw [parse_some hok, List.cons_append, List.cons.injEq] at h
      obtain ⟨t, ht⟩ := parse_inv pre rest (headRest b) (hb.drop _) h.2
      refine ⟨t, ?_⟩
      rw [List.flatMap_cons, List.append_assoc, ← ht, ← h.1]
      exact encode_head hb hok
    · rw [parse_none hok] at h
      cases h
theorem uptoEnd_some : ∀ (l cs : List Ck), uptoEnd l = some cs → ∃ rest, l = cs ++ rest
  | [], _, h => by cases h
  | c :: l, cs, h => by
    rw [uptoEnd_cons] at h
    split at h
    · obtain rfl := Option.some.inj h
      exact ⟨l, rfl⟩
    · obtain ⟨cs', h', rfl⟩ := Option.map_eq_some_iff.1 h
      obtain ⟨rest, rfl⟩ := uptoEnd_some l cs' h'
      exact ⟨rest, rfl⟩
theorem split_inv {b : List Int} {cs : List Ck} (hb : sm.Bytes b) (h : split b = some cs) : ∃ t, b = joined cs ++ t := by
  unfold split at h
  split at h
  · rename_i hs
    obtain ⟨rest, hr⟩ := uptoEnd_some _ _ h
    obtain ⟨t, ht⟩ := parse_inv _ _ _ (hb.drop 8) hr
    refine ⟨t, ?_⟩
    unfold joined joinedTo
    rw [List.take_of_length_le (Nat.le_refl _), List.append_assoc, ← ht, ← hs, List.take_append_drop]
  · cases h
/-- a byte that is turned is told -/
theorem split_told {cs : List Ck} {c : List Int} (hb : sm.Bytes c) (hl : c.length = (joined cs).length) (hne : c ≠ joined cs) : split c ≠ some cs := by
  intro h
  obtain ⟨t, ht⟩ := split_inv hb h
  have h1 := congrArg List.length ht
  rw [List.length_append] at h1
  obtain rfl : t = [] := List.eq_nil_of_length_eq_zero (by omega)
  rw [List.append_nil] at ht
  exact hne ht
end ck
end Go.Proofs.YtfaemhmefijaoaaDoor
