/- Chunks, as lists of numbers. -/
import Derived.Test.YtfaemhmefijaoaaDoorCkEnds
namespace Go.Proofs.YtfaemhmefijaoaaDoor
open Go.RowKit

namespace ck
/-- a chunk: its four letters, its bytes -/
abbrev Ck := List Int × List Int
def iend : List Int := [73, 69, 78, 68]
def sign : List Int := [137, 80, 78, 71, 13, 10, 26, 10]
def lettersL (t : List Int) : Bool := letters4 (strOfNums t)
/-- is a chunk there? -/
def headOk (b : List Int) : Prop := 12 ≤ b.length ∧ be32 b < 2147483648 ∧ be32 b + 12 ≤ b.length ∧ lettersL ((b.drop 4).take 4) = true ∧ sm.crcOn 0 ((b.drop 4).take (4 + be32 b)) = be32 (b.drop (8 + be32 b))
instance (b : List Int) : Decidable (headOk b) := by unfold headOk; infer_instance
def headCk (b : List Int) : Ck := ((b.drop 4).take 4, (b.drop 8).take (be32 b))
def headRest (b : List Int) : List Int := b.drop (12 + be32 b)
def parseF : Nat → List Int → List Ck
  | 0, _ => []
  | f + 1, b => if headOk b then headCk b :: parseF f (headRest b) else []
theorem parseF_succ (f : Nat) (b : List Int) : parseF (f + 1) b = if headOk b then headCk b :: parseF f (headRest b) else [] := rfl
def parse (b : List Int) : List Ck := parseF b.length b
theorem rest_lt {b : List Int} (h : headOk b) : (headRest b).length < b.length := by
  unfold headRest
  rw [List.length_drop]
  have := h.1
  omega
theorem parseF_more : ∀ (f g : Nat) (b : List Int), b.length ≤ f → b.length ≤ g → parseF f b = parseF g b
  | 0, g, b, hf, _ => by
    obtain rfl : b = [] := List.length_eq_zero_iff.1 (by omega)
    cases g with
    | zero => rfl
    | succ g => simp [parseF, headOk]
  | f + 1, 0, b, _, hg => by
    obtain rfl : b = [] := List.length_eq_zero_iff.1 (by omega)
    simp [parseF, headOk]
  | f + 1, g + 1, b, hf, hg => by
    rw [parseF_succ, parseF_succ]
    by_cases h : headOk b
    · have := rest_lt h
      rw [if_pos h, if_pos h, parseF_more f g _ (by omega) (by omega)]
    · rw [if_neg h, if_neg h]
theorem parse_some {b : List Int} (h : headOk b) : parse b = headCk b :: parse (headRest b) := by
  have h1 := rest_lt h
  unfold parse
  rw [parseF_more b.length (b.length - 1 + 1) b (Nat.le_refl _) (by omega), parseF_succ, if_pos h, parseF_more (b.length - 1) _ _ (by omega) (Nat.le_refl _)]
theorem parse_none {b : List Int} (h : ¬ headOk b) : parse b = [] := by
  unfold parse
  rw [parseF_more b.length (b.length + 1) b (Nat.le_refl _) (by omega), parseF_succ, if_neg h]
theorem parseF_len : ∀ (f : Nat) (b : List Int), (parseF f b).length ≤ f
  | 0, _ => Nat.le_refl _
  | f + 1, b => by
    rw [parseF_succ]
    split
    · rw [List.length_cons]
      have := parseF_len f (headRest b)
      omega
    · exact Nat.zero_le _
theorem parse_len (b : List Int) : (parse b).length ≤ b.length := parseF_len _ _
theorem parseF_mem : ∀ (f : Nat) {b : List Int}, sm.Bytes b → ∀ c ∈ parseF f b, c.1.length = 4 ∧ lettersL c.1 = true ∧ c.2.length < 2147483648 ∧ sm.Bytes c.1 ∧ sm.Bytes c.2
  | 0, _, _, c, h => by cases h
  | f + 1, b, hb, c, h => by
    rw [parseF_succ] at h
    split at h
    · rename_i hok
      rcases List.mem_cons.1 h with rfl | h
      · obtain ⟨h1, h2, h3, h4, h5⟩ := hok
        refine ⟨?_, h4, ?_, (hb.drop 4).take 4, (hb.drop 8).take _⟩
        · simp only [headCk, List.length_take, List.length_drop]; omega
        · simp only [headCk, List.length_take, List.length_drop]; omega
      · exact parseF_mem f (b := headRest b) (hb.drop _) c h
    · cases h
theorem parse_mem {b : List Int} (hb : sm.Bytes b) : ∀ c ∈ parse b, c.1.length = 4 ∧ lettersL c.1 = true ∧ c.2.length < 2147483648 ∧ sm.Bytes c.1 ∧ sm.Bytes c.2 := parseF_mem _ hb
theorem iend_bytes : sm.Bytes iend := by unfold sm.Bytes iend; decide
theorem iend_eq {t : List Int} (ht : sm.Bytes t) : ((strOfNums t).toList == [73, 69, 78, 68]) = decide (t = iend) := by
  rw [← nums_eq ht iend_bytes, ByteArray.toList_eq (strOfNums iend)]
  rfl
/-- up to the end's chunk -/
def uptoEnd : List Ck → Option (List Ck)
  | [] => none
  | c :: l => if c.1 = iend then some [c] else (uptoEnd l).map (c :: ·)
theorem uptoEnd_cons (c : Ck) (l : List Ck) : uptoEnd (c :: l) = if c.1 = iend then some [c] else (uptoEnd l).map (c :: ·) := rfl
def split (b : List Int) : Option (List Ck) := if b.take 8 = sign then uptoEnd (parse (b.drop 8)) else none
theorem uptoEnd_append {l m : List Ck} (h : ∀ c ∈ l, c.1 ≠ iend) : uptoEnd (l ++ m) = (uptoEnd m).map (l ++ ·) := by
  induction l with
  | nil => rw [List.nil_append]; cases uptoEnd m <;> rfl
  | cons c l ih =>
    rw [List.cons_append, uptoEnd_cons, if_neg (h c (by simp)), ih (fun x hx => h x (by simp [hx]))]
    cases uptoEnd m <;> rfl
theorem uptoEnd_end {l m : List Ck} {c : Ck} (h : ∀ c ∈ l, c.1 ≠ iend) (hc : c.1 = iend) : uptoEnd (l ++ c :: m) = some (l ++ [c]) := by
  rw [uptoEnd_append h, uptoEnd_cons, if_pos hc]
  rfl
theorem uptoEnd_none {l : List Ck} (h : ∀ c ∈ l, c.1 ≠ iend) : uptoEnd l = none := by
  have := uptoEnd_append (m := []) h
  rw [List.append_nil] at this
  rw [this]
  rfl
end ck
end Go.Proofs.YtfaemhmefijaoaaDoor
