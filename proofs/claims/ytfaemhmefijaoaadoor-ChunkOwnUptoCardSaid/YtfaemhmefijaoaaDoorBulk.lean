/- What the bound of an '..UptoSaid' gives: a slice's places are at most its bulk, a part's bulk at most the whole's. -/
import Derived.Test.YtfaemhmefijaoaaDoorRows
namespace Go.Proofs.YtfaemhmefijaoaaDoor.bulks

theorem pos {H : Type} (d : DataW H) : 1 ≤ Rows.uptoBulk d := by
  cases d <;> try simp [Rows.uptoBulk]
  rename_i l
  cases l <;> simp [Rows.uptoBulk]
theorem count {H : Type} : ∀ l : List (DataW H), l.length ≤ Rows.uptoBulkAll l
  | [] => by simp [Rows.uptoBulkAll]
  | d :: r => by
    have h1 := pos d
    have h2 := count r
    simp only [Rows.uptoBulkAll, List.length_cons]
    omega
theorem slice_le {H : Type} (es sp : List (DataW H)) : es.length + sp.length + 1 ≤ Rows.uptoBulk (.slice es sp) := by
  have h1 := count es
  have h2 := count sp
  simp only [Rows.uptoBulk]
  omega
theorem part_le {H : Type} {d : DataW H} : ∀ {l : List (DataW H)}, d ∈ l → Rows.uptoBulk d ≤ Rows.uptoBulkAll l
  | x :: r, h => by
    simp only [Rows.uptoBulkAll]
    rcases List.mem_cons.1 h with rfl | h
    · omega
    · have := part_le h
      omega
end Go.Proofs.YtfaemhmefijaoaaDoor.bulks
