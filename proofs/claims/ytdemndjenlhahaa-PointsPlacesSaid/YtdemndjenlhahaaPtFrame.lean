/- The frame's own lemmas for a colour at a place. -/
import Derived.Test.YtdemndjenlhahaaFrame
import Derived.Test.YtdemndjenlhahaaPtMath2
import Derived.Lib.SmallJoins
namespace Go.Proofs.Ytdemndjenlhahaa
open Go.ChangeShapes Go.WideShapes Go.ChangeAt Go.RowKit Go.Joins

theorem cells_color : Try.prog.cellsOf 33 = 4 := by kernel_rfl
theorem wf_u16_range {x : Int} (h : (Lit.int .u16 x).wf = true) : 0 ≤ x ∧ x ≤ 65535 := by
  simp [Lit.wf, IntKind.min, IntKind.max, IntKind.bits, IntKind.signed] at h
  omega
theorem open_at {H : Type} {enc : TypeId × Value → H} {W : World} {b0 : Nat} {v : Value} {d : DataW H} {p : List MemPlace}
    (hv : Value.okWide Try.prog W .any b0 35 v) (h : DataW.Trod enc Try.prog W 0 (fun _ => true) true 35 v d p) :
    ∃ (c : C4) (x y wd : Int), c.ok ∧ v = .agg #[.int .u16 c.r, .int .u16 c.g, .int .u16 c.b, .int .u16 c.a, .int .i64 x, .int .i64 y, .int .i64 wd] := by
  obtain ⟨cs, rfl, hsz⟩ := okWide_struct Try.underlying35 hv
  have h7 : Try.prog.cellsOf 35 = 7 := by kernel_rfl
  have qi : Try.prog.cellsOf 3 = 1 := by kernel_rfl
  have qu : Try.prog.cellsOf 31 = 1 := by kernel_rfl
  obtain ⟨l⟩ := cs
  match l, hsz.trans h7 with
  | [c0, c1, c2, c3, c4, c5, c6], _ =>
    obtain ⟨fuel, hf⟩ := h
    obtain ⟨y0, y1, y2, y3, n, _, _, t0, t1, t2, t3⟩ := trod_struct4 Try.underlying35 hf
    obtain ⟨z0, z1, z2, z3, m, _, _, s0, s1, s2, s3⟩ := trod_struct4 Try.underlying33 t0
    obtain ⟨r, e0, _, w0⟩ := DataW.trod_int Try.underlying31 s0
    obtain ⟨g, e1, _, w1⟩ := DataW.trod_int Try.underlying31 s1
    obtain ⟨b, e2, _, w2⟩ := DataW.trod_int Try.underlying31 s2
    obtain ⟨a, e3, _, w3⟩ := DataW.trod_int Try.underlying31 s3
    obtain ⟨x, e4, _, _⟩ := DataW.trod_int Try.underlying3 t1
    obtain ⟨y, e5, _, _⟩ := DataW.trod_int Try.underlying3 t2
    obtain ⟨wd, e6, _, _⟩ := DataW.trod_int Try.underlying3 t3
    simp only [qu, qi, cells_color] at e0 e1 e2 e3 e4 e5 e6
    simp [Value.cells] at e0 e1 e2 e3 e4 e5 e6
    subst e0 e1 e2 e3 e4 e5 e6
    exact ⟨⟨r, g, b, a⟩, x, y, wd, ⟨wf_u16_range w0, wf_u16_range w1, wf_u16_range w2, wf_u16_range w3⟩, rfl⟩
end Go.Proofs.Ytdemndjenlhahaa
