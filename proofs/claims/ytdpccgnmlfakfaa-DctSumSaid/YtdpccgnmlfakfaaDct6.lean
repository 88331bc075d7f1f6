/- The walks of Forward and Inverse. -/
import Derived.Test.YtdpccgnmlfakfaaDct5
namespace Go.Proofs.Ytdpccgnmlfakfaa
open Go.RowKit

theorem Fresh.mono {k : IntKind} {t : TypeId} {base base' : Nat} {w' : World} {v : Value} {n : Nat} {l : List Int} (h : Fresh k t base' w' v n l) (hb : base ≤ base') : Fresh k t base w' v n l := by
  obtain ⟨g, c, rfl, h2, h3, h4⟩ := h
  refine ⟨g, c, rfl, Nat.le_trans hb h2, h3, ?_⟩
  rcases h4 with ⟨h, _⟩ | ⟨g', c', cur, h5, h6, h7⟩
  · cases h
  · exact .inr ⟨g', c', cur, h5, Nat.le_trans hb h6, h7⟩

/-- what a function answers that makes 'n' numbers, or an error: 'l' where the error is 0 -/
def AnsPost (n : Nat) (l : List Int) (er : Int) (w : World) (e : Ending) (w' : World) : Prop :=
  ((er ≠ 0 ∧ e = .returned (.tuple #[.slice none 0 0, .int .i64 er])) ∨ (er = 0 ∧ ∃ v, e = .returned (.tuple #[v, .int .i64 0]) ∧ Fresh .i64 3 w.heap.size w' v n l)) ∧ Below w.heap.size w w'

set_option maxRecDepth 100000 in
set_option maxHeartbeats 800000 in
theorem forward_any (a : Option Addr) (n cap : Nat) (l : List Int) (w : World) (hn : l.length = n) (hm : n ≤ maxLen) (hr : Rd .i64 w a l) :
    Calls Try.prog 10 #[.slice a n cap] w fun e w' => AnsPost 64 (dm.fwd l) (dm.fitE l (-32768) 32767) w e w' := by
  have HF := Lib.hid (fit_any a n cap l (-32768) 32767 w hn hm hr)
  by_cases h0 : dm.fitE l (-32768) 32767 = 0
  · obtain ⟨hl, hw⟩ := dm.fitE_zero h0
    obtain rfl : n = 64 := by omega
    have HB := Lib.hid (fun (wx : World) (hb : Below w.heap.size w wx) => both_same a cap l dm.basL wx hl (by decide +kernel) dm.bas_within (fun x hx => by have := hw x hx; constructor <;> omega) (hr.below hb))
    have H0 := Lib.hid h0
    rw [h0]
    rw [h0] at HF
    clear hn hm hr hl hw h0
    go_enter Try.func10, Try.ntmps10
    go_wp2_with fail
    go_must (refine HF.out.mono ?_)
    rintro e wx ⟨rfl, rfl⟩
    go_wp2_with fail
    go_must (refine (basis_any _).mono ?_)
    rintro e w1 ⟨rfl, hb1⟩
    have B1 := Lib.hid hb1
    clear hb1
    go_wp2_with fail
    go_must (refine (HB.out w1 B1.out).mono ?_)
    rintro e w2 ⟨v, rfl, hv, hb2⟩
    have V2 := Lib.hid hv
    have B2 := Lib.hid (B1.out.trans (hb2.mono B1.out.size))
    have Z := Lib.hid (B1.out.size)
    clear hv hb2
    go_wp2_with fail
    go_ret2
    exact ⟨.inr ⟨rfl, v, rfl, V2.out.mono Z.out⟩, B2.out⟩
  · have H0 := Lib.hid h0
    obtain ⟨er, her⟩ : ∃ er, er = dm.fitE l (-32768) 32767 := ⟨_, rfl⟩
    rw [← her] at H0 HF h0 ⊢
    clear hn hm hr her
    go_enter Try.func10, Try.ntmps10
    go_wp2_with fail
    go_must (refine HF.out.mono ?_)
    rintro e wx ⟨rfl, rfl⟩
    go_wp2_with fail
    go_ret2
    exact ⟨.inl ⟨H0.out, rfl⟩, Below.refl _ _⟩

set_option maxRecDepth 100000 in
set_option maxHeartbeats 800000 in
theorem inverse_any (a : Option Addr) (n cap : Nat) (l : List Int) (w : World) (hn : l.length = n) (hm : n ≤ maxLen) (hr : Rd .i64 w a l) :
    Calls Try.prog 13 #[.slice a n cap] w fun e w' => AnsPost 64 (dm.inv l) (dm.fitE l (-1048576) 1048576) w e w' := by
  have HF := Lib.hid (fit_any a n cap l (-1048576) 1048576 w hn hm hr)
  by_cases h0 : dm.fitE l (-1048576) 1048576 = 0
  · obtain ⟨hl, hw⟩ := dm.fitE_zero h0
    obtain rfl : n = 64 := by omega
    have HB := Lib.hid (fun (wx : World) (hb : Below w.heap.size w wx) => both_clamp a cap l dm.basT wx hl (by decide +kernel) dm.basT_within (fun x hx => by have := hw x hx; constructor <;> omega) (hr.below hb))
    have H0 := Lib.hid h0
    rw [h0]
    rw [h0] at HF
    clear hn hm hr hl hw h0
    go_enter Try.func13, Try.ntmps13
    go_wp2_with fail
    go_must (refine HF.out.mono ?_)
    rintro e wx ⟨rfl, rfl⟩
    go_wp2_with fail
    go_must (refine (basis_any _).mono ?_)
    rintro e w1 ⟨rfl, hb1⟩
    have B1 := Lib.hid hb1
    clear hb1
    go_wp2_with fail
    go_must (refine (aside_any dm.basL (by decide +kernel) _).mono ?_)
    rintro e w2 ⟨rfl, hb2⟩
    have B0 := B1
    have B1 := Lib.hid (B0.out.trans (hb2.mono B0.out.size))
    have HB' := HB.out w2 B1.out
    rw [← dm.aside_bas] at HB'
    have HC := Lib.hid HB'
    clear hb2 HB'
    go_wp2_with fail
    go_must (refine HC.out.mono ?_)
    rintro e w3 ⟨v, rfl, hv, hb2⟩
    have V2 := Lib.hid hv
    have B2 := Lib.hid (B1.out.trans (hb2.mono B1.out.size))
    have Z := Lib.hid (B1.out.size)
    clear hv hb2
    go_wp2_with fail
    go_ret2
    exact ⟨.inr ⟨rfl, v, rfl, V2.out.mono Z.out⟩, B2.out⟩
  · have H0 := Lib.hid h0
    obtain ⟨er, her⟩ : ∃ er, er = dm.fitE l (-1048576) 1048576 := ⟨_, rfl⟩
    rw [← her] at H0 HF h0 ⊢
    clear hn hm hr her
    go_enter Try.func13, Try.ntmps13
    go_wp2_with fail
    go_must (refine HF.out.mono ?_)
    rintro e wx ⟨rfl, rfl⟩
    go_wp2_with fail
    go_ret2
    exact ⟨.inl ⟨H0.out, rfl⟩, Below.refl _ _⟩
end Go.Proofs.Ytdpccgnmlfakfaa

