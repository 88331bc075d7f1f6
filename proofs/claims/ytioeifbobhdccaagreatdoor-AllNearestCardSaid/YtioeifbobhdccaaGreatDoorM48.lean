/- pnm: the samples of a red pixel. -/
import Derived.Test.YtioeifbobhdccaaGreatDoorM47
import Derived.Test.YtioeifbobhdccaaGreatDoorM12
import Derived.Test.YtioeifbobhdccaaGreatDoorM43
import Derived.Shelf.Bytes.WriteByteKept
import Derived.Shelf.Bytes.WriteStringKept
namespace Go.Proofs.YtioeifbobhdccaaGreatDoor
open Go.RowKit Go.Sort Go.Shelf
attribute [local go_sem] Oper.semAt_some
set_option maxRecDepth 100000 in
theorem samp1_any (v : Int) (hv : 0 ≤ v ∧ v ≤ 65535) (tb : Nat) (w : World) (hc : w.cell? ⟨tb, 0, none⟩ = some (.int .i64 255)) :
    Calls Tryz.prog 76 #[.int .u16 v, .pointer (some ⟨tb, 0, none⟩)] w fun e w' => e = .returned (.int .i64 (tm.downV v 255)) ∧ w = w' := by
  have CD := Lib.hid (down_any v 255 w hv)
  obtain ⟨x, hx⟩ : ∃ x, tm.downV v 255 = x := ⟨_, rfl⟩
  rw [hx] at CD ⊢
  clear hx
  go_enter Tryz.func76, Tryz.ntmps76
  go_wp2_with fail
  refine CD.out.mono ?_
  rintro e w1 ⟨rfl, rfl⟩
  go_wp2_with fail
  go_ret
  exact ⟨rfl, rfl⟩
theorem samp1_grown (v : Int) (hv : 0 ≤ v ∧ v ≤ 65535) (tb : Nat) (w : World) (hc : w.cell? ⟨tb, 0, none⟩ = some (.int .i64 255)) (d : Nat) (os : Array Obj) : Calls Tryz.prog 76 #[.int .u16 v, .pointer (some ⟨tb, 0, none⟩)] (grow (redrawn w d) os) fun e w'' => e = .returned (.int .i64 (tm.downV v 255)) ∧ ∃ p : Regrown, w'' = grow (redrawn w p.d) p.os :=
  (samp1_any v hv tb _ (cell_regrown hc d os)).mono (by rintro e w' ⟨rfl, rfl⟩; exact ⟨rfl, ⟨d, os⟩, rfl⟩)
def SampPost (w : World) (e : Ending) (w' : World) : Prop := ∃ b, e = .returned (.slice (some ⟨b, 0, none⟩) 3 3) ∧ w'.heap[b]? = some (.cells #[.int .i64 255, .int .i64 0, .int .i64 0] 3 (0, 0)) ∧ w.heap.size ≤ b ∧ Below w.heap.size w w'
set_option maxRecDepth 100000 in
set_option maxHeartbeats 800000 in
theorem samples_red (w : World) : Calls Tryz.prog 44 #[.agg #[.int .u16 65535, .int .u16 0, .int .u16 0, .int .u16 65535], .int .i64 6, .int .i64 255] w (SampPost w) := by
  obtain ⟨q0, q1⟩ := heap2 w (.cells #[.int .u16 65535, .int .u16 0, .int .u16 0, .int .u16 65535] 38) (.cells #[.int .i64 255] 3)
  have B0 := Lib.hid (((Below.refl w.heap.size w).alloc (Nat.le_refl _) (.cells #[.int .u16 65535, .int .u16 0, .int .u16 0, .int .u16 65535] 38)).alloc (by simp) (.cells #[.int .i64 255] 3))
  have Q0 := Lib.hid q0
  have Q1 := Lib.hid q1
  clear q0 q1
  go_enter Tryz.func44, Tryz.ntmps44
  go_upto_region 11 with (fail)
  generalize (w.alloc (.cells #[.int .u16 65535, .int .u16 0, .int .u16 0, .int .u16 65535] 38)).alloc (.cells #[.int .i64 255] 3) = w1 at *
  have a0 := cell_regrown ((cell_of_row w1 _ 0 _ _ (0, 0) Q0.out).trans (show _ = some (Value.int .u16 65535) from rfl))
  have a1 := cell_regrown ((cell_of_row w1 _ 1 _ _ (0, 0) Q0.out).trans (show _ = some (Value.int .u16 0) from rfl))
  have a2 := cell_regrown ((cell_of_row w1 _ 2 _ _ (0, 0) Q0.out).trans (show _ = some (Value.int .u16 0) from rfl))
  have ct := (cell_of_row w1 _ 0 _ _ (0, 0) Q1.out).trans (show _ = some (Value.int .i64 255) from rfl)
  have C0 := Lib.hid (fun d os => samp1_grown 65535 (by omega) _ w1 ct d os)
  have C1 := Lib.hid (fun d os => samp1_grown 0 (by omega) _ w1 ct d os)
  rw [show tm.downV 65535 255 = 255 from rfl] at C0
  rw [show tm.downV 0 255 = 0 from rfl] at C1
  clear ct
  refine wp_region_quiet_tail 12 (by kernel_rfl) (by kernel_rfl) ?_
  simp only [List.take_succ_cons, List.take_zero, List.drop_succ_cons, List.drop_zero]
  go_big_quiet_step (fail)
  go_big_quiet_step (fail)
  go_big_quiet_step (fail)
  go_big_quiet_step (exact C0.out _ _)
  go_big_quiet_step (fail)
  go_big_quiet_step (fail)
  go_big_quiet_step (fail)
  go_big_quiet_step (exact C1.out _ _)
  go_big_quiet_step (fail)
  go_big_quiet_step (fail)
  go_big_quiet_step (fail)
  go_big_quiet_step (exact C1.out _ _)
  refine wpQuiet_nil ?_
  intro _ hw'
  obtain ⟨⟨dq, osq⟩, hw''⟩ := hw'
  subst hw''
  have hb := below_regrown w1 dq osq
  clear a0 a1 a2
  generalize grow (redrawn w1 dq) osq = w4 at *
  have HB4 := Lib.hid (B0.out.trans (hb.mono B0.out.size))
  clear hb
  go_wp2_with fail
  go_ret
  exact ⟨w4.heap.size, rfl, heap_alloc_new _ _, HB4.out.size, HB4.out.alloc HB4.out.size _⟩
end Go.Proofs.YtioeifbobhdccaaGreatDoor
/- pnm: a line of one red pixel, written. -/
namespace Go.Proofs.YtioeifbobhdccaaGreatDoor
open Go.RowKit Go.Sort Go.Shelf
theorem lit.wbyteK (B b : Nat) (bs : List Value) (c : Int) (w : World) (h : Lib.IsBuffer 90 5 B b bs w) (hBw : B ≤ w.heap.size) (h1 : ∀ v ∈ bs, v.oneCell' = true) (hlim : bs.length + 1 ≤ 140737488355328) :
    Calls Tryz.prog 78 #[.pointer (some ⟨b, 0, none⟩), .int .u8 c] w fun e w' => e = .returned .nilIface ∧ Lib.IsBuffer 90 5 B b (bs ++ [.int .u8 c]) w' ∧ Below B w w' ∧ Lib.OthersKept 5 (some b) w w' := Any.Buffer_WriteByte_kept lit.laysM179 B b bs c w h hBw h1 hlim
theorem lit.wstrK (B b : Nat) (bs : List Value) (s : ByteArray) (w : World) (h : Lib.IsBuffer 90 5 B b bs w) (hBw : B ≤ w.heap.size) (h1 : ∀ v ∈ bs, v.oneCell' = true) (hlim : bs.length + s.size ≤ 140737488355328) :
    Calls Tryz.prog 41 #[.pointer (some ⟨b, 0, none⟩), .string s] w fun e w' => e = .returned (.tuple #[.int .i64 s.size, .nilIface]) ∧ Lib.IsBuffer 90 5 B b (bs ++ Lib.byteCells s.data.toList) w' ∧ Below B w w' ∧ Lib.OthersKept 5 (some b) w w' := Any.Buffer_WriteString_kept lit.laysM178 B b bs s w h hBw h1 hlim
def lit.red : List Int := [255, 0, 0]
def lit.redB (k : Nat) : List Value := (lit.red.take k).map (Value.int .u8)
theorem lit.redB_one (k : Nat) : ∀ v ∈ lit.redB k, v.oneCell' = true := by
  intro v hv
  obtain ⟨x, _, rfl⟩ := List.mem_map.1 hv
  rfl
theorem lit.one_app {a b : List Value} (h : ∀ v ∈ a, v.oneCell' = true) (k : ∀ v ∈ b, v.oneCell' = true) : ∀ v ∈ a ++ b, v.oneCell' = true := by
  intro v hv
  rcases List.mem_append.1 hv with h' | h'
  · exact h v h'
  · exact k v h'
theorem lit.redB_succ {k : Nat} (hk : k < 3) : lit.redB (k + 1) = lit.redB k ++ [.int .u8 (lit.red.getD k 0)] := by
  have : k = 0 ∨ k = 1 ∨ k = 2 := by omega
  rcases this with rfl | rfl | rfl <;> rfl
theorem lit.red_range (k : Nat) : 0 ≤ lit.red.getD k 0 ∧ lit.red.getD k 0 ≤ 255 := by
  match k with
  | 0 => decide
  | 1 => decide
  | 2 => decide
  | k + 3 => exact ⟨by simp [lit.red], by simp [lit.red]⟩
def LinePost (B bb : Nat) (bs : List Value) (w : World) (e : Ending) (w' : World) : Prop :=
  e = .returned (.tuple #[]) ∧ Lib.IsBuffer 90 5 B bb (bs ++ lit.redB 3) w' ∧ Below B w w' ∧ Lib.OthersKept 5 (some bb) w w'
set_option maxRecDepth 100000 in
set_option maxHeartbeats 800000 in
theorem line_red (B bb lb lc : Nat) (bs : List Value) (cs : Array Value) (w : World) (h : Lib.IsBuffer 90 5 B bb bs w) (hBw : B ≤ w.heap.size) (h1 : ∀ v ∈ bs, v.oneCell' = true) (hbl : bs.length ≤ 1000)
    (hl : w.heap[lb]? = some (.cells cs 3 (0, 0))) (hcs : ∀ k, k < 3 → cs[k]? = some (.int .i64 (lit.red.getD k 0))) (hlc : 3 ≤ lc) :
    Calls Tryz.prog 45 #[.pointer (some ⟨bb, 0, none⟩), .slice (some ⟨lb, 0, none⟩) 3 lc, .int .i64 6, .int .i64 255] w (LinePost B bb bs w) := by
  have HH := Lib.hid h
  have H1 := Lib.hid h1
  have HL := Lib.hid hl
  have HCS := Lib.hid hcs
  have hlb : lb ≠ bb := by
    obtain ⟨_, v, lr, hb, _⟩ := h
    intro e
    rw [e, hb] at hl
    cases hl
  clear h h1 hl hcs
  go_enter Tryz.func45, Tryz.ntmps45
  go_wp2_with fail
  go_loopg [8, 13] 3 (fun gk s8 s13 wr => ∃ k : Nat, k ≤ 3 ∧ gk = 3 - k ∧ s8 = .int .u8 0 ∧ s13 = .int .i64 (k : Nat) ∧ Lib.IsBuffer 90 5 B bb (bs ++ lit.redB k) wr ∧ Below B w wr ∧ Lib.OthersKept 5 (some bb) w wr)
  case atStart => exact ⟨0, by omega, rfl, rfl, by go_num, by rw [show lit.redB 0 = [] from rfl, List.append_nil]; exact HH.out, Below.refl _ _, Lib.OthersKept.refl _ _ _⟩
  case round =>
    obtain ⟨k, hk, hgk, rfl, rfl, hi, hb, ho⟩ := hrel
    have Hg := Lib.hid hgk
    have HI := Lib.hid hi
    have HB := Lib.hid hb
    have HO := Lib.hid ho
    have hl2 := ho lb _ HL.out (by intro e; exact hlb (Option.some.inj e)) (by intro c fz e; cases e)
    have hsz := hb.size
    clear hgk hi hb ho
    by_cases hlt : k < 3
    · have hki : (k : Int) < 3 := by omega
      have kc := (cell_of_row wr lb k _ _ (0, 0) hl2).trans (HCS.out k hlt)
      have hrr := lit.red_range k
      have HSU := Lib.hid (lit.redB_succ hlt)
      obtain ⟨x, hx⟩ : ∃ x, lit.red.getD k 0 = x := ⟨_, rfl⟩
      rw [hx] at kc hrr HSU
      have hkc : ¬ lc = k := by omega
      obtain ⟨hx0, hx1⟩ := hrr
      have hbk : (bs ++ lit.redB k).length + 1 ≤ 140737488355328 := by
        have : (lit.redB k).length ≤ 3 := by unfold lit.redB; rw [List.length_map]; exact List.length_take_le' _ _
        rw [List.length_append]
        omega
      have KW := Lib.hid (lit.wbyteK B bb (bs ++ lit.redB k) x wr HI.out (by omega) (lit.one_app H1.out (lit.redB_one k)) hbk)
      clear hl2 hx
      go_wp2_with fail
      refine KW.out.mono ?_
      rintro e w1 ⟨rfl, hi1, hb1, ho1⟩
      rw [List.append_assoc, ← HSU.out] at hi1
      have HI1 := Lib.hid hi1
      have HB1 := Lib.hid (HB.out.trans hb1)
      have HO1 := Lib.hid (HO.out.trans ho1)
      clear hi1 hb1 ho1 KW kc
      go_wp2_with fail
      go_roundg (3 - (k + 1))
      case measure => have := Hg.out; omega
      case rel => exact ⟨k + 1, by omega, rfl, rfl, by go_num, HI1.out, HB1.out, HO1.out⟩
    · obtain rfl : k = 3 := by omega
      go_wp2_with fail
      refine bodyPost_end (results_none rfl _ _ _) rfl ?_
      exact ⟨rfl, HI.out, HB.out, HO.out⟩
end Go.Proofs.YtioeifbobhdccaaGreatDoor
