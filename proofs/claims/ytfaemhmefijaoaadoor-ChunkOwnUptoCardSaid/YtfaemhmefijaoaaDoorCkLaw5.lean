/- ChunkJoins: the law's walk. -/
import Derived.Test.YtfaemhmefijaoaaDoorCkLaw4
import Derived.Test.YtfaemhmefijaoaaDoorFrameC
namespace Go.Proofs.YtfaemhmefijaoaaDoor
open Go.RowKit Go.Sort

theorem ck.Rd.bytes {w : World} {p : Option Addr} {n cap : Nat} {ls : List ck.Arg} (h : ck.Rd w p n cap ls) : ∀ c ∈ ls.map (·.ck), sm.Bytes c.1 ∧ sm.Bytes c.2 := by
  intro c hc
  obtain ⟨x, hx, rfl⟩ := List.mem_map.1 hc
  exact ⟨ck.bytesOf_bytes _, (h.data x hx).bytes⟩
/-- chunks, its answer to be read -/
theorem chunks_rd (p : Option Addr) (n cap : Nat) (ls : List ck.Arg) (w : World) (h : ck.Rd w p n cap ls) (hn : n ≤ 1048576) (hx : ∀ x ∈ ls, x.n ≤ 140737488355328) :
    Calls Tryd.prog 16 #[.slice p n cap] w fun e w' => ∃ a c xs, e = .returned (.slice a n c) ∧ ck.At w.heap.size w' (.slice a n c) xs ∧ ck.Rd w' a n c (xs.map (·.arg)) ∧ (xs.map (·.arg)).map (·.ck) = ls.map (·.ck) ∧ Below w.heap.size w w' := by
  refine (chunks_any p n cap ls w h hn hx).mono ?_
  rintro e w' ⟨v, xs, rfl, hat, h1, h2, hb⟩
  have hlen : xs.length = n := by
    have := congrArg List.length h2
    rw [List.length_map, List.length_map, h.len] at this
    exact this
  have hd : ∀ x ∈ xs, sm.Bytes x.d := fun x hx => by
    have h3 : x.d ∈ ls.map (·.d) := by rw [← h2]; exact List.mem_map_of_mem hx
    obtain ⟨y, hy, he⟩ := List.mem_map.1 h3
    rw [← he]
    exact (h.data y hy).bytes
  have ht : ∀ x ∈ xs, (strOfNums x.t).size ≤ maxLen := fun x hx => by
    have h3 : x.arg.s ∈ ls.map (·.s) := by rw [← h1]; exact List.mem_map_of_mem hx
    obtain ⟨y, hy, he⟩ := List.mem_map.1 h3
    have h4 := h.names y hy
    rw [he] at h4
    exact h4
  obtain ⟨a, c, rfl, hr⟩ := hat.rd hd ht
  rw [hlen] at hat hr
  refine ⟨a, c, xs, by rw [hlen], hat, hr, ?_, hb⟩
  have e1 : (xs.map (·.arg)).map (·.ck) = List.zipWith (fun s d => (ck.bytesOf s, d)) (xs.map (·.arg.s)) (xs.map (·.d)) := by
    rw [List.zipWith_map, List.zipWith_self, List.map_map]
    rfl
  have e2 : ls.map (·.ck) = List.zipWith (fun s d => (ck.bytesOf s, d)) (ls.map (·.s)) (ls.map (·.d)) := by
    rw [List.zipWith_map, List.zipWith_self]
    rfl
  rw [e1, e2, h1, h2]

set_option maxRecDepth 100000 in
set_option maxHeartbeats 3200000 in
theorem chunkJoins_walk (p : Option Addr) (m cm : Nat) (ls : List ck.Arg) (a : Option Addr) (n cap : Nat) (l : List Int) (w : World) (hr : ck.Rd w p m cm ls) (hcm : cm ≤ 1048576) (hsm : ck.Small ls) (h : Sl .u8 w a n cap l) (hz : cap ≤ 1048576) :
    Calls Tryd.prog 4 #[.slice p m cm, .slice a n cap] w (Same8Post true w) := by
  have hn : n ≤ 1048576 := Nat.le_trans h.fits hz
  have hm : m ≤ 1048576 := Nat.le_trans hr.fits hcm
  have HS := Lib.hid h
  have HR := Lib.hid hr
  have HBY := Lib.hid hr.bytes
  have HX : Hid (∀ x ∈ ls, x.n ≤ 140737488355328) := Lib.hid (fun x hx => Nat.le_trans (hsm.1 x hx) (by decide))
  have HDL : Hid (∀ c ∈ ls.map (·.ck), c.2.length < 2147483648) := Lib.hid (by
    intro c hc
    obtain ⟨x, hx, rfl⟩ := List.mem_map.1 hc
    have h1 := hsm.1 x hx
    have h2 := (hr.data x hx).len
    show x.d.length < 2147483648
    omega)
  obtain ⟨cs, hcs⟩ : ∃ cs, ls.map (·.ck) = cs := ⟨_, rfl⟩
  have HJL : Hid ((ck.joined cs).length ≤ 4194304) := Lib.hid (by rw [← hcs]; exact hsm.2)
  have HCS := Lib.hid hcs
  rw [hcs] at HBY HDL
  clear h hz hr hcm hsm hcs
  go_enter Tryd.func4, Tryd.ntmps4
  go_wp2_with fail
  refine (wakes_any _).mono ?_
  rintro e w1 ⟨rfl, hb1⟩
  have HB1 := Lib.hid hb1
  have HS1 := Lib.hid (HS.out.below hb1)
  have HR1 := Lib.hid (HR.out.below hb1)
  clear hb1
  go_wp2_with fail
  refine (chunks_rd _ _ _ _ _ HR1.out hm HX.out).mono ?_
  rintro e w2 ⟨a2, c2, xs, rfl, _, hrd, hck, hb⟩
  obtain ⟨ls2, hls2⟩ : ∃ z, xs.map (·.arg) = z := ⟨_, rfl⟩
  rw [hls2, HCS.out] at hck
  rw [hls2] at hrd
  have HR2 := Lib.hid hrd
  have HC2 := Lib.hid hck
  have HSa := Lib.hid (HS1.out.below hb)
  have HRa := Lib.hid (HR1.out.below hb)
  have HB2 := Lib.hid (HB1.out.trans (hb.mono HB1.out.size))
  clear hrd hck hb hls2
  go_wp2_with fail
  refine (join_any _ _ _ _ _ HR2.out (by rw [HC2.out]; exact Nat.le_trans HJL.out (by decide))).mono ?_
  rw [HC2.out]
  intro e w3 h3
  cases hj : ck.join cs with
  | none =>
    rw [hj] at h3
    obtain ⟨rfl, hb⟩ := h3
    have HJ := Lib.hid hj
    have HRb := Lib.hid (HRa.out.below hb)
    have HB3 := Lib.hid (HB2.out.trans (hb.mono HB2.out.size))
    clear hb hj
    go_wp2_with fail
    refine (refjoin_any _ _ _ _ _ HRb.out (by rw [HCS.out]; exact Nat.le_trans HJL.out (by decide))).mono ?_
    rw [HCS.out, HJ.out]
    rintro e w4 ⟨rfl, hb⟩
    have HB4 := Lib.hid (HB3.out.trans (hb.mono HB3.out.size))
    clear hb
    go_wp2_with fail
    refine (same8_any none none 0 0 0 0 [] [] _ Sl.nil Sl.nil).mono ?_
    rw [decide_eq_true rfl]
    rintro e w5 ⟨rfl, hb⟩
    have HB5 := Lib.hid (HB4.out.trans (hb.mono HB4.out.size))
    clear hb
    go_wp2_with fail
    go_ret
    exact ⟨rfl, HB5.out⟩
  | some j =>
    rw [hj] at h3
    obtain ⟨v3, rfl, hrow, hb⟩ := h3
    have HJ := Lib.hid hj
    obtain ⟨hje, _, _⟩ := ck.okAt_all hj
    have HJB : Hid (sm.Bytes j) := Lib.hid (by rw [hje]; exact ck.joinedTo_bytes HBY.out _)
    have hjl : j.length ≤ 4194304 := by rw [hje]; exact HJL.out
    have hjp : 8 ≤ j.length := by
      rw [hje]
      unfold ck.joined ck.joinedTo
      rw [List.length_append]
      exact Nat.le_add_right _ _
    obtain ⟨a3, c3, rfl, hs3, _⟩ := own_sl hrow HJB.out
    have HS3 := Lib.hid hs3
    have HSb := Lib.hid (HSa.out.below hb)
    have HRb := Lib.hid (HRa.out.below hb)
    have HB3 := Lib.hid (HB2.out.trans (hb.mono HB2.out.size))
    clear hb hj hje hrow hs3
    go_wp2_with fail
    refine (refjoin_any _ _ _ _ _ HRb.out (by rw [HCS.out]; exact Nat.le_trans HJL.out (by decide))).mono ?_
    rw [HCS.out, HJ.out]
    rintro e w4 ⟨v4, rfl, hrow, hb⟩
    obtain ⟨a4, c4, rfl, hs4, _⟩ := own_sl hrow HJB.out
    have HS4 := Lib.hid hs4
    have HS3b := Lib.hid (HS3.out.below hb)
    have HSc := Lib.hid (HSb.out.below hb)
    have HRc := Lib.hid (HRb.out.below hb)
    have HB4 := Lib.hid (HB3.out.trans (hb.mono HB3.out.size))
    clear hb hrow hs4
    go_wp2_with fail
    refine (same8_any _ _ _ _ _ _ _ _ _ HS3b.out HS4.out).mono ?_
    rw [decide_eq_true rfl]
    rintro e w5 ⟨rfl, hb⟩
    have HB5 := Lib.hid (HB4.out.trans (hb.mono HB4.out.size))
    have HS5 := Lib.hid (HS3b.out.below hb)
    have HSd := Lib.hid (HSc.out.below hb)
    have HRd := Lib.hid (HRc.out.below hb)
    clear hb
    go_wp2_with fail
    refine (own8_any _ _ _ _ _ HS5.out (by omega)).mono ?_
    rintro e w6 ⟨g6, c6, rfl, hs6, hrow, hb⟩
    have HO6 := Lib.hid hrow
    have HSe := Lib.hid (HSd.out.below hb)
    have HRe := Lib.hid (HRd.out.below hb)
    have HB6 := Lib.hid (HB5.out.trans (hb.mono HB5.out.size))
    have HZ6 := Lib.hid hb.size
    clear hb hrow hs6
    have HMB : Hid (sm.Bytes l) := Lib.hid HS.out.bytes
    go_wp2_with (at_builtin; go_must (refine wpList_of_append rfl (.tmp 37) (.tmp 38) 22 22 rfl (run_append_sl _ _ w5.heap.size (.slice (some ⟨g6, 0, none⟩) j.length c6) j.length j HO6.out a n cap l HSe.out (by omega) HZ6.out) ?_; rintro v7 w7 ⟨ho7, hg7⟩; obtain ⟨g7, c7, rfl, _⟩ := own_form ho7 (by omega); have HS7 := Lib.hid (Fresh.sl ho7 (wf_of_bytes (HJB.out.append HMB.out))); have HB7 := Lib.hid (HB6.out.grown hg7 HB6.out.size (fun j e => Nat.le_trans HB5.out.size (World.ownsRow.lt HO6.out j e).1)); clear ho7 hg7))
    refine (split_any g7 0 (j.length + n) c7 (j ++ l) _ HS7.out (by omega)).mono ?_
    have hsp := ck.split_joined HJ.out HDL.out HBY.out l
    have HSP := Lib.hid hsp
    intro e w8 h8
    obtain ⟨a8, n8, c8, ls8, rfl, hrd, hls, hb⟩ := h8.rd (HJB.out.append HMB.out)
    rw [hsp] at hls
    rw [hsp]
    have HR8 := Lib.hid hrd
    have HL8 : Hid (ls8.map (·.ck) = cs) := Lib.hid hls
    have HB8 := Lib.hid (HB7.out.trans (hb.mono HB7.out.size))
    have HR0 := Lib.hid (HR.out.below HB8.out)
    clear hrd hls hb hsp h8
    simp only [ck.errOf]
    go_wp2_with fail
    refine (sameChunks_any _ _ _ _ _ _ _ _ _ HR8.out HR0.out).mono ?_
    rw [decide_eq_true (HL8.out.trans HCS.out.symm)]
    rintro e w9 ⟨rfl, hb⟩
    have HB9 := Lib.hid (HB8.out.trans (hb.mono HB8.out.size))
    clear hb
    go_wp2_with fail
    go_ret
    exact ⟨rfl, HB9.out⟩
end Go.Proofs.YtfaemhmefijaoaaDoor
