/- ChunkSplits: the law's walk. -/
import Derived.Test.YtfaemhmefijaoaaDoorCkRefSp
import Derived.Test.YtfaemhmefijaoaaDoorCkSame
import Derived.Test.YtfaemhmefijaoaaDoorCkChunks
import Derived.Test.YtfaemhmefijaoaaDoorCkTrip
import Derived.Test.YtfaemhmefijaoaaDoorCkLaw0
import Derived.SizedLaws
namespace Go.Proofs.YtfaemhmefijaoaaDoor
open Go.RowKit Go.Sort

theorem ck.Rd.nil (w : World) : ck.Rd w none 0 0 [] := ⟨rfl, Nat.le_refl _, Nat.zero_le _, fun _ => rfl, .inl rfl, (fun _ h => nomatch h), (fun _ h => nomatch h)⟩
theorem split_good {bs : List Int} (hb : sm.Bytes bs) {cs : List ck.Ck} (h : ck.split bs = some cs) : ∀ c ∈ cs, c.1.length = 4 ∧ ck.lettersL c.1 = true ∧ c.2.length < 2147483648 ∧ sm.Bytes c.1 ∧ sm.Bytes c.2 := by
  unfold ck.split at h
  split at h
  · obtain ⟨rest, hr⟩ := ck.uptoEnd_some _ _ h
    intro c hc
    exact ck.parse_mem (hb.drop 8) c (by rw [hr]; exact List.mem_append_left _ hc)
  · cases h
def ck.errOf (r : Option (List ck.Ck)) : Int := match r with
  | none => 9
  | some _ => 0
/-- what Split answers, to be read -/
theorem SplitPost.rd {bs : List Int} (hb : sm.Bytes bs) {w : World} {e : Ending} {w' : World} (h : SplitPost (ck.split bs) w e w') :
    ∃ a n c ls, e = .returned (.tuple #[.slice a n c, .int .i64 (ck.errOf (ck.split bs))]) ∧ ck.Rd w' a n c ls ∧ ls.map (·.ck) = (ck.split bs).getD [] ∧ Below w.heap.size w w' := by
  unfold SplitPost at h
  split at h
  · rename_i hr
    obtain ⟨rfl, h2⟩ := h
    exact ⟨none, 0, 0, [], by rw [hr]; rfl, ck.Rd.nil _, by rw [hr]; rfl, h2⟩
  · rename_i cs hr
    obtain ⟨v, xs, rfl, h2, h3, h4⟩ := h
    have hg := split_good hb hr
    have hx : ∀ x ∈ xs, x.ck ∈ cs := fun x hx => by rw [← h3]; exact List.mem_map_of_mem hx
    obtain ⟨a, c, rfl, h5⟩ := h2.rd (fun x h => (hg _ (hx x h)).2.2.2.2) (fun x h => by
      rw [strOfNums_size]
      have : x.t.length = 4 := (hg _ (hx x h)).1
      rw [this]
      decide)
    refine ⟨a, _, c, _, by rw [hr]; rfl, h5, ?_, h4⟩
    rw [hr, List.map_map, ← h3]
    refine List.map_congr_left fun x h => ?_
    simp only [Function.comp, ck.El.arg, ck.Arg.ck, ck.El.ck]
    rw [ck.bytesOf_strOf (show sm.Bytes x.t from (hg _ (hx x h)).2.2.2.1)]

set_option maxRecDepth 100000 in
set_option maxHeartbeats 1600000 in
theorem chunkSplits_walk (a : Option Addr) (n cap : Nat) (l : List Int) (w : World) (h : Sl .u8 w a n cap l) (hz : cap ≤ 1048576) :
    Calls Tryd.prog 3 #[.slice a n cap] w (Same8Post true w) := by
  have hn : n ≤ 1048576 := Nat.le_trans h.fits hz
  have HS := Lib.hid h
  have HBY := Lib.hid h.bytes
  clear h hz
  go_enter Tryd.func3, Tryd.ntmps3
  go_wp2_with fail
  refine (wakes_any _).mono ?_
  rintro e w1 ⟨rfl, hb1⟩
  have HB1 := Lib.hid hb1
  have HS1 := Lib.hid (HS.out.below hb1)
  clear hb1
  go_wp2_with fail
  refine (own8_any _ _ _ _ _ HS1.out (by omega)).mono ?_
  rintro e w2 ⟨g2, c2, rfl, hs2, _, hb⟩
  have HS2 := Lib.hid hs2
  have HSa := Lib.hid (HS1.out.below hb)
  have HB2 := Lib.hid (HB1.out.trans (hb.mono HB1.out.size))
  clear hs2 hb
  go_wp2_with fail
  refine (split_any g2 0 n c2 l _ HS2.out (by omega)).mono ?_
  intro e w3 h3
  obtain ⟨a3, n3, c3, ls3, rfl, hrd, hls, hb⟩ := h3.rd HBY.out
  obtain ⟨E, hE⟩ : ∃ E, ck.errOf (ck.split l) = E := ⟨_, rfl⟩
  have HE := Lib.hid hE
  rw [hE]
  have HR3 := Lib.hid hrd
  have HL3 := Lib.hid hls
  have HSb := Lib.hid (HSa.out.below hb)
  have HB3 := Lib.hid (HB2.out.trans (hb.mono HB2.out.size))
  clear h3 hrd hls hb hE
  go_wp2_with fail
  refine (refsplit_any _ _ _ _ _ HSb.out (by omega)).mono ?_
  intro e w4 h4
  obtain ⟨a4, n4, c4, ls4, rfl, hrd, hls, hb⟩ := h4.rd HBY.out
  rw [HE.out]
  have HR4 := Lib.hid hrd
  have HL4 := Lib.hid hls
  have HR3b := Lib.hid (HR3.out.below hb)
  have HB4 := Lib.hid (HB3.out.trans (hb.mono HB3.out.size))
  clear h4 hrd hls hb
  go_wp2_with fail
  refine (sameChunks_any _ _ _ _ _ _ _ _ _ HR3b.out HR4.out).mono ?_
  rw [decide_eq_true (HL3.out.trans HL4.out.symm)]
  rintro e w5 ⟨rfl, hb⟩
  have HB5 := Lib.hid (HB4.out.trans (hb.mono HB4.out.size))
  clear hb
  have hee : (E == E) = true := by simp
  go_wp2_with fail
  go_ret
  exact ⟨rfl, HB5.out⟩
end Go.Proofs.YtfaemhmefijaoaaDoor
