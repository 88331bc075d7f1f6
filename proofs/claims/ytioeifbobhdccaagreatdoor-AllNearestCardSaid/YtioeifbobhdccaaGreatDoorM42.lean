/- What gif.Encode writes gif.Decode reads back: the two contracts joined; the law's plain facts. -/
import Derived.Test.YtioeifbobhdccaaGreatDoorM39
import Derived.Test.YtioeifbobhdccaaGreatDoorM41
import Derived.Test.YtioeifbobhdccaaGreatDoorM7
import Derived.Test.YtioeifbobhdccaaGreatDoorM19
namespace Go.Proofs.YtioeifbobhdccaaGreatDoor
open Go.RowKit Go.Sort
theorem bits_le {T : List (Nat × Nat)} (h : lz.Fits T) : (lz.bitsOfAll false T).length ≤ 12 * T.length := by
  induction T with
  | nil => simp [lz.bitsOfAll]
  | cons q r ih =>
    obtain ⟨c, n⟩ := q
    have h1 := ih (fun x hx => h x (List.mem_cons_of_mem _ hx))
    have h2 := (h (c, n) List.mem_cons_self).2
    rw [lz.bitsOfAll_cons, List.length_append, bt.bitsOf_length, List.length_cons]
    dsimp only at h2
    omega
theorem blk_length : ∀ (ps : List (List Int)), (∀ p ∈ ps, 1 ≤ p.length) → (blkBytes ps).length ≤ 2 * ps.flatten.length
  | [], _ => by simp [blkBytes]
  | p :: r, h => by
    have h1 := blk_length r (fun x hx => h x (List.mem_cons_of_mem _ hx))
    have h2 := h p List.mem_cons_self
    rw [blkBytes_cons]
    simp only [List.length_cons, List.length_append, List.flatten_cons]
    omega
theorem gifFile_length (W H sz : Nat) (g : Bool) (P0 : List C4) (d : List Int) (hs : sz ≤ 8) : 0 < (gifFile W H sz g P0 d).length ∧ (gifFile W H sz g P0 d).length ≤ 1000 + 2 * d.length := by
  have hm : 2 ^ sz ≤ 2 ^ 8 := Nat.pow_le_pow_right (by decide) hs
  have hb := blk_length (pieces d) (fun p hp => (pieces_ok d p hp).1)
  rw [pieces_flat] at hb
  rw [gifFile_form]
  unfold decL decT picBytes gifExt
  simp only [List.length_cons, List.length_append, palBytes_length]
  split
  · simp only [List.length_cons, List.length_append, List.length_nil]
    omega
  · simp only [List.length_cons, List.length_append, List.length_nil]
    omega
theorem zero_ok : C4.zero.ok := by
  unfold C4.ok
  decide
theorem palB_bytes {P : List C4} (h : ∀ c ∈ P, c.ok) (i : Nat) : sm.Bytes (palB P i) := by
  have key : ∀ j, (P.getD j C4.zero).ok := by
    intro j
    rw [List.getD_eq_getElem?_getD]
    rcases Nat.lt_or_ge j P.length with hj | hj
    · rw [List.getElem?_eq_getElem hj]
      exact h _ (List.getElem_mem hj)
    · rw [List.getElem?_eq_none hj]
      exact zero_ok
  obtain ⟨c, hc, e⟩ : ∃ c : C4, c.ok ∧ palB P i = [c.r / 256, c.g / 256, c.b / 256] := by
    refine ⟨if i < P.length ∧ (P.getD i C4.zero).a ≠ 0 then P.getD i C4.zero else P.getD 0 C4.zero, ?_, rfl⟩
    split
    · exact key i
    · exact key 0
  intro x hx
  rw [e] at hx
  unfold C4.ok at hc
  simp at hx
  rcases hx with rfl | rfl | rfl <;> omega
theorem encP_ok {P0 : List C4} (g : Bool) (h8 : all8 P0) : ∀ c ∈ encP g P0, c.ok := by
  intro c hc
  unfold encP at hc
  split at hc
  · rcases List.mem_append.1 hc with h | h
    · exact h8.ok c h
    · rw [List.mem_singleton.1 h]
      exact zero_ok
  · exact h8.ok c hc
theorem bytes_list {a : List Int} (h : a.all (fun x => decide (0 ≤ x ∧ x < 256)) = true) : sm.Bytes a := fun x hx => by
  have := List.all_eq_true.1 h x hx
  exact of_decide_eq_true this
theorem gifFile_bytes (W H sz : Nat) (g : Bool) {P0 : List C4} (L : List Bool) (h8 : all8 P0) (hP : 1 ≤ (encP g P0).length ∧ (encP g P0).length ≤ 256) (hW : W ≤ 4096) (hH : H ≤ 4096) (hs : sz ≤ 8) : sm.Bytes (gifFile W H sz g P0 (bt.bytes false L)) := by
  have h2 : ∀ v : Nat, v ≤ 4096 → sm.Bytes (two v) := fun v hv => two_bytes v (by omega)
  have hpal : sm.Bytes (palBytes (encP g P0) (2 ^ sz)) := by
    intro x hx
    obtain ⟨i, _, hx⟩ := List.mem_flatMap.1 hx
    exact palB_bytes (encP_ok g h8) i x hx
  have hsub : sm.Bytes (subs (bt.bytes false L) (((bt.bytes false L).length + 254) / 255)) := by
    intro x hx
    obtain ⟨i, _, hx⟩ := List.mem_flatMap.1 hx
    rcases List.mem_cons.1 hx with rfl | hx
    · have : (subAt (bt.bytes false L) i).length ≤ 255 := by
        unfold subAt
        rw [List.length_take]
        omega
      omega
    · unfold subAt at hx
      exact bt.bytes_range false L x (List.mem_of_mem_drop (List.mem_of_mem_take hx))
  have hcl : sm.Bytes (gifClear g (encP g P0).length) := by
    intro x hx
    unfold gifClear at hx
    split at hx
    · simp at hx
      omega
    · simp at hx
  have hhead : sm.Bytes (gifHead W H sz (encP g P0)) := by
    unfold gifHead
    refine sm.Bytes.append (sm.Bytes.append (sm.Bytes.append (sm.Bytes.append (bytes_list (by decide)) (h2 W hW)) (h2 H hH)) ?_) hpal
    intro x hx
    simp at hx
    omega
  unfold gifFile
  refine sm.Bytes.append (sm.Bytes.append (sm.Bytes.append (sm.Bytes.append (sm.Bytes.append (sm.Bytes.append (sm.Bytes.append hhead hcl) (bytes_list (by decide))) (h2 W hW)) (h2 H hH)) ?_) hsub) (bytes_list (by decide))
  intro x hx
  simp at hx
  omega
theorem gifFile_decode (W H N sz : Nat) (l : List Int) (P0 : List C4) (T : List (Nat × Nat)) (b n cap : Nat) (w : World) (hW : 1 ≤ W ∧ W ≤ 4096) (hH : 1 ≤ H ∧ H ≤ 4096) (hN : N = W * H) (hN6 : N ≤ 65536)
    (hP : 1 ≤ (encP (goneB l N) P0).length ∧ (encP (goneB l N) P0).length ≤ 256) (hne : (∃ k, k < N ∧ 32768 ≤ (pix l k).a) → P0 ≠ []) (hs : 1 ≤ sz ∧ sz ≤ 8 ∧ (encP (goneB l N) P0).length ≤ 2 ^ sz) (hT : lz.Tells (gifK (max sz 2)) T (encX P0 l N)) (hTn : T.length ≤ 2 * N + 3)
    (h : Sl .u8 w (some ⟨b, 0, none⟩) n cap (gifFile W H sz (goneB l N) P0 (bt.bytes false (lz.bitsOfAll false T)))) :
    Calls Tryz.prog 8 #[.slice (some ⟨b, 0, none⟩) n cap, .int .i64 (N : Nat)] w (gif.DecPost W H N ((List.range (2 ^ sz)).map (palC (encP (goneB l N) P0))) (clearOf (goneB l N) (encP (goneB l N) P0).length) (encX P0 l N) w) := by
  have hd : (bt.bytes false (lz.bitsOfAll false T)).length ≤ 250000 := by
    obtain ⟨T0, st, _, _, _, hf⟩ := hT
    have := bits_le hf
    rw [bt.bytes_length]
    omega
  have hl := gifFile_length W H sz (goneB l N) P0 (bt.bytes false (lz.bitsOfAll false T)) hs.2.1
  have hn : n ≤ 4194304 := by
    have := h.len
    omega
  rw [gifFile_form] at h
  refine decode_any b n cap W H sz (max sz 2) N (goneB l N) (encP (goneB l N) P0) (pieces (bt.bytes false (lz.bitsOfAll false T))) w h hn ⟨hs.1, hs.2.1⟩ hP hW hH hN hN6 (by omega) (pieces_ok _) T (encX P0 l N) hT (encX_length _ _ _) (pieces_flat _) (by rw [pieces_flat]; omega) ?_
  intro x hx
  obtain ⟨c, hc, rfl⟩ := List.mem_map.1 hx
  obtain ⟨k, hk, rfl⟩ := cols_mem.1 hc
  have h1 := encIdx_range P0 (pix l k) (fun ha => hne ⟨k, hk, ha⟩)
  have h2 : encIdx P0 (pix l k) < ((encP (goneB l N) P0).length : Nat) := by
    by_cases ha : 32768 ≤ (pix l k).a
    · have := h1.2.2 ha
      unfold encP
      split
      · simp; omega
      · exact this
    · have hg : goneB l N = true := by
        cases h : goneB l N with
        | true => rfl
        | false => have := goneB_false h hk; omega
      rw [hg]
      unfold encP
      rw [if_pos rfl]
      simp
      omega
  have h3 := hs.2.2
  exact ⟨h1.1, by omega⟩
/-! ### the law's facts -/
theorem encPix_length (P0 : List C4) (l : List Int) (N sz : Nat) : (encPix P0 l N sz).length = 4 * N := by
  unfold encPix
  rw [picPix_length, encX_length]
theorem encPix_u16s {P0 : List C4} (h8 : all8 P0) (l : List Int) (N sz : Nat) (hne : (∃ k, k < N ∧ 32768 ≤ (pix l k).a) → P0 ≠ []) (hsz : (encP (goneB l N) P0).length ≤ 2 ^ sz) : u16s (encPix P0 l N sz) := by
  intro x hx
  obtain ⟨j, hj, rfl⟩ := List.mem_iff_getElem.1 hx
  have hl := encPix_length P0 l N sz
  have hk : j / 4 < N := by omega
  have hok : (pix (encPix P0 l N sz) (j / 4)).ok := by
    rcases enc_mem h8 l N sz hne hsz hk with h | h
    · rw [h]
      exact zero_ok
    · exact h8.ok _ h
  have e : (encPix P0 l N sz)[j] = (encPix P0 l N sz).getD j 0 := by rw [List.getD_eq_getElem?_getD, List.getElem?_eq_getElem hj]; rfl
  rw [e]
  unfold C4.ok pix at hok
  dsimp only at hok
  rcases (show j % 4 = 0 ∨ j % 4 = 1 ∨ j % 4 = 2 ∨ j % 4 = 3 by omega) with h | h | h | h
  · rw [show j = 4 * (j / 4) by omega]
    exact hok.1
  · rw [show j = 4 * (j / 4) + 1 by omega]
    exact hok.2.1
  · rw [show j = 4 * (j / 4) + 2 by omega]
    exact hok.2.2.1
  · rw [show j = 4 * (j / 4) + 3 by omega]
    exact hok.2.2.2
/-- the distinct colours of the decoded image -/
def DistOf (P0 : List C4) (l : List Int) (N sz : Nat) (cs : List C4) : Prop := cs.Nodup ∧ ∀ c, c ∈ cs ↔ ∃ k, k < N ∧ pix (encPix P0 l N sz) k = c
theorem used_sub {P0 cs : List C4} {l : List Int} {N sz : Nat} (h8 : all8 P0) (hne : (∃ k, k < N ∧ 32768 ≤ (pix l k).a) → P0 ≠ []) (hsz : (encP (goneB l N) P0).length ≤ 2 ^ sz) (hd : DistOf P0 l N sz cs) : ∀ d ∈ solids cs, d ∈ P0 :=
  solids_sub fun c hc => by
    obtain ⟨k, hk, rfl⟩ := (hd.2 c).1 hc
    exact enc_mem h8 l N sz hne hsz hk
theorem solids_nodup {cs : List C4} (h : cs.Nodup) : (solids cs).Nodup := h.filter _
theorem used_facts {P0 cs : List C4} {l : List Int} {N sz : Nat} (h8 : all8 P0) (hne : (∃ k, k < N ∧ 32768 ≤ (pix l k).a) → P0 ≠ []) (hsz : (encP (goneB l N) P0).length ≤ 2 ^ sz) (hp : (encP (goneB l N) P0).length ≤ 256) (hd : DistOf P0 l N sz cs) :
    (solids cs).length ≤ 256 ∧ all8 (solids cs) := by
  have hs := used_sub h8 hne hsz hd
  refine ⟨?_, fun c hc => h8 c (hs c hc)⟩
  have h1 := nodup_le _ _ (solids_nodup hd.1) hs
  have h2 : P0.length ≤ (encP (goneB l N) P0).length := by
    unfold encP
    split
    · simp
    · exact Nat.le_refl _
  omega
/-- the image that Back makes of the nearest of the used colours -/
abbrev backPix (u : List C4) (l : List Int) (N : Nat) : List Int := imgOf u (idxs u (-1) (cols l N))
theorem law_clear (P0 : List C4) (l : List Int) (N sz : Nat) {k : Nat} (hk : k < N) (hc : (pix l k).a < 32768) : (encPix P0 l N sz).getD (4 * k + 3) 0 = 0 := by
  have := enc_clear P0 l N sz hk hc
  exact congrArg C4.a this
theorem law_solid {P0 cs : List C4} {l : List Int} {N sz : Nat} (h8 : all8 P0) (hne : (∃ k, k < N ∧ 32768 ≤ (pix l k).a) → P0 ≠ []) (hsz : (encP (goneB l N) P0).length ≤ 2 ^ sz) (hd : DistOf P0 l N sz cs) {k : Nat} (hk : k < N) (hc : 32768 ≤ (pix l k).a) :
    (encPix P0 l N sz).getD (4 * k + 3) 0 = 65535 ∧ offS l (encPix P0 l N sz) (4 * k) 3 = offS l (backPix (solids cs) l N) (4 * k) 3 := by
  have hp := hne ⟨k, hk, hc⟩
  have he := enc_solid h8 l N sz hp hsz hk hc
  obtain ⟨hm, hi⟩ := near_mem (pix l k).eight hp
  have ha := (h8 _ hm).2.2.2
  refine ⟨(congrArg C4.a he).trans ha, ?_⟩
  rw [offS_far, offS_far, he, imgOf_pix _ _ _ (by rw [idxs_length]; simpa [cols] using hk), idxs_get _ _ hk]
  have hz : idxOf (solids cs) (-1) (pix l k) = near (solids cs) (pix l k).eight (solids cs).length := by
    unfold idxOf
    rw [if_neg (by omega)]
  rw [hz]
  refine (near_sub _ (used_sub h8 hne hsz hd) ?_).symm
  refine List.mem_filter.2 ⟨(hd.2 _).2 ⟨k, hk, he⟩, ?_⟩
  rw [ha]
  decide
end Go.Proofs.YtioeifbobhdccaaGreatDoor
/- gif.Encode of no good image. -/
namespace Go.Proofs.YtioeifbobhdccaaGreatDoor
open Go.RowKit Go.Sort
set_option maxRecDepth 100000 in
theorem encode_bad (W H : Int) (p : Option Addr) (n cap : Nat) (w : World) (hg : ¬ imgGood W H n) :
    Calls Tryz.prog 5 #[.agg #[.int .i64 W, .int .i64 H, .slice p n cap]] w fun e w' => e = .returned (.tuple #[.slice none 0 0, .int .i64 6]) ∧ Below w.heap.size w w' := by
  have CGd := Lib.hid (fun w => good_any W H p n cap w)
  rw [goodB_false hg] at CGd
  have q0 := heap_alloc_new w (.cells #[.int .i64 W, .int .i64 H, .slice p n cap] 24 (0, 0))
  have B0 := Lib.hid ((Below.refl w.heap.size w).alloc (Nat.le_refl _) (.cells #[.int .i64 W, .int .i64 H, .slice p n cap] 24))
  clear hg
  refine (callsIn_wide (n := 6)).1 (callsIn_of_wp_marks Tryz.func5 rfl trivial ?_ rfl)
  simp only [Tryz.ntmps5, List.size_toArray, List.length_cons, List.length_nil, Nat.reduceAdd, Nat.reduceSub, Array.replicate_succ, Array.replicate_zero, List.push_toArray, List.append_toArray, List.nil_append, List.cons_append]
  refine wpIn_wide.2 ?_
  go_upto_region 1 with (fail)
  generalize w.alloc (.cells #[.int .i64 W, .int .i64 H, .slice p n cap] 24) = w0 at *
  have c0 := (cell_of_row w0 _ 0 _ _ (0, 0) q0).trans (show _ = some (Value.int .i64 W) from rfl)
  have c1 := (cell_of_row w0 _ 1 _ _ (0, 0) q0).trans (show _ = some (Value.int .i64 H) from rfl)
  have c2 := (cell_of_row w0 _ 2 _ _ (0, 0) q0).trans (show _ = some (Value.slice p n cap) from rfl)
  clear q0
  go_wp2_with fail
  refine (CGd.out w0).mono ?_
  rintro e w1 ⟨rfl, hb1⟩
  have HB1 := Lib.hid (B0.out.trans (hb1.mono B0.out.size))
  clear c0 c1 c2 hb1 CGd B0
  go_wp2_with fail
  have hpost : Ending.returned (.tuple #[.slice none 0 0, .int .i64 6]) = .returned (.tuple #[.slice none 0 0, .int .i64 6]) ∧ Below w.heap.size w w1 := ⟨rfl, HB1.out⟩
  exact ⟨_, results_tmp2 (t := 2) (u := 3) rfl _ _ _, hpost⟩
end Go.Proofs.YtioeifbobhdccaaGreatDoor
