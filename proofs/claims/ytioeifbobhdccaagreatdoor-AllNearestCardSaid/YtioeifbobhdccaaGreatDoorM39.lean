/- How far two images' colours are from one another at a pixel. -/
import Derived.Test.YtioeifbobhdccaaGreatDoorM13
import Derived.Test.YtioeifbobhdccaaGreatDoorM38
import Derived.Test.YtioeifbobhdccaaGreatDoorM30
namespace Go.Proofs.YtioeifbobhdccaaGreatDoor
open Go.RowKit Go.Sort
set_option maxRecDepth 100000 in
theorem whole_any (v : Int) (hv : 0 ≤ v ∧ v ≤ 65535) (w : World) : Calls Tryz.prog 39 #[.int .u16 v] w fun e w' => e = .returned (.int .u16 (e8 v)) ∧ w' = w := by
  have he : e8 v = 257 * ((v * 255 + 32767) / 65535) := by
    unfold e8 tm.downV
    rw [if_neg (by unfold tm.downBad; omega)]
  obtain ⟨z, hz⟩ : ∃ z, (v * 255 + 32767) / 65535 = z := ⟨_, rfl⟩
  have hz2 : 0 ≤ z ∧ z ≤ 255 := by omega
  rw [he, hz]
  have h1 : IntKind.i64.wrap v = v := IntWalk.i64_in _ (by omega)
  have h2 : IntKind.i64.wrap (v * 255) = v * 255 := IntWalk.i64_in _ (by omega)
  have h3 : IntKind.i64.wrap (v * 255 + 32767) = v * 255 + 32767 := IntWalk.i64_in _ (by omega)
  have h4 : (v * 255 + 32767).tdiv 65535 = z := by rw [Int.tdiv_eq_ediv_of_nonneg (by omega)]; exact hz
  have h5 : IntKind.i64.wrap z = z := IntWalk.i64_in _ (by omega)
  have h6 : IntKind.i64.wrap (z * 257) = 257 * z := by rw [Int.mul_comm]; exact IntWalk.i64_in _ (by omega)
  have h7 : IntKind.u16.wrap (257 * z) = 257 * z := IntWalk.u16_in _ (by omega)
  clear he hz hv
  go_enter Tryz.func39, Tryz.ntmps39
  go_wp2_with fail
  go_ret
  exact ⟨rfl, rfl⟩
/-- the first j of the squares, added -/
def offS (l m : List Int) (i : Nat) : Nat → Int
  | 0 => 0
  | j + 1 => offS l m i j + (e8 (l.getD (i + j) 0) - m.getD (i + j) 0) * (e8 (l.getD (i + j) 0) - m.getD (i + j) 0)
theorem sq_range {a b : Int} (ha : 0 ≤ a ∧ a ≤ 65535) (hb : 0 ≤ b ∧ b ≤ 65535) : 0 ≤ (a - b) * (a - b) ∧ (a - b) * (a - b) ≤ 4294967296 := by
  constructor
  · rcases Int.le_total 0 (a - b) with h | h
    · exact Int.mul_nonneg h h
    · exact Int.mul_nonneg_of_nonpos_of_nonpos h h
  · have h1 : -65536 ≤ a - b := by omega
    have h2 : a - b ≤ 65536 := by omega
    generalize a - b = d at *
    rcases Int.le_total 0 d with h | h
    · have := Int.mul_le_mul h2 h2 h (by omega)
      omega
    · have h3 : (-d) * (-d) ≤ 65536 * 65536 := Int.mul_le_mul (by omega) (by omega) (by omega) (by omega)
      rw [Int.neg_mul_neg] at h3
      omega
theorem offS_range {l m : List Int} (hl : u16s l) (hm : u16s m) (i : Nat) : ∀ j, j ≤ 3 → 0 ≤ offS l m i j ∧ offS l m i j ≤ 4294967296 * j
  | 0, _ => by simp [offS]
  | j + 1, h => by
    have h1 := offS_range hl hm i j (by omega)
    have h2 := sq_range (e8_range (hl.at (i + j))) (hm.at (i + j))
    unfold offS
    omega
set_option maxRecDepth 100000 in
set_option maxHeartbeats 1600000 in
theorem off_any (W H W2 H2 : Int) (p q : Option Addr) (n cap n2 cap2 : Nat) (l m : List Int) (i : Nat) (w : World) (h : Sl .u16 w p n cap l) (h2 : Sl .u16 w q n2 cap2 m) (hi : i + 3 ≤ n) (hi2 : i + 3 ≤ n2) :
    Calls Tryz.prog 12 #[.agg #[.int .i64 W, .int .i64 H, .slice p n cap], .agg #[.int .i64 W2, .int .i64 H2, .slice q n2 cap2], .int .i64 i] w fun e w' => e = .returned (.int .i64 (offS l m i 3)) ∧ Below w.heap.size w w' := by
  obtain ⟨q0, q1⟩ := heap2 w (.cells #[.int .i64 W, .int .i64 H, .slice p n cap] 24) (.cells #[.int .i64 W2, .int .i64 H2, .slice q n2 cap2] 24)
  have b0 : Below w.heap.size w ((w.alloc (.cells #[.int .i64 W, .int .i64 H, .slice p n cap] 24)).alloc (.cells #[.int .i64 W2, .int .i64 H2, .slice q n2 cap2] 24)) := ((Below.refl w.heap.size w).alloc (Nat.le_refl _) _).alloc (by simp) _
  have HL := Lib.hid (Sl.u16s h)
  have HM := Lib.hid (Sl.u16s h2)
  have hs1 := h.fits
  have hs2 := h2.fits
  have hm1 : cap ≤ 9223372036854775807 := h.most
  have hm2 : cap2 ≤ 9223372036854775807 := h2.most
  have H1 := Lib.hid h
  have HH2 := Lib.hid h2
  clear h h2
  go_enter Tryz.func12, Tryz.ntmps12
  go_upto_region 1 with (fail)
  generalize (w.alloc (.cells #[.int .i64 W, .int .i64 H, .slice p n cap] 24)).alloc (.cells #[.int .i64 W2, .int .i64 H2, .slice q n2 cap2] 24) = w0 at *
  have Q0 := Lib.hid q0
  have Q1 := Lib.hid q1
  have B0 := Lib.hid b0
  clear q0 q1 b0
  go_wp2_with fail
  go_loopg [7, 8] 3 (fun gk s7 s8 wr => ∃ j : Nat, j ≤ 3 ∧ gk = 3 - j ∧ s7 = .int .i64 (offS l m i j) ∧ s8 = .int .i64 ((i + j : Nat) : Int) ∧ Below w0.heap.size w0 wr)
  case atStart => exact ⟨0, by omega, rfl, rfl, by go_num, Below.refl _ _⟩
  case round =>
    obtain ⟨j, hj, hgk, rfl, rfl, hb⟩ := hrel
    have Hg := Lib.hid hgk
    have HB := Lib.hid hb
    have k0 := keep_cell hb ((cell_of_row w0 _ 2 _ _ (0, 0) Q0.out).trans (show _ = some (Value.slice p n cap) from rfl))
    have k1 := keep_cell hb ((cell_of_row w0 _ 2 _ _ (0, 0) Q1.out).trans (show _ = some (Value.slice q n2 cap2) from rfl))
    have hw3 : IntKind.i64.wrap ((i : Int) + 3) = (i : Int) + 3 := IntWalk.i64_in _ (by omega)
    clear hgk hb
    by_cases hlt : j < 3
    · have hd : decide (((i + j : Nat) : Int) < (i : Int) + 3) = true := by simp; omega
      have hbw := B0.out.trans (HB.out.mono B0.out.size)
      obtain ⟨pb, po, rfl, hc⟩ := (H1.out.below hbw).cells (by omega)
      obtain ⟨qb, qo, rfl, hc2⟩ := (HH2.out.below hbw).cells (by omega)
      have z0 := hc (i + j) (by omega)
      have z1 := hc2 (i + j) (by omega)
      have r0 := HL.out.at (i + j)
      have r1 := HM.out.at (i + j)
      have HS : Hid (offS l m i (j + 1) = offS l m i j + (e8 (l.getD (i + j) 0) - m.getD (i + j) 0) * (e8 (l.getD (i + j) 0) - m.getD (i + j) 0)) := Lib.hid rfl
      have o0 := offS_range HL.out HM.out i j (by omega)
      have o1 := sq_range (e8_range r0) r1
      have r2 := e8_range r0
      obtain ⟨x, hx⟩ : ∃ x, l.getD (i + j) 0 = x := ⟨_, rfl⟩
      obtain ⟨y, hy⟩ : ∃ y, m.getD (i + j) 0 = y := ⟨_, rfl⟩
      obtain ⟨s, hs⟩ : ∃ s, offS l m i j = s := ⟨_, rfl⟩
      rw [hx] at z0 r0 r2 o1 HS
      rw [hy] at z1 r1 o1 HS
      rw [hs] at o0 HS ⊢
      have CW := Lib.hid (fun u => whole_any x r0 u)
      obtain ⟨v, hv⟩ : ∃ v, e8 x = v := ⟨_, rfl⟩
      rw [hv] at r2 o1 HS CW
      have hj3 : (j : Int) < 3 := by omega
      clear hc hc2 hx hy hs r0 hv hbw
      go_upto_region 5 with (fail)
      go_quiet (exact Calls.quiet_of_same (CW.out _))
      have b2 := below_drewN (Below.refl wr.heap.size wr) nq
      have HB2 := Lib.hid (HB.out.trans (b2.mono HB.out.size))
      generalize wr.drewN nq = w2 at *
      have hw4 : IntKind.i64.wrap ((v - y) * (v - y)) = (v - y) * (v - y) := IntWalk.i64_in _ (by omega)
      have hw5 : IntKind.i64.wrap (s + (v - y) * (v - y)) = s + (v - y) * (v - y) := IntWalk.i64_in _ (by omega)
      have hw6 : IntKind.i64.wrap (((i + j : Nat) : Int) + 1) = ((i + j : Nat) : Int) + 1 := IntWalk.i64_in _ (by omega)
      clear b2 z0 z1 CW k0 k1 hd hw3
      go_wp2_with fail
      go_roundg (3 - (j + 1))
      case measure => have := Hg.out; omega
      case rel => exact ⟨j + 1, by omega, rfl, by rw [HS.out], by go_num, HB2.out⟩
    · obtain rfl : j = 3 := by omega
      have hd : decide (((i + 3 : Nat) : Int) < (i : Int) + 3) = false := by simp
      go_wp2_with fail
      go_ret
      exact ⟨rfl, B0.out.trans (HB.out.mono B0.out.size)⟩
end Go.Proofs.YtioeifbobhdccaaGreatDoor
/- What a written GIF's pixels are, in plain lists: each solid one the nearest of the palette. -/
namespace Go.Proofs.YtioeifbobhdccaaGreatDoor
/-- no colour of the palette is nearer than the one that was found -/
theorem near_least (l : List C4) (c : C4) (k : Nat) (i : Nat) (hi : i < k) : (l.getD (near l c k).toNat C4.zero).far c ≤ (l.getD i C4.zero).far c := by
  induction k with
  | zero => omega
  | succ k ih =>
    have hr := near_range l c k
    unfold near
    by_cases h : near l c k < 0 ∨ (l.getD k C4.zero).far c < (l.getD (near l c k).toNat C4.zero).far c
    · rw [if_pos h, Int.toNat_natCast]
      by_cases e : i = k
      · subst e
        omega
      · have := ih (by omega)
        rcases h with h | h <;> omega
    · rw [if_neg h]
      by_cases e : i = k
      · subst e
        omega
      · exact ih (by omega)
theorem near_mem {l : List C4} (c : C4) (h : l ≠ []) : l.getD (near l c l.length).toNat C4.zero ∈ l ∧ (near l c l.length).toNat < l.length := by
  have hl : 0 < l.length := List.length_pos_iff.2 h
  have hr := near_range l c l.length
  have h1 : (near l c l.length).toNat < l.length := by omega
  refine ⟨?_, h1⟩
  rw [List.getD_eq_getElem?_getD, List.getElem?_eq_getElem h1]
  exact List.getElem_mem _
theorem near_le {l : List C4} (c : C4) {d : C4} (h : d ∈ l) : (l.getD (near l c l.length).toNat C4.zero).far c ≤ d.far c := by
  obtain ⟨i, hi, rfl⟩ := List.mem_iff_getElem.1 h
  have := near_least l c l.length i hi
  rwa [List.getD_eq_getElem?_getD (l := l) (i := i), List.getElem?_eq_getElem hi] at this
/-- of fewer colours of which one is as near as any the nearest is as near -/
theorem near_sub {l u : List C4} (c : C4) (hs : ∀ d ∈ u, d ∈ l) (hm : l.getD (near l c l.length).toNat C4.zero ∈ u) : (u.getD (near u c u.length).toNat C4.zero).far c = (l.getD (near l c l.length).toNat C4.zero).far c := by
  have h1 := near_le c hm
  have h2 := near_le c (hs _ (near_mem c (by intro e; rw [e] at hm; cases hm)).1)
  omega
theorem flat4_get (f : Int → C4) : ∀ (X : List Int) (k j : Nat), k < X.length → j < 4 → (X.flatMap fun x => (f x).list).getD (4 * k + j) 0 = (f (X.getD k 0)).list.getD j 0
  | [], k, j, h, _ => by simp at h
  | x :: r, 0, j, _, hj => by
    simp only [List.flatMap_cons, List.getD_eq_getElem?_getD, Nat.mul_zero, Nat.zero_add, List.getElem?_cons_zero, Option.getD_some]
    rw [List.getElem?_append_left (by simpa [C4.list] using hj)]
  | x :: r, k + 1, j, h, hj => by
    have ih := flat4_get f r k j (by simpa using h) hj
    simp only [List.flatMap_cons, List.getD_eq_getElem?_getD, List.getElem?_cons_succ] at ih ⊢
    rw [List.getElem?_append_right (by simp [C4.list]; omega), show 4 * (k + 1) + j - (f x).list.length = 4 * k + j by simp [C4.list]; omega]
    exact ih
theorem flat4_pix (f : Int → C4) (X : List Int) (k : Nat) (h : k < X.length) : pix (X.flatMap fun x => (f x).list) k = f (X.getD k 0) := by
  have h0 := flat4_get f X k 0 h (by omega)
  have h1 := flat4_get f X k 1 h (by omega)
  have h2 := flat4_get f X k 2 h (by omega)
  have h3 := flat4_get f X k 3 h (by omega)
  rw [Nat.add_zero] at h0
  exact C4.eq h0 h1 h2 h3
theorem picPix_pix (P : List C4) (z : Int) (X : List Int) (k : Nat) (h : k < X.length) : pix (picPix P z X) k = if X.getD k 0 = z then C4.zero else P.getD (X.getD k 0).toNat C4.zero := by
  have e : picPix P z X = X.flatMap fun x => ((fun x => if x = z then C4.zero else P.getD x.toNat C4.zero) x).list := by
    unfold picPix
    congr 1
    funext x
    dsimp only
    split <;> rfl
  rw [e, flat4_pix _ X k h]
theorem imgOf_pix (P : List C4) (I : List Int) (k : Nat) (h : k < I.length) : pix (imgOf P I) k = P.getD (I.getD k 0).toNat C4.zero := flat4_pix (fun k => P.getD k.toNat C4.zero) I k h
/-- the squares are the distance -/
theorem offS_far (l m : List Int) (k : Nat) : offS l m (4 * k) 3 = (pix m k).far (pix l k).eight := by
  have sq : ∀ a b : Int, (a - b) * (a - b) = (b - a) * (b - a) := fun a b => by
    rw [show b - a = -(a - b) by omega, Int.neg_mul_neg]
  simp only [offS, C4.far, tm.far, pix, C4.eight, Nat.add_zero, Int.zero_add]
  rw [sq (m.getD (4 * k) 0), sq (m.getD (4 * k + 1) 0), sq (m.getD (4 * k + 2) 0)]
theorem palC_mem {P0 : List C4} (g : Bool) (h8 : all8 P0) {i : Nat} (hi : i < P0.length) : palC (encP g P0) i = P0.getD i C4.zero := by
  have hget : (encP g P0).getD i C4.zero = P0.getD i C4.zero := by
    unfold encP
    split
    · simp only [List.getD_eq_getElem?_getD]
      rw [List.getElem?_append_left hi]
    · rfl
  have hlen : i < (encP g P0).length := by
    unfold encP
    split
    · simp; omega
    · exact hi
  have hm : P0.getD i C4.zero ∈ P0 := by
    rw [List.getD_eq_getElem?_getD, List.getElem?_eq_getElem hi]
    exact List.getElem_mem _
  obtain ⟨⟨x, hx, e1⟩, ⟨y, hy, e2⟩, ⟨z, hz, e3⟩, e4⟩ := h8 _ hm
  have hb : palB (encP g P0) i = [x, y, z] := by
    unfold palB
    rw [hget, if_pos ⟨hlen, by rw [e4]; decide⟩]
    show [(P0.getD i C4.zero).r / 256, (P0.getD i C4.zero).g / 256, (P0.getD i C4.zero).b / 256] = _
    rw [e1, e2, e3]
    congr 1
    · omega
    · congr 1
      · omega
      · congr 1
        omega
  unfold palC
  rw [hb]
  exact C4.eq e1.symm e2.symm e3.symm e4.symm
/-- the colours of a decoded file -/
abbrev encPix (P0 : List C4) (l : List Int) (N sz : Nat) : List Int := picPix ((List.range (2 ^ sz)).map (palC (encP (goneB l N) P0))) (clearOf (goneB l N) (encP (goneB l N) P0).length) (encX P0 l N)
theorem enc_clear (P0 : List C4) (l : List Int) (N sz : Nat) {k : Nat} (hk : k < N) (hc : (pix l k).a < 32768) : pix (encPix P0 l N sz) k = C4.zero := by
  unfold encPix
  rw [picPix_pix _ _ _ _ (by rw [encX_length]; exact hk), encX_get P0 hk]
  have hg : goneB l N = true := by
    cases h : goneB l N with
    | true => rfl
    | false => have := goneB_false h hk; omega
  rw [hg]
  unfold encIdx clearOf encP
  rw [if_pos hc, if_pos rfl, if_pos rfl, if_pos (by simp)]
theorem enc_solid {P0 : List C4} (h8 : all8 P0) (l : List Int) (N sz : Nat) (hne : P0 ≠ []) (hsz : (encP (goneB l N) P0).length ≤ 2 ^ sz) {k : Nat} (hk : k < N) (hc : 32768 ≤ (pix l k).a) :
    pix (encPix P0 l N sz) k = P0.getD (near P0 (pix l k).eight P0.length).toNat C4.zero := by
  unfold encPix
  rw [picPix_pix _ _ _ _ (by rw [encX_length]; exact hk), encX_get P0 hk]
  have hnm := near_mem (pix l k).eight hne
  have hr := near_range P0 (pix l k).eight P0.length
  have hi : encIdx P0 (pix l k) = near P0 (pix l k).eight P0.length := by
    unfold encIdx
    rw [if_neg (by omega)]
  have hle : P0.length ≤ (encP (goneB l N) P0).length := by
    unfold encP
    split
    · simp
    · exact Nat.le_refl _
  rw [hi, if_neg ?_]
  · rw [List.getD_eq_getElem?_getD, List.getElem?_map, List.getElem?_range (by omega)]
    exact palC_mem _ h8 hnm.2
  · unfold clearOf encP
    split
    · simp
      omega
    · omega
theorem enc_mem {P0 : List C4} (h8 : all8 P0) (l : List Int) (N sz : Nat) (hne : (∃ k, k < N ∧ 32768 ≤ (pix l k).a) → P0 ≠ []) (hsz : (encP (goneB l N) P0).length ≤ 2 ^ sz) {k : Nat} (hk : k < N) :
    pix (encPix P0 l N sz) k = C4.zero ∨ pix (encPix P0 l N sz) k ∈ P0 := by
  by_cases hc : (pix l k).a < 32768
  · exact .inl (enc_clear P0 l N sz hk hc)
  · have hp := hne ⟨k, hk, by omega⟩
    rw [enc_solid h8 l N sz hp hsz hk (by omega)]
    exact .inr (near_mem _ hp).1
/-- the colours that are not clear -/
def solids (t : List C4) : List C4 := t.filter fun c => decide (0 < c.a)
theorem solids_snoc (t : List C4) (c : C4) : solids (t ++ [c]) = if 0 < c.a then solids t ++ [c] else solids t := by
  unfold solids
  rw [List.filter_append]
  by_cases h : 0 < c.a
  · simp [h]
  · simp [h]
theorem solids_sub {P0 cs : List C4} (hm : ∀ c ∈ cs, c = C4.zero ∨ c ∈ P0) : ∀ d ∈ solids cs, d ∈ P0 := by
  intro d hd
  obtain ⟨h1, h2⟩ := List.mem_filter.1 hd
  rcases hm d h1 with rfl | h
  · simp [C4.zero] at h2
  · exact h
end Go.Proofs.YtioeifbobhdccaaGreatDoor
