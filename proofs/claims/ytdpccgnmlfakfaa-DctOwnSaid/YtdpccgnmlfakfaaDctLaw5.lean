/- The walk of DctOwn. -/
import Derived.Test.YtdpccgnmlfakfaaDctLaw4
import Derived.Test.YtdpccgnmlfakfaaDctLaw2
import Derived.Deep.AppendLies
import Derived.Deep.RegionHeld3
namespace Go.Proofs.Ytdpccgnmlfakfaa
open Go.RowKit

theorem own_cap {w : World} {base g n cap : Nat} {xs : List Value} (h : w.ownsRow base 3 1 (.slice (some ⟨g, 0, none⟩) n cap) n xs) : n ≤ cap ∧ cap ≤ maxLen := by
  rcases h.2 with ⟨h', _⟩ | ⟨g', cap', cur, h', _, _, h1, h2, _⟩
  · cases h'
  · simp only [Value.slice.injEq, Option.some.injEq, Addr.mk.injEq, and_true, true_and] at h'
    obtain ⟨_, rfl⟩ := h'
    exact ⟨h1, h2⟩
theorem own_rd {w : World} {base g n cap : Nat} {l : List Int} (h : w.ownsRow base 3 1 (.slice (some ⟨g, 0, none⟩) n cap) n (l.map (Value.int .i64))) : Rd .i64 w (some ⟨g, 0, none⟩) l := by
  have hl : l.length = n := by have := h.1; simpa using this
  refine .inr ⟨g, 0, rfl, fun i hi => ?_⟩
  rw [Nat.zero_add, h.cellAt i (by omega), List.getElem?_map]
  simp [List.getD_eq_getElem?_getD, List.getElem?_eq_getElem hi]
theorem AnsPost.owned {n : Nat} {l : List Int} {er : Int} {w w' : World} {e : Ending} (h : AnsPost n l er w e w') : ∃ a m cap lv, e = .returned (.tuple #[.slice a m cap, .int .i64 er]) ∧ (m = 0 ∨ m = n) ∧ w'.ownsRow w.heap.size 3 1 (.slice a m cap) m lv ∧ Below w.heap.size w w' := by
  obtain ⟨h, hb⟩ := h
  rcases h with ⟨h, rfl⟩ | ⟨rfl, v, rfl, h2⟩
  · exact ⟨none, 0, 0, [], rfl, .inl rfl, World.ownsRow_nil _ _ _ _, hb⟩
  · obtain ⟨g, cap, rfl, _, h3, h4, h5, h6, h7⟩ := h2.open
    exact ⟨_, n, cap, _, rfl, .inr rfl, h7, hb⟩
theorem own_after {w w' : World} {b1 n : Nat} {v : Value} {xs : List Value} {row : Option Nat} (h : w.ownsRow b1 3 1 v n xs) (hg : w.grownBy w' row) (hr : ∀ k, row = some k → k < b1) : w'.ownsRow b1 3 1 v n xs := by
  refine h.kept hg ?_
  cases hv : v.ownBlock with
  | none => exact .inl rfl
  | some k =>
    refine .inr fun e => ?_
    have h1 := (h.lt k hv).1
    have h2 := hr k e.symm
    omega
theorem own_below {w w' : World} {b1 n : Nat} {v : Value} {xs : List Value} (h : w.ownsRow b1 3 1 v n xs) (hb : Below w.heap.size w w') : w'.ownsRow b1 3 1 v n xs :=
  own_after (row := none) h ⟨hb.os, hb.tape, hb.output, hb.size, fun k hk _ => hb.block k hk⟩ (fun _ e => by cases e)
theorem reach_less {n c : Nat} (hn : n ≤ c) (h : c * Try.prog.bytesOf 3 ≤ reachBytes) : n * 8 ≤ 140737488355328 - 8 := by
  have e : Try.prog.bytesOf 3 = 8 := by kernel_rfl
  rw [e] at h
  have e2 : reachBytes ≤ 140737488355328 - 8 := by decide
  have := Nat.le_trans h e2
  omega
theorem rd_one {w : World} {g : Nat} {l : List Int} {x : Int} (h : Rd .i64 w (some ⟨g, 0, none⟩) (l ++ [x])) : Rd .i64 w (some ⟨g, 0, none⟩) l ∧ w.cell? ⟨g, l.length, none⟩ = some (.int .i64 x) := by
  constructor
  · have := h.take l.length
    rw [List.take_left'  rfl] at this
    exact this
  · have := rd_at (i := l.length) h (by simp)
    rw [this]
    simp [List.getD_eq_getElem?_getD]

set_option maxRecDepth 100000 in
set_option maxHeartbeats 6400000 in
theorem dctOwn_any (a1 : Option Addr) (n1 cap1 : Nat) (l1 : List Int) (a2 : Option Addr) (n2 cap2 : Nat) (l2 : List Int) (w : World) (h1 : Sl .i64 w a1 n1 cap1 l1) (hr1 : cap1 * Try.prog.bytesOf 3 ≤ reachBytes) (h2 : Sl .i64 w a2 n2 cap2 l2) (hr2 : cap2 * Try.prog.bytesOf 3 ≤ reachBytes) :
    Calls Try.prog 8 #[.slice a1 n1 cap1, .slice a2 n2 cap2] w fun e w' => e = .returned (.bool true) ∧ Below w.heap.size w w' := by
  obtain ⟨i0, hi, hz0, hz1, hz2⟩ := info_parts infoInt0
  have HN1 : Hid (n1 * 8 ≤ 140737488355328 - 8) := Lib.hid (reach_less h1.fits hr1)
  have HN2 : Hid (n2 * 8 ≤ 140737488355328 - 8) := Lib.hid (reach_less h2.fits hr2)
  have HM1 : Hid (n1 ≤ maxLen) := Lib.hid (Nat.le_trans h1.fits h1.most)
  have HM2 : Hid (n2 ≤ maxLen) := Lib.hid (Nat.le_trans h2.fits h2.most)
  have P := Lib.hid h1
  have Q := Lib.hid h2
  clear h1 h2 hr1 hr2
  have LP := Lib.hid P.out.len
  have LQ := Lib.hid Q.out.len
  go_enter Try.func8, Try.ntmps8
  go_wp2_with fail
  go_must (refine (wakes_any _).mono ?_)
  rintro e w1 ⟨rfl, hb1⟩
  have B1 := Lib.hid hb1
  have P1 := Lib.hid (P.out.below hb1)
  have Q1 := Lib.hid (Q.out.below hb1)
  clear hb1 P Q
  go_wp2_with fail
  go_must (refine (ownI_any a1 n1 cap1 l1 w1 P1.out (by have := HN1.out; omega)).mono ?_)
  rintro e w2 ⟨v, rfl, hv, hb2⟩
  obtain ⟨g2, c2, rfl, _, hl2, hc2, hm2, hr2, ho2⟩ := hv.open
  have C2 := Lib.hid hb2
  have HO := Lib.hid (ho2.alloc (.cells #[.int .i64 77] 3))
  clear hv hr2 hl2 hc2 hm2 ho2 hb2
  go_wp2_with (at_builtin; go_must (refine wpList_append_lies _ rfl _ _ 22 rfl w1.heap.size 3 i0 (.int .i64 0) 1 8 Try.underlying22 hi hz0 hz1 hz2 rfl (by decide) _ n1 _ rfl HO.out ⟨w2.heap.size, 0, none⟩ 1 1 [.int .i64 77] rfl rfl (cell_one_new _ _ _) (ints_oneCell .i64 [77]) (by decide) (by have := HN1.out; unfold maxLen; omega) (by have := HN1.out; omega) (by have := C2.out.size; simp; omega) _ rfl ?_; intro gI cI w3 hown hg hat hlt; have OI := Lib.hid hown; have GI := Lib.hid hg; clear hown hg hat hlt))
  have C3 : Hid (Below w1.heap.size w1 w3) := Lib.hid ((C2.out.alloc C2.out.size _).grown GI.out (by have := C2.out.size; simp; omega) (fun k hk => (HO.out.lt k hk).1))
  have oI : w3.ownsRow w1.heap.size 3 1 (.slice (some ⟨gI, 0, none⟩) (n1 + 1) cI) (n1 + 1) ((l1 ++ [77]).map (Value.int .i64)) := by
    have := OI.out
    rw [List.map_append]
    exact this
  have RI3 := Lib.hid (own_rd oI)
  have KI := Lib.hid (own_cap oI)
  have P3 := Lib.hid (P1.out.below C3.out)
  have Q3 := Lib.hid (Q1.out.below C3.out)
  clear oI OI GI HO C2 P1 Q1
  go_must (refine (ownI_any a2 n2 cap2 l2 w3 Q3.out (by have := HN2.out; omega)).mono ?_)
  rintro e w4 ⟨v, rfl, hv, hb2⟩
  obtain ⟨g4, c4, rfl, _, hl2, hc2, hm2, hr2, ho2⟩ := hv.open
  have D4 := Lib.hid hb2
  have HO := Lib.hid (ho2.alloc (.cells #[.int .i64 78] 3))
  obtain ⟨kI1, kI2⟩ := KI.out
  have kI3 : (n1 : Int) ≤ (cI : Int) := by omega
  clear hv hr2 hl2 hc2 hm2 ho2 hb2
  go_wp2_with (at_builtin; go_must (refine wpList_append_lies _ rfl _ _ 22 rfl w3.heap.size 3 i0 (.int .i64 0) 1 8 Try.underlying22 hi hz0 hz1 hz2 rfl (by decide) _ n2 _ rfl HO.out ⟨w4.heap.size, 0, none⟩ 1 1 [.int .i64 78] rfl rfl (cell_one_new _ _ _) (ints_oneCell .i64 [78]) (by decide) (by have := HN2.out; unfold maxLen; omega) (by have := HN2.out; omega) (by have := D4.out.size; simp; omega) _ rfl ?_; intro gB cB w5 hown hg hat hlt; have OI := Lib.hid hown; have GI := Lib.hid hg; clear hown hg hat hlt))
  have D5 : Hid (Below w3.heap.size w3 w5) := Lib.hid ((D4.out.alloc D4.out.size _).grown GI.out (by have := D4.out.size; simp; omega) (fun k hk => (HO.out.lt k hk).1))
  have oI : w5.ownsRow w3.heap.size 3 1 (.slice (some ⟨gB, 0, none⟩) (n2 + 1) cB) (n2 + 1) ((l2 ++ [78]).map (Value.int .i64)) := by
    have := OI.out
    rw [List.map_append]
    exact this
  have RB5 := Lib.hid (own_rd oI)
  have KB := Lib.hid (own_cap oI)
  have P5 := Lib.hid (P3.out.below D5.out)
  have Q5 := Lib.hid (Q3.out.below D5.out)
  have RI5 := Lib.hid (RI3.out.below D5.out)
  have C5 := Lib.hid (C3.out.trans (D5.out.mono C3.out.size))
  have T5 := Lib.hid (B1.out.trans (C5.out.mono B1.out.size))
  obtain ⟨kB1, kB2⟩ := KB.out
  have kB3 : (n2 : Int) ≤ (cB : Int) := by omega
  clear oI OI GI HO D4 P3 Q3 RI3 C3 D5 C5 B1 KI KB
  -- Forward of in[:len(c)]
  go_must (refine (forward_any _ n1 cI l1 w5 LP.out HM1.out (rd_one RI5.out).1).mono ?_)
  rintro e w6 hp
  obtain ⟨aA, mA, cA, lA, rfl, hmA, hoA, hb6⟩ := hp.owned
  have E6 := Lib.hid hb6
  have OA := Lib.hid hoA
  have MA := Lib.hid hmA
  clear hp hmA hoA hb6
  go_wp2_with fail
  go_must (refine (inverse_any _ n1 cI l1 w6 LP.out HM1.out ((rd_one RI5.out).1.below E6.out)).mono ?_)
  rintro e w7 hp
  obtain ⟨aB, mB, cB', lB, rfl, hmB, hoB, hb7⟩ := hp.owned
  have E7 := Lib.hid (E6.out.trans (hb7.mono E6.out.size))
  have S6 := Lib.hid E6.out.size
  have S7 := Lib.hid hb7.size
  have OB := Lib.hid hoB
  have MB := Lib.hid hmB
  have OA7 := Lib.hid (own_below OA.out hb7)
  have LA := Lib.hid (fun k hk => (OA.out.lt k hk))
  clear hp hmB hoB hb7 E6 OA
  go_wp2_with fail
  have CX := Lib.hid (divide_any _ _ n1 n2 cI cB l1 l2 w7.drew LP.out LQ.out HM1.out HM2.out ((rd_one RI5.out).1.below E7.out.drew) ((rd_one RB5.out).1.below E7.out.drew))
  go_region_held3 (fun _ => True) (exact trivial) (first | (refine CX.out.mono ?_; rintro e w8 hp; obtain ⟨aX, mX, cX, lX, rfl, hmX, hoX, hb8⟩ := hp.owned; have OX := Lib.hid hoX; have MX := Lib.hid hmX; have E8 := Lib.hid hb8; clear hp hmX hoX hb8))
  have F8 := Lib.hid (E7.out.drew.trans (E8.out.mono E7.out.size))
  have S8 : Hid (w7.heap.size ≤ w8.heap.size) := Lib.hid E8.out.size
  have OA8 := Lib.hid (own_below (w := w7.drew) OA7.out E8.out)
  have OB8 := Lib.hid (own_below (w := w7.drew) OB.out E8.out)
  have LB := Lib.hid (fun k hk => (OB.out.lt k hk))
  have OX8 : Hid (w8.ownsRow w7.heap.size 3 1 (.slice aX mX cX) mX lX) := Lib.hid OX.out
  clear CX E8 E7 OX OB OA7
  go_wp2_with fail
  have CY := Lib.hid (multiply_any _ _ n1 n2 cI cB l1 l2 w8.drew LP.out LQ.out HM1.out HM2.out ((rd_one RI5.out).1.below F8.out.drew) ((rd_one RB5.out).1.below F8.out.drew))
  go_region_held3 (fun _ => True) (exact trivial) (first | (refine CY.out.mono ?_; rintro e w9 hp; obtain ⟨aY, mY, cY, lY, rfl, hmY, hoY, hb9⟩ := hp.owned; have OY := Lib.hid hoY; have MY := Lib.hid hmY; have E9 := Lib.hid hb9; clear hp hmY hoY hb9))
  have F9 := Lib.hid (F8.out.drew.trans (E9.out.mono F8.out.size))
  have S9 : Hid (w8.heap.size ≤ w9.heap.size) := Lib.hid E9.out.size
  have OA9 := Lib.hid (own_below (w := w8.drew) OA8.out E9.out)
  have OB9 := Lib.hid (own_below (w := w8.drew) OB8.out E9.out)
  have OX9 := Lib.hid (own_below (w := w8.drew) OX8.out E9.out)
  have LX := Lib.hid (fun k hk => (OX8.out.lt k hk))
  have OY9 : Hid (w9.ownsRow w8.heap.size 3 1 (.slice aY mY cY) mY lY) := Lib.hid OY.out
  clear CY E9 F8 OY OX8 OB8 OA8
  go_wp2_with fail
  go_must (refine (zigzag_any w9).mono ?_)
  rintro e w10 ⟨v, rfl, hv, hb10⟩
  obtain ⟨gZ, cZ, rfl, _, hlZ, hcZ, hmZ, hrZ, hoZ⟩ := hv.open
  have F10 := Lib.hid (F9.out.trans (hb10.mono F9.out.size))
  have S10 := Lib.hid hb10.size
  have OA10 := Lib.hid (own_below OA9.out hb10)
  have OB10 := Lib.hid (own_below OB9.out hb10)
  have OX10 := Lib.hid (own_below OX9.out hb10)
  have OY10 := Lib.hid (own_below OY9.out hb10)
  have LY := Lib.hid (fun k hk => (OY9.out.lt k hk))
  have OZ10 := Lib.hid hoZ
  clear hv hlZ hcZ hmZ hrZ hoZ hb10 F9 OA9 OB9 OX9 OY9
  go_wp2_with fail
  go_must (refine (spoil_any _ _ mA lA w10 OA10.out (by rcases MA.out with h | h <;> omega)).mono ?_)
  rintro e w11 ⟨⟨r1, rfl⟩, hg⟩
  have F11 := Lib.hid (F10.out.grown hg F10.out.size (fun k hk => (LA.out k hk).1))
  have OB11 := Lib.hid (own_after OB10.out hg (fun k hk => by have := (LA.out k hk).2; omega))
  have OX11 := Lib.hid (own_after OX10.out hg (fun k hk => by have := (LA.out k hk).2; have := S7.out; omega))
  have OY11 := Lib.hid (own_after OY10.out hg (fun k hk => by have := (LA.out k hk).2; have := S7.out; have := S8.out; omega))
  have OZ11 := Lib.hid (own_after OZ10.out hg (fun k hk => by have := (LA.out k hk).2; have := S7.out; have := S8.out; have := S9.out; omega))
  clear hg F10 OA10 OB10 OX10 OY10 OZ10
  go_wp2_with fail
  go_must (refine (spoil_any _ _ mB lB w11 OB11.out (by rcases MB.out with h | h <;> omega)).mono ?_)
  rintro e w12 ⟨⟨r2, rfl⟩, hg⟩
  have F12 := Lib.hid (F11.out.grown hg F11.out.size (fun k hk => by have := (LB.out k hk).1; have := S6.out; omega))
  have OX12 := Lib.hid (own_after OX11.out hg (fun k hk => by have := (LB.out k hk).2; omega))
  have OY12 := Lib.hid (own_after OY11.out hg (fun k hk => by have := (LB.out k hk).2; have := S8.out; omega))
  have OZ12 := Lib.hid (own_after OZ11.out hg (fun k hk => by have := (LB.out k hk).2; have := S8.out; have := S9.out; omega))
  clear hg F11 OB11 OX11 OY11 OZ11
  go_wp2_with fail
  go_must (refine (spoil_any _ _ mX lX w12 OX12.out (by rcases MX.out with h | h <;> omega)).mono ?_)
  rintro e w13 ⟨⟨r3, rfl⟩, hg⟩
  have F13 := Lib.hid (F12.out.grown hg F12.out.size (fun k hk => by have := (LX.out k hk).1; have := S6.out; have := S7.out; omega))
  have OY13 := Lib.hid (own_after OY12.out hg (fun k hk => by have := (LX.out k hk).2; omega))
  have OZ13 := Lib.hid (own_after OZ12.out hg (fun k hk => by have := (LX.out k hk).2; have := S9.out; omega))
  clear hg F12 OX12 OY12 OZ12
  go_wp2_with fail
  go_must (refine (spoil_any _ _ mY lY w13 OY13.out (by rcases MY.out with h | h <;> omega)).mono ?_)
  rintro e w14 ⟨⟨r4, rfl⟩, hg⟩
  have F14 := Lib.hid (F13.out.grown hg F13.out.size (fun k hk => by have := (LY.out k hk).1; have := S6.out; have := S7.out; have := S8.out; omega))
  have OZ14 := Lib.hid (own_after OZ13.out hg (fun k hk => by have := (LY.out k hk).2; omega))
  clear hg F13 OY13 OZ13
  have LZ := Lib.hid (fun k hk => (OZ14.out.lt k hk))
  go_wp2_with fail
  go_must (refine (spoil_any _ _ 64 _ w14 OZ14.out (by decide)).mono ?_)
  rintro e w15 ⟨⟨r5, rfl⟩, hg⟩
  have F15 := Lib.hid (F14.out.grown hg F14.out.size (fun k hk => by have := (LZ.out k hk).1; have := S6.out; have := S7.out; have := S8.out; have := S9.out; omega))
  clear hg F14 OZ14 LZ LY LX LB LA
  have P15 := Lib.hid (P5.out.below F15.out)
  go_wp2_with fail
  go_must (refine (ownI_any a1 n1 cap1 l1 w15 P15.out (by have := HN1.out; omega)).mono ?_)
  rintro e w16 ⟨v, rfl, hv, hb16⟩
  obtain ⟨g16, c16, rfl, _, hl16, hc16, hm16, hr16, _⟩ := hv.open
  have F16 := Lib.hid (F15.out.trans (hb16.mono F15.out.size))
  have R16 := Lib.hid hr16
  clear hv hr16 hb16 hl16 hc16 hm16 F15 P15
  go_wp2_with fail
  go_must (refine (inverse_any _ n1 c16 l1 w16 LP.out HM1.out R16.out).mono ?_)
  rintro e w17 hp
  obtain ⟨a17, n17, c17, l17, rfl, hl17, hc17, hm17, hr17, he17, hb17⟩ := hp.view
  have F17 := Lib.hid (F16.out.trans (hb17.mono F16.out.size))
  have R17 := Lib.hid hr17
  have E17 := Lib.hid he17
  have L17 := Lib.hid hl17
  have M17 := Lib.hid hm17
  clear hp hr17 he17 hl17 hm17 hb17 F16 R16 hc17
  have P17 := Lib.hid (P5.out.below F17.out)
  go_wp2_with fail
  go_must (refine (refInverse_any a1 n1 cap1 l1 w17 LP.out HM1.out P17.out.rd).mono ?_)
  rintro e w18 hp
  obtain ⟨a18, n18, c18, l18, rfl, hl18, hc18, hm18, hr18, he18, hb18⟩ := hp.view
  have F18 := Lib.hid (F17.out.trans (hb18.mono F17.out.size))
  have R18 := Lib.hid hr18
  have E18 := Lib.hid he18
  have L18 := Lib.hid hl18
  have M18 := Lib.hid hm18
  have R178 := Lib.hid (R17.out.below hb18)
  clear hp hr18 he18 hl18 hm18 hb18 F17 R17 hc18 P17
  have P18 := Lib.hid (P5.out.rd.below F18.out)
  have Q18 := Lib.hid (Q5.out.rd.below F18.out)
  have rI := rd_one (RI5.out.below F18.out)
  have rB := rd_one (RB5.out.below F18.out)
  have RI18 := Lib.hid rI.1
  have RB18 := Lib.hid rB.1
  have cellI := rI.2
  have cellB := rB.2
  rw [LP.out] at cellI
  rw [LQ.out] at cellB
  have hcI0 : (n1 : Int) < (n1 : Int) + 1 := by omega
  have hcB0 : (n2 : Int) < (n2 : Int) + 1 := by omega
  clear rI rB P5 Q5 RI5 RB5
  go_wp2_with fail
  go_must (refine (sameInts_any _ a1 n1 n1 cI cap1 l1 l1 w18 LP.out LP.out HM1.out HM1.out RI18.out P18.out).mono ?_)
  rw [decide_eq_true rfl]
  rintro e w19 ⟨rfl, hb19⟩
  have F19 := Lib.hid (F18.out.trans (hb19.mono F18.out.size))
  have RB19 := Lib.hid (RB18.out.below hb19)
  have Q19 := Lib.hid (Q18.out.below hb19)
  have R19 := Lib.hid (R18.out.below hb19)
  have R179 := Lib.hid (R178.out.below hb19)
  clear hb19 F18 RI18 P18 RB18 Q18 R18 R178 cellI cellB
  go_wp2_with fail
  go_must (refine (sameInts_any _ a2 n2 n2 cB cap2 l2 l2 w19 LQ.out LQ.out HM2.out HM2.out RB19.out Q19.out).mono ?_)
  rw [decide_eq_true rfl]
  rintro e w20 ⟨rfl, hb20⟩
  have F20 := Lib.hid (F19.out.trans (hb20.mono F19.out.size))
  have R20 := Lib.hid (R19.out.below hb20)
  have R1720 := Lib.hid (R179.out.below hb20)
  clear hb20 F19 RB19 Q19 R19 R179
  go_wp2_with fail
  go_must (refine (sameInts_any a17 a18 n17 n18 c17 c18 l17 l18 w20 L17.out L18.out M17.out M18.out R1720.out R20.out).mono ?_)
  rw [decide_eq_true (E17.out.trans E18.out.symm)]
  rintro e w21 ⟨rfl, hb21⟩
  have F21 := Lib.hid (F20.out.trans (hb21.mono F20.out.size))
  clear hb21 F20 R20 R1720
  go_wp2_with fail
  go_must (refine (zigzag_any w21).mono ?_)
  rintro e w22 ⟨v, rfl, hv, hb22⟩
  obtain ⟨gY, cY2, rfl, _, _, _, _, hrY, _⟩ := hv.open
  have F22 := Lib.hid (F21.out.trans (hb22.mono F21.out.size))
  have R22 := Lib.hid hrY
  clear hv hrY hb22 F21
  go_wp2_with fail
  go_must (refine (refZigzag_any w22).mono ?_)
  rintro e w23 ⟨v, rfl, hv, hb23⟩
  obtain ⟨gW, cW, rfl, _, _, _, _, hrW, _⟩ := hv.open
  have F23 := Lib.hid (F22.out.trans (hb23.mono F22.out.size))
  have R23 := Lib.hid hrW
  have R223 := Lib.hid (R22.out.below hb23)
  clear hv hrW hb23 F22 R22
  go_wp2_with fail
  go_must (refine (sameInts_any _ _ 64 64 cY2 cW dm.zzL dm.zzL w23 dm.zzL_length dm.zzL_length (by decide) (by decide) R223.out R23.out).mono ?_)
  rw [decide_eq_true rfl]
  rintro e w24 ⟨rfl, hb24⟩
  have F24 := Lib.hid (T5.out.trans ((F23.out.trans (hb24.mono F23.out.size)).mono T5.out.size))
  clear hb24 F23
  go_wp2_with fail
  go_ret
  exact ⟨rfl, F24.out⟩
end Go.Proofs.Ytdpccgnmlfakfaa

