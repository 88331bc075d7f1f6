/- Numbers of four bytes, and small words on bytes. -/
import Derived.Test.YtfaemhmefijaoaaDoorCkStr
import Derived.Test.YtfaemhmefijaoaaDoorSumsMath
import Derived.Deep.QuietTactic
import Derived.BigQuiet
import Derived.Test.YtfaemhmefijaoaaDoorOwn
import Derived.ArgAppend
import Derived.WalkSmall
namespace Go.Proofs.YtfaemhmefijaoaaDoor
open Go.RowKit

namespace ck
/-- four bytes, the highest first -/
def be32 (l : List Int) : Nat := 16777216 * (l.getD 0 0).toNat + 65536 * (l.getD 1 0).toNat + 256 * (l.getD 2 0).toNat + (l.getD 3 0).toNat
/-- a number as four bytes -/
def be4 (c : Nat) : List Int := [((c / 16777216 : Nat) : Int), ((c / 65536 % 256 : Nat) : Int), ((c / 256 % 256 : Nat) : Int), ((c % 256 : Nat) : Int)]
theorem or_add (i a b : Nat) (h : b < 2 ^ i) : 2 ^ i * a ||| b = 2 ^ i * a + b := (Nat.two_pow_add_eq_or_of_lt h a).symm
theorem or4 {x0 x1 x2 x3 : Nat} (h0 : x0 < 256) (h1 : x1 < 256) (h2 : x2 < 256) (h3 : x3 < 256) :
    bits .or .u32 (bits .or .u32 (bits .or .u32 ((x0 : Int) * 16777216) ((x1 : Int) * 65536)) ((x2 : Int) * 256)) (x3 : Int) = ((16777216 * x0 + 65536 * x1 + 256 * x2 + x3 : Nat) : Int) := by
  have e1 : bits .or .u32 ((x0 : Int) * 16777216) ((x1 : Int) * 65536) = ((16777216 * x0 + 65536 * x1 : Nat) : Int) := by
    have := u32_or_nat (2 ^ 24 * x0) (65536 * x1) (by omega) (by omega)
    rw [or_add 24 x0 (65536 * x1) (by omega)] at this
    rw [← show (16777216 * x0 + 65536 * x1 : Nat) = 2 ^ 24 * x0 + 65536 * x1 from rfl] at this
    rw [← this]
    congr 1
    · omega
    · omega
  have e2 : bits .or .u32 ((16777216 * x0 + 65536 * x1 : Nat) : Int) ((x2 : Int) * 256) = ((16777216 * x0 + 65536 * x1 + 256 * x2 : Nat) : Int) := by
    have := u32_or_nat (2 ^ 16 * (256 * x0 + x1)) (256 * x2) (by omega) (by omega)
    rw [or_add 16 _ (256 * x2) (by omega)] at this
    rw [show (16777216 * x0 + 65536 * x1 + 256 * x2 : Nat) = 2 ^ 16 * (256 * x0 + x1) + 256 * x2 from by omega, ← this]
    congr 1
    · omega
    · omega
  have e3 : bits .or .u32 ((16777216 * x0 + 65536 * x1 + 256 * x2 : Nat) : Int) (x3 : Int) = ((16777216 * x0 + 65536 * x1 + 256 * x2 + x3 : Nat) : Int) := by
    have := u32_or_nat (2 ^ 8 * (65536 * x0 + 256 * x1 + x2)) x3 (by omega) (by omega)
    rw [or_add 8 _ x3 (by omega)] at this
    rw [show (16777216 * x0 + 65536 * x1 + 256 * x2 + x3 : Nat) = 2 ^ 8 * (65536 * x0 + 256 * x1 + x2) + x3 from by omega, ← this]
    congr 1
    omega
  rw [e1, e2, e3]
end ck

theorem Sl.bytes {w : World} {a : Option Addr} {n cap : Nat} {l : List Int} (h : Sl .u8 w a n cap l) : sm.Bytes l := by
  intro x hx
  have := h.wf x hx
  simp [Lit.wf, IntKind.min, IntKind.max, IntKind.bits, IntKind.signed] at this
  omega
def U32Post (v : Nat) (w : World) (e : Ending) (w' : World) : Prop := e = .returned (.int .u32 (v : Nat)) ∧ Below w.heap.size w w'
set_option maxRecDepth 100000 in
set_option maxHeartbeats 800000 in
theorem uint32_any (a : Option Addr) (n cap : Nat) (l : List Int) (w : World) (h : Sl .u8 w a n cap l) (h4 : 4 ≤ n) :
    Calls Tryd.prog 47 #[.agg #[], .slice a n cap] w (U32Post (ck.be32 l) w) := by
  obtain ⟨b, off, rfl, hcell⟩ := h.cells (by omega)
  have hb := h.bytes
  have hl := h.len
  have hfit := h.fits
  have hx : ∀ i, i < 4 → ∃ x : Nat, x < 256 ∧ l.getD i 0 = (x : Int) := fun i hi => by
    have := hb (l.getD i 0) (sm.getD_mem (by omega))
    exact ⟨(l.getD i 0).toNat, by omega, by omega⟩
  obtain ⟨x0, h0, e0⟩ := hx 0 (by omega)
  obtain ⟨x1, h1, e1⟩ := hx 1 (by omega)
  obtain ⟨x2, h2, e2⟩ := hx 2 (by omega)
  obtain ⟨x3, h3, e3⟩ := hx 3 (by omega)
  have B1 := (Below.refl w.heap.size w).alloc (Nat.le_refl _) (.cells #[] 68)
  have c0 := keep_cell B1 (hcell 0 (by omega))
  have c1 := keep_cell B1 (hcell 1 (by omega))
  have c2 := keep_cell B1 (hcell 2 (by omega))
  have c3 := keep_cell B1 (hcell 3 (by omega))
  rw [Nat.add_zero] at c0
  rw [e0] at c0
  rw [e1] at c1
  rw [e2] at c2
  rw [e3] at c3
  have HV : Hid (ck.be32 l = 16777216 * x0 + 65536 * x1 + 256 * x2 + x3) := Lib.hid (by unfold ck.be32; rw [e0, e1, e2, e3]; simp)
  have BB := Lib.hid B1
  clear h hcell hb hl hx e0 e1 e2 e3 B1
  go_enter Tryd.func47, Tryd.ntmps47
  go_wp2_with fail
  generalize w.alloc (.cells #[] 68) = w1 at *
  go_quiet (fail)
  go_wp2_with fail
  go_ret
  exact ⟨by rw [HV.out, ck.or4 h0 h1 h2 h3]; rfl, below_drewN BB.out _⟩

/-- bytes that may be written on: a row of one's own, or one that is full -/
def OutRow (w : World) (base : Nat) (v : Value) (n : Nat) (xs : List Int) : Prop :=
  w.ownsRow base 5 1 v n (xs.map (Value.int .u8)) ∨ ∃ g cs fr, v = .slice (some ⟨g, 0, none⟩) n n ∧ base ≤ g ∧ w.heap[g]? = some (.cells cs 5 fr) ∧ xs.length = n ∧ ∀ j u, (xs.map (Value.int .u8))[j]? = some u → w.cell? ((⟨g, 0, none⟩ : Addr).add j) = some u
theorem OutRow.below {w w' : World} {base n : Nat} {v : Value} {xs : List Int} (h : OutRow w base v n xs) (hb : Below w.heap.size w w') : OutRow w' base v n xs := by
  rcases h with h | ⟨g, cs, fr, h1, h4, h5, h2, h3⟩
  · exact .inl (ownsRow_below h hb)
  · exact .inr ⟨g, cs, fr, h1, h4, (hb.block _ (block_lt h5)).trans h5, h2, fun j u hu => keep_cell hb (h3 j u hu)⟩
theorem OutRow.alloc {w : World} {base n : Nat} {v : Value} {xs : List Int} (h : OutRow w base v n xs) (o : Obj) : OutRow (w.alloc o) base v n xs := h.below ((Below.refl _ _).alloc (Nat.le_refl _) o)
theorem OutRow.apart {w : World} {base n b : Nat} {v : Value} {xs : List Int} {cs : Array Value} {t : TypeId} (h : OutRow w base v n xs) (hb : w.heap[b]? = some (.cells cs t (0, 0))) (ht : t ≠ 5) : some b ≠ v.ownBlock := by
  rcases h with h | ⟨g, cs', fr, rfl, _, h5, _⟩
  · rcases row_apart h hb ht with h1 | h1
    · rw [h1]; simp
    · exact Ne.symm h1
  · intro e
    have hbg : b = g := by simpa [Value.ownBlock] using e
    subst hbg
    rw [hb] at h5
    simp only [Option.some.injEq, Obj.cells.injEq] at h5
    exact ht h5.2.1
theorem OutRow.lt {w : World} {base n k : Nat} {v : Value} {xs : List Int} (h : OutRow w base v n xs) (hk : v.ownBlock = some k) : base ≤ k := by
  rcases h with h | ⟨g, cs', fr, rfl, h4, _⟩
  · exact (World.ownsRow.lt h k hk).1
  · have : g = k := by simpa [Value.ownBlock] using hk
    omega

def App4Post (base : Nat) (v : Value) (n : Nat) (xs : List Int) (w : World) (e : Ending) (w' : World) : Prop :=
  ∃ v', e = .returned v' ∧ w'.ownsRow base 5 1 v' n (xs.map (Value.int .u8)) ∧ w.grownBy w' v.ownBlock
set_option maxRecDepth 100000 in
set_option maxHeartbeats 800000 in
theorem append32_any (base : Nat) (v : Value) (n : Nat) (xs : List Int) (c : Nat) (w : World) (h : OutRow w base v n xs) (hb : base ≤ w.heap.size) (hn : n ≤ 70368744177664) (hc : c < 4294967296) :
    Calls Tryd.prog 35 #[.agg #[], v, .int .u32 (c : Nat)] w (App4Post base v (n + 4) (xs ++ ck.be4 c) w) := by
  obtain ⟨i0, hi, hz0, hz1, hz2⟩ := info_parts infoByte
  have BN : Hid (((ck.be4 c).map (Value.int .u8)) = [.int .u8 ((c : Int) / 16777216), .int .u8 ((c : Int) / 65536 % 256), .int .u8 ((c : Int) / 256 % 256), .int .u8 ((c : Int) % 256)]) := Lib.hid (by simp [ck.be4])
  have NW := Lib.hid (news_alloc (w.alloc (.cells #[] 68)) [.int .u8 ((c : Int) / 16777216), .int .u8 ((c : Int) / 65536 % 256), .int .u8 ((c : Int) / 256 % 256), .int .u8 ((c : Int) % 256)] 5)
  have HO := Lib.hid ((h.alloc (.cells #[] 68)).alloc (.cells #[.int .u8 ((c : Int) / 16777216), .int .u8 ((c : Int) / 65536 % 256), .int .u8 ((c : Int) / 256 % 256), .int .u8 ((c : Int) % 256)] 5))
  have G0 := Lib.hid (grown_any (row := v.ownBlock) (grown_of_below (((Below.refl w.heap.size w).alloc (Nat.le_refl _) (.cells #[] 68)).alloc (by simp) (.cells #[.int .u8 ((c : Int) / 16777216), .int .u8 ((c : Int) / 65536 % 256), .int .u8 ((c : Int) / 256 % 256), .int .u8 ((c : Int) % 256)] 5))))
  have SZ : Hid ((w.alloc (.cells #[] 68)).heap.size = w.heap.size + 1) := Lib.hid (by simp)
  have SZ2 : Hid (base ≤ ((w.alloc (.cells #[] 68)).alloc (.cells #[.int .u8 ((c : Int) / 16777216), .int .u8 ((c : Int) / 65536 % 256), .int .u8 ((c : Int) / 256 % 256), .int .u8 ((c : Int) % 256)] 5)).heap.size) := Lib.hid (by simp; omega)
  rw [SZ.out] at NW
  clear h SZ
  rcases HO.out with h | ⟨g, _, _, rfl, _, _, hl, hc0⟩
  · have H := Lib.hid h
    clear h HO
    go_enter Tryd.func35, Tryd.ntmps35
    go_wp2_with (at_builtin; go_must (refine wpList_append_own _ rfl _ _ 22 rfl base 5 i0 (.int .u8 0) 1 1 Tryd.underlying22 hi hz0 hz1 hz2 rfl (by decide) v n _ rfl H.out ⟨w.heap.size + 1, 0, none⟩ 4 4 [.int .u8 ((c : Int) / 16777216), .int .u8 ((c : Int) / 65536 % 256), .int .u8 ((c : Int) / 256 % 256), .int .u8 ((c : Int) % 256)] rfl rfl NW.out (by simp [Value.oneCell']) (by unfold maxLen; omega) (by omega) SZ2.out ?_; intro v' w1 hown hg hnil; have Hown := Lib.hid hown; have Hg := Lib.hid hg; clear hown hg hnil))
    go_ret
    exact ⟨v', rfl, by rw [List.map_append, BN.out]; exact Hown.out, grown_join G0.out Hg.out⟩
  · have H := Lib.hid hc0
    have HL := Lib.hid hl
    clear hc0 HO hl
    go_enter Tryd.func35, Tryd.ntmps35
    go_wp2_with (at_builtin; go_must (refine wpList_append_grows _ rfl _ _ 22 rfl 5 i0 (.int .u8 0) 1 1 Tryd.underlying22 hi hz0 hz1 hz2 rfl (by decide) (some ⟨g, 0, none⟩) n n (xs.map (Value.int .u8)) rfl (fun e => by cases e) (by rw [List.length_map, HL.out, Nat.mul_one]) (fun b e j u hu => by cases e; exact H.out j u hu) ⟨w.heap.size + 1, 0, none⟩ 4 4 [.int .u8 ((c : Int) / 16777216), .int .u8 ((c : Int) / 65536 % 256), .int .u8 ((c : Int) / 256 % 256), .int .u8 ((c : Int) % 256)] rfl rfl NW.out (by simp [Value.oneCell']) (by omega) (by unfold maxLen; omega) (by omega) ?_; intro v' w1 hown hg; have Hown := Lib.hid hown; have Hg := Lib.hid hg; clear hown hg))
    go_ret
    exact ⟨v', rfl, by rw [List.map_append, BN.out]; exact ownsRow_base Hown.out SZ2.out, grown_join G0.out (grown_any Hg.out)⟩

/-- 'string(b)' -/
theorem conv_str {w : World} {a : Option Addr} {n cap : Nat} {l : List Int} (h : Sl .u8 w a n cap l) : (convert 22 9 (.slice a n cap)).run Tryd.prog w = .ok (.string (strOfNums l)) w := by
  rcases Nat.eq_zero_or_pos n with h0 | h0
  · subst h0
    obtain rfl : l = [] := List.eq_nil_of_length_eq_zero h.len
    rw [run_convert_bytes_string w 22 9 5 _ 0 cap Tryd.underlying22 Tryd.underlying5 Tryd.underlying9]
    cases a <;> simp [Conv.bytesToString, loadCells]
    all_goals rfl
  · obtain ⟨b, off, rfl, hc⟩ := h.cells h0
    exact run_convert_bytes_arg w 22 5 Tryd.underlying22 Tryd.underlying5 b off n cap l h.len hc 9 Tryd.underlying9
theorem ck.nums_inj : ∀ {xs ys : List Int}, sm.Bytes xs → sm.Bytes ys → (strOfNums xs).data.toList = (strOfNums ys).data.toList → xs = ys
  | [], [], _, _, _ => rfl
  | [], _ :: _, _, _, h => by simp [strOfNums] at h
  | _ :: _, [], _, _, h => by simp [strOfNums] at h
  | x :: xs, y :: ys, hx, hy, h => by
    simp only [strOfNums, List.map_cons, List.cons.injEq] at h
    have h1 := hx x (by simp)
    have h2 := hy y (by simp)
    have h3 : (UInt8.ofNat x.toNat).toNat = (UInt8.ofNat y.toNat).toNat := by rw [h.1]
    rw [UInt8.toNat_ofNat', UInt8.toNat_ofNat'] at h3
    have h4 : xs = ys := ck.nums_inj (fun z hz => hx z (by simp [hz])) (fun z hz => hy z (by simp [hz])) h.2
    have h5 : x = y := by omega
    rw [h4, h5]
theorem ck.nums_eq {xs ys : List Int} (hx : sm.Bytes xs) (hy : sm.Bytes ys) : ((strOfNums xs).toList == (strOfNums ys).toList) = decide (xs = ys) := by
  rw [ByteArray.toList_eq, ByteArray.toList_eq]
  by_cases h : xs = ys
  · subst h; simp
  · rw [decide_eq_false h]
    exact beq_eq_false_iff_ne.2 fun e => h (ck.nums_inj hx hy e)

theorem Sl.take {k : IntKind} {w : World} {a : Option Addr} {n cap m : Nat} {l : List Int} (h : Sl k w a n cap l) (hm : m ≤ n) : Sl k w a m cap (l.take m) :=
  ⟨by rw [List.length_take, h.len]; omega, Nat.le_trans hm h.fits, h.most, h.bare, fun x hx => h.wf x (List.mem_of_mem_take hx), h.rd.take m⟩
theorem Sl.drop {k : IntKind} {w : World} {b off n cap m : Nat} {l : List Int} (h : Sl k w (some ⟨b, off, none⟩) n cap l) (hm : m ≤ n) : Sl k w (some ⟨b, off + m, none⟩) (n - m) (cap - m) (l.drop m) :=
  ⟨by rw [List.length_drop, h.len], by have := h.fits; omega, Nat.le_trans (Nat.sub_le _ _) h.most, (fun e => by cases e), fun x hx => h.wf x (List.mem_of_mem_drop hx), h.rd.drop m⟩
def BoolPost (b : Bool) (w : World) (e : Ending) (w' : World) : Prop := e = .returned (.bool b) ∧ w = w'
set_option maxRecDepth 100000 in
theorem equal_any (a a' : Option Addr) (n n' cap cap' : Nat) (l l' : List Int) (w : World) (h : Sl .u8 w a n cap l) (h' : Sl .u8 w a' n' cap' l') :
    Calls Tryd.prog 45 #[.slice a n cap, .slice a' n' cap'] w (BoolPost (decide (l = l')) w) := by
  have k1 := conv_str h
  have k2 := conv_str h'
  have HE := Lib.hid (ck.nums_eq h.bytes h'.bytes)
  clear h h'
  generalize strOfNums l = s at *
  generalize strOfNums l' = s' at *
  go_enter Tryd.func45, Tryd.ntmps45
  go_wp2_with fail
  go_ret
  exact ⟨by rw [← HE.out]; rfl, rfl⟩
set_option maxRecDepth 100000 in
theorem hasPrefix_any (a a' : Option Addr) (n n' cap cap' : Nat) (l l' : List Int) (w : World) (h : Sl .u8 w a n cap l) (h' : Sl .u8 w a' n' cap' l') :
    Calls Tryd.prog 28 #[.slice a n cap, .slice a' n' cap'] w (BoolPost (decide (l.take n' = l')) w) := by
  have hm : n ≤ maxLen := Nat.le_trans h.fits h.most
  have hm' : n' ≤ maxLen := Nat.le_trans h'.fits h'.most
  unfold maxLen at hm hm'
  have hfit := h.fits
  have HL := Lib.hid h.len
  have HL' := Lib.hid h'.len
  have HS := Lib.hid h
  have HS' := Lib.hid h'
  clear h h'
  by_cases hlt : n' ≤ n
  · have hge : ((n' : Int) ≤ (n : Int)) := by omega
    go_enter Tryd.func28, Tryd.ntmps28
    go_wp2_with fail
    refine (equal_any a a' n' n' cap cap' (l.take n') l' w (HS.out.take hlt) HS'.out).mono ?_
    rintro e w1 ⟨rfl, rfl⟩
    go_wp2_with fail
    go_ret
    exact ⟨rfl, rfl⟩
  · have HV : Hid (decide (l.take n' = l') = false) := Lib.hid (decide_eq_false fun e => by have h1 : (l.take n').length = l'.length := by rw [e]
                                                                                            rw [List.length_take, HL.out, HL'.out] at h1; omega)
    go_enter Tryd.func28, Tryd.ntmps28
    go_wp2_with fail
    go_ret
    exact ⟨by rw [HV.out]; rfl, rfl⟩


set_option maxRecDepth 100000 in
theorem clone_any (b off : Nat) (n cap : Nat) (l : List Int) (w : World) (h : Sl .u8 w (some ⟨b, off, none⟩) n cap l) (hr : n ≤ 140737488355328) :
    Calls Tryd.prog 48 #[.slice (some ⟨b, off, none⟩) n cap] w fun e w' => OwnPost w.heap.size n l w e w' := by
  obtain ⟨i0, hi, hz0, hz1, hz2⟩ := info_parts infoByte
  have hlit := World.ownsRow_lit (e := 5) (size := 1) w #[] 0 (Nat.le_refl _) (by simp) rfl
  have H := Lib.hid h
  have Hlit := Lib.hid hlit
  clear h hlit
  have hsl := H.out.below ((Below.refl _ _).alloc (Nat.le_refl _) (.cells #[] 5))
  have HN := Lib.hid hsl.at_news
  have hsz : (w.alloc (.cells #[] 5)).heap.size = w.heap.size + 1 := by simp
  have Hsz := Lib.hid hsz
  clear hsl hsz
  have hnil := fun (w : World) => Lib.run_eql_slice_nil (P := Tryd.prog) w 22 5 (some ⟨b, off, none⟩) n cap 0 0 Tryd.underlying22
  go_enter Tryd.func48, Tryd.ntmps48
  go_wp2_with (at_builtin; go_must (refine wpList_append_own _ rfl _ _ 22 rfl w.heap.size 5 i0 (.int .u8 0) 1 1 Tryd.underlying22 hi hz0 hz1 hz2 rfl (by decide) (.slice (some ⟨w.heap.size, 0, none⟩) 0 0) 0 _ rfl Hlit.out ⟨b, off, none⟩ n cap (l.map (Value.int .u8)) rfl (by rw [List.length_map, H.out.len, Nat.mul_one]) HN.out (ints_oneCell _ _) (by unfold maxLen; omega) (by omega) (by rw [Hsz.out]; omega) ?_; intro v' w1 hown hg hnil; have Hown := Lib.hid hown; have Hg := Lib.hid hg; have Hnil := Lib.hid hnil; clear hown hg hnil))
  go_ret
  have ho : w1.ownsRow w.heap.size 5 1 v' n (l.map (Value.int .u8)) := by
    have := Hown.out
    simpa using this
  refine ⟨_, rfl, fresh_of ho (fun e => ?_), ((Below.refl _ _).alloc (Nat.le_refl _) _).grown Hg.out (by simp) (fun k hk => Nat.le_of_eq (Option.some.inj hk))⟩
  exact absurd (Hnil.out.1 e) (by simp)
end Go.Proofs.YtfaemhmefijaoaaDoor
