/- CRC-32, as the program reckons it, is the document's. -/
import Derived.Test.YtfaemhmefijaoaaDoorSumsTable
namespace Go.Proofs.YtfaemhmefijaoaaDoor
open Go.RowKit
theorem sm.not_u32 {c : Nat} (h : c < 4294967296) : bits BinOp.xor IntKind.u32 IntKind.u32.max (c : Int) = ((sm.crcNot c : Nat) : Int) := by
  have := u32_xor_nat 4294967295 c (by omega) h
  rw [Nat.xor_comm] at this
  exact this
set_option maxRecDepth 100000 in
set_option maxHeartbeats 400000 in
theorem crcOn_any (sum : Nat) (a : Option Addr) (n cap : Nat) (l : List Int) (w : World) (hs : sum < 4294967296) (hn : l.length = n) (hm : n ≤ maxLen) (hb : sm.Bytes l) (hr : Rd .u8 w a l) :
    Calls Tryd.prog 51 #[.int .u32 (sum : Nat), .slice a n cap] w fun e w' => e = .returned (.int .u32 (sm.crcOn sum l : Nat)) ∧ Below w.heap.size w w' := by
  unfold maxLen at hm
  obtain ⟨hz, hsz⟩ := zero_of_info infoTab
  have Hsz : Hid (Option.map (fun x => x.size) (Tryd.prog.info? 89) = some (sm.tabRow 256).size) := by rw [sm.tabRow_size]; exact hsz
  have Hr := Lib.hid hr
  have Hn := Lib.hid hn
  clear hsz hr hn
  go_enter Tryd.func51, Tryd.ntmps51
  go_wp2_with (first
    | (go_at_call 62; refine (table_any _).mono ?_; rintro e w1 ⟨rfl, hb1⟩; have Hb1 := Lib.hid hb1; clear hb1)
    | (with_reducible refine wpList_store_row rfl 89 _ _ rfl w1.heap.size _ rfl rfl 89 _ (heap_alloc_last _ _) Hsz.out (sm.tabRow_sizes 0 256) (sm.tabRow_one 256) ?_; rw [World.setRow_alloc_new]))
  obtain ⟨w2, hw2⟩ : ∃ w2, w2 = w1.alloc (Obj.cells (sm.tabRow 256) 89) := ⟨_, rfl⟩
  have HT : Hid (w2.heap[w1.heap.size]? = some (Obj.cells (sm.tabRow 256) 89 (0, 0))) := by rw [hw2]; exact heap_alloc_last _ _
  have HB : Hid (Below w.heap.size w w2) := by rw [hw2]; exact Hb1.out.alloc Hb1.out.size _
  have Hr2 : Hid (Rd .u8 w2 a l) := Hr.out.below HB.out
  rw [← hw2]
  clear Hb1 hw2 Hr
  generalize w1.heap.size = g at *
  go_loop [6, 14] (fun c i => ∃ k : Nat, k ≤ n ∧ i = .int .i64 k ∧ c = .int .u32 (sm.crcRaw (sm.crcNot sum) (l.take k) : Nat)) (fun _ i => n - (intOf i).toNat)
  case atStart => exact ⟨0, by omega, rfl, by rw [sm.not_u32 hs]; rfl⟩
  case round =>
    obtain ⟨k, hk, rfl, rfl⟩ := hrel
    by_cases hlt : k < n
    · rcases Hr2.out with h0 | ⟨b, off, rfl, hcell⟩
      · have := Hn.out; rw [h0] at this; simp at this; omega
      · have hcl := sm.crcRaw_lt (l := l.take k) (sm.crcNot_lt hs) (hb.take k)
        have hx := hb (l.getD k 0) (sm.getD_mem (by rw [Hn.out]; exact hlt))
        have HS : Hid (sm.crcRaw (sm.crcNot sum) (l.take (k + 1)) = sm.crcByte (sm.crcRaw (sm.crcNot sum) (l.take k)) (l.getD k 0).toNat) := Lib.hid (by rw [sm.take_snoc (by rw [Hn.out]; exact hlt), sm.crcRaw_snoc])
        have hc1 := hcell k (by rw [Hn.out]; exact hlt)
        clear hcell
        generalize sm.crcRaw (sm.crcNot sum) (l.take k) = c at *
        obtain ⟨x, hx0⟩ : ∃ x : Nat, l.getD k 0 = (x : Int) := ⟨(l.getD k 0).toNat, by omega⟩
        rw [hx0] at hc1 hx HS
        clear hx0
        have hx2 : x < 256 := by omega
        have hidx : c % 256 ^^^ x < 256 := sm.xor_lt8 (by omega) hx2
        have hxo : bits BinOp.xor IntKind.u8 ((c : Int) % 256) (x : Int) = ((c % 256 ^^^ x : Nat) : Int) := by
          exact u8_xor_nat (c % 256) x (by omega) hx2
        have hct := (cell_of_row w2 g (c % 256 ^^^ x) _ 89 (0, 0) HT.out).trans (sm.tabRow_get 256 _ hidx)
        rw [if_pos hidx] at hct
        have htb := sm.crcTab_lt (i := c % 256 ^^^ x) (by omega)
        have HE : Hid (sm.crcTab (c % 256 ^^^ x) ^^^ c / 256 = sm.crcByte c x) := sm.crcByte_tab c x hx2
        generalize sm.crcTab (c % 256 ^^^ x) = y at *
        generalize c % 256 ^^^ x = z at *
        go_wp2
        go_round
        case rel => exact ⟨k + 1, by omega, by go_num, by rw [HS.out, Int.toNat_natCast, ← HE.out, ← u32_xor_nat y (c / 256) htb (by omega)]; rfl⟩
        case measure => simp [intOf]; omega
    · obtain rfl : k = n := by omega
      have hcl := sm.crcRaw_lt (sm.crcNot_lt hs) (l := l) hb
      have HF : Hid (sm.crcRaw (sm.crcNot sum) (l.take k) = sm.crcRaw (sm.crcNot sum) l) := Lib.hid (by rw [List.take_of_length_le (by rw [Hn.out]; omega)])
      go_wp2
      go_ret
      exact ⟨by rw [HF.out, sm.not_u32 hcl]; rfl, HB.out⟩

theorem crc_any (a : Option Addr) (n cap : Nat) (l : List Int) (w : World) (hn : l.length = n) (hm : n ≤ maxLen) (hb : sm.Bytes l) (hr : Rd .u8 w a l) :
    Calls Tryd.prog 36 #[.slice a n cap] w fun e w' => e = .returned (.int .u32 (sm.crcOn 0 l : Nat)) ∧ Below w.heap.size w w' := by
  have H := Lib.hid (crcOn_any 0 a n cap l w (by omega) hn hm hb hr)
  clear hn hr
  go_enter Tryd.func36, Tryd.ntmps36
  go_wp2_with (go_at_call 51; go_must (refine H.out.mono ?_; rintro e w1 ⟨rfl, hb1⟩))
  go_ret
  exact ⟨rfl, hb1⟩
end Go.Proofs.YtfaemhmefijaoaaDoor
