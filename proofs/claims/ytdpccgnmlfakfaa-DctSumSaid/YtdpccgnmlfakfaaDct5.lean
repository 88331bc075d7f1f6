/- The walks of both: two turns, and a rounding; Forward and Inverse. -/
import Derived.Test.YtdpccgnmlfakfaaDct4
import Derived.Test.YtdpccgnmlfakfaaOwnI
import Derived.Deep.RegionHeld3
namespace Go.Proofs.Ytdpccgnmlfakfaa
open Go.RowKit

def IntsPost (base n : Nat) (l : List Int) (w : World) (e : Ending) (w' : World) : Prop := ∃ v, e = .returned v ∧ Fresh .i64 3 base w' v n l ∧ Below w.heap.size w w'

theorem make64 (w : World) : (Instr.makeSlice 22 (.int .i64 0) (.int .i64 64)).run Try.prog w = .ok (.slice (some ⟨w.heap.size, 0, none⟩) 0 64) (w.alloc (.cells (ints zero64) 3)) := by
  obtain ⟨i0, hi, hz0, hz1, hz2⟩ := info_parts infoInt
  have h := run_make (P := Try.prog) w 22 3 i0 (.int .i64 0) Try.underlying22 hi hz0 .i64 .i64 0 64 (by omega) (by omega) (by rw [hz2]; decide) (by decide)
  rw [h]
  have e : madeCells (Value.int IntKind.i64 0).cells ((64 : Int).toNat * i0.size) = ints zero64 := by
    rw [hz1]
    kernel_rfl
  first
    | rw [e]
    | skip
  rfl

set_option maxRecDepth 100000 in
set_option maxHeartbeats 1600000 in
theorem both_same (a : Option Addr) (cap : Nat) (l b : List Int) (w : World) (hl : l.length = 64) (hb : b.length = 64) (hbb : dm.Within 8192 b) (hlb : dm.Within 1048576 l) (hr : Rd .i64 w a l) :
    Calls Try.prog 26 #[.slice a 64 cap, .agg (ints b), .func (.func 28) #[] #[]] w fun e w' => IntsPost w.heap.size 64 ((dm.turn (dm.turn l b) b).map fun v =>  (dm.rnd v)) w e w' := by
  obtain ⟨i0, hi, hz0, hz1, hz2⟩ := info_parts infoInt
  obtain ⟨bl, off, rfl⟩ := hr.at (by rw [hl]; decide)
  have hl1 : dm.Within 1099511627776 l := fun x hx => by have := hlb x hx; omega
  have hl2 : dm.Within 1099511627776 (dm.turn l b) := fun x hx => by have := dm.turn_within hbb hlb x hx; omega
  have hl3 : dm.Within 4503599627370496 (dm.turn (dm.turn l b) b) := fun x hx => by have := dm.turn_within hbb (dm.turn_within hbb hlb) x hx; omega
  have Hr := Lib.hid hr
  have Hl := Lib.hid hl
  have Hb := Lib.hid hb
  have Hbb := Lib.hid hbb
  have Hl1 := Lib.hid hl1
  have Hl2 := Lib.hid hl2
  have Hl3 := Lib.hid hl3
  obtain ⟨T, hT⟩ : ∃ T, T = dm.turn (dm.turn l b) b := ⟨_, rfl⟩
  have hTl : T.length = 64 := by rw [hT]; exact dm.turn_length _ _
  have HTl := Lib.hid hTl
  rw [← hT] at Hl3
  rw [← hT]
  have HT := Lib.hid hT
  clear hr hl hb hbb hlb hl1 hl2 hl3 hT hTl
  have hmk := make64
  go_enter Try.func26, Try.ntmps26
  go_upto_region 2 with fail
  obtain ⟨w1, hw1⟩ : ∃ w1, w1 = (w.alloc (.cells (ints b) 46)).alloc (.cells (ints zero64) 3) := ⟨_, rfl⟩
  have HO1 : Hid (w1.ownsRow w.heap.size 3 1 (.slice (some ⟨w.heap.size + 1, 0, none⟩) 0 64) 0 ([].map (Value.int .i64))) := Lib.hid (by
    have := World.ownsRow_made (e := 3) (size := 1) (base := w.heap.size) (w.alloc (.cells (ints b) 46)) (ints zero64) 64 (by simp) (by decide) (by rw [ints_size]; rfl)
    rw [hw1]
    simpa using this)
  have HB1 : Hid (Below w.heap.size w w1) := Lib.hid (by rw [hw1]; exact ((Below.refl _ _).alloc (Nat.le_refl _) _).alloc (by simp) _)
  have HX1 : Hid (w1.heap[w.heap.size]? = some (.cells (ints b) 46 (0, 0))) := Lib.hid (by rw [hw1]; exact heap_alloc2_old _ _ _)
  have HS1 : Hid (w.heap.size + 1 < w1.heap.size) := Lib.hid (by rw [hw1]; simp)
  rw [← hw1]
  have Hr1 := Lib.hid (Hr.out.below HB1.out)
  clear hw1 hmk
  go_cut [16, 17] (fun s16 s17 wx => ∃ g2, s16 = .pointer (some ⟨g2, 0, none⟩) ∧ s17 = .int .i64 0 ∧ wx.heap[g2]? = some (.cells (ints T) 50 (0, 0)) ∧ Below w1.heap.size w1 wx ∧ w1.heap.size ≤ g2)
  case first =>
    have hsz64 := (zero_of_info infoB).2
    obtain ⟨cs, hcs⟩ : ∃ cs : List Value, cs = b.map (Value.int .i64) := ⟨_, rfl⟩
    have hcl : cs.length = 64 := by rw [hcs, List.length_map, Hb.out]
    have hcsz : (Try.prog.info? 46).map (fun x => x.size) = some cs.length := by rw [hcl]; exact hsz64
    have hcone : ∀ v ∈ cs, v.oneCell' = true := by rw [hcs]; exact ints_oneCell _ _
    have hra : w1.rangeAt w.heap.size 0 cs := by
      intro j v hv
      have hj : j < cs.length := (List.getElem?_eq_some_iff.1 hv).1
      rw [Nat.zero_add, ints_cell HX1.out j (by rw [Hb.out]; omega)]
      rw [hcs, List.getElem?_map, List.getElem?_eq_getElem (by rw [Hb.out]; omega)] at hv
      rw [List.getD_eq_getElem?_getD, List.getElem?_eq_getElem (by rw [Hb.out]; omega)]
      exact hv
    have hat : ∀ w, (Instr.arrayAt 50 (.slice (some ⟨bl, off, none⟩) 64 cap)).run Try.prog w = .ok (.pointer (some ⟨bl, off, none⟩)) w := fun w => run_arrayAt w 50 _ 64 _ 64 _ Try.underlying50 (Nat.le_refl _)
    have TC : Hid (∀ (l' : List Int) (g o : Nat) (wz : World), l'.length = 64 → dm.Within 1099511627776 l' → (∀ i, i < 64 → wz.cell? ⟨g, o + i, none⟩ = some (.int .i64 (l'.getD i 0))) →
        Calls Try.prog 39 #[.pointer (some ⟨g, o, none⟩), .agg cs.toArray] wz fun e w' => e = .returned (.pointer (some ⟨wz.heap.size + 1, 0, none⟩)) ∧ w'.heap[wz.heap.size + 1]? = some (.cells (ints (dm.turn l' b)) 50 (0, 0)) ∧ Below wz.heap.size wz w') := Lib.hid (by
      intro l' g o wz q1 q2 q3
      rw [hcs]
      exact turn_any l' b g o wz q1 Hb.out Hbb.out q2 q3)
    have hu := Try.underlying46
    have HC1 : Hid (∀ i, i < 64 → w1.drew.cell? ⟨bl, off + i, none⟩ = some (.int .i64 (l.getD i 0))) := Lib.hid (fun i hi => Hr1.out.cell i (by rw [Hl.out]; exact hi))
    clear hcs
    refine wp_region_held_drew (S := fun w' => w'.rangeAt w.heap.size 0 cs) (by kernel_rfl) (keep_range (by exact Below.drew (Below.refl _ _)) hra) (fun hHeld => ?_)
    refine wpAnyH_take (i := 2) (oi := { dst := some 13, op := Op.load 46 (Operand.tmp 4), type := 46, pos := "dct.go:68", after := #[], guard := none }) (v := .agg cs.toArray) rfl (by kernel_rfl) (by kernel_rfl) (by kernel_rfl) (fun _ _ _ h => h) (yieldsIf_load_mid (by rfl) _ _ rfl _ _ rfl cs _ (fun w' hw' => hw') hu rfl hcsz) hHeld ?_
    simp only [Act.put, List.setIfInBounds_toArray, List.set_cons_zero, List.set_cons_succ]
    refine wpAnyH_take (i := 4) (oi := { dst := some 15, op := Op.load 46 (Operand.tmp 4), type := 46, pos := "dct.go:68", after := #[], guard := none }) (v := .agg cs.toArray) rfl (by kernel_rfl) (by kernel_rfl) (by kernel_rfl) (fun _ _ _ h => h) (yieldsIf_load_mid (by rfl) _ _ rfl _ _ rfl cs _ (fun w' hw' => hw') hu rfl hcsz) hHeld ?_
    simp only [Act.put, List.setIfInBounds_toArray, List.set_cons_zero, List.set_cons_succ]
    refine wpAnyH_take (i := 0) (oi := { dst := some 11, op := Op.move (Operand.tmp 0), type := 22, pos := "dct.go:68", after := #[], guard := none }) (v := .slice (some ⟨bl, off, none⟩) 64 cap) rfl (by kernel_rfl) (by kernel_rfl) (by kernel_rfl) (fun _ _ _ h => h) (Or.inl ⟨by rfl, fun w' _ => rfl⟩) hHeld ?_
    simp only [Act.put, List.setIfInBounds_toArray, List.set_cons_zero, List.set_cons_succ]
    refine wpAnyH_take (i := 6) (oi := { dst := some 17, op := Op.move (Operand.const (Value.int IntKind.i64 0)), type := 3, pos := "dct.go:68", after := #[], guard := none }) (v := .int .i64 0) rfl (by kernel_rfl) (by kernel_rfl) (by kernel_rfl) (fun _ _ _ h => h) (Or.inl ⟨by rfl, fun w' _ => rfl⟩) hHeld ?_
    simp only [Act.put, List.setIfInBounds_toArray, List.set_cons_zero, List.set_cons_succ]
    refine wpAnyH_take (i := 1) (oi := { dst := some 12, op := Op.sliceToArrayPointer 50 (Operand.tmp 11), type := 56, pos := "dct.go:68", after := #[{ on := 0, ground := Ground.data }], guard := none }) (v := .pointer (some ⟨bl, off, none⟩)) rfl (by kernel_rfl) (by kernel_rfl) (by kernel_rfl) (fun _ _ _ h => h) (Or.inl ⟨by rfl, fun w' _ => by go_simp⟩) hHeld ?_
    simp only [Act.put, List.setIfInBounds_toArray, List.set_cons_zero, List.set_cons_succ]
    refine wpAnyH_ready (rs := [3]) (by kernel_rfl) (by simp) ?_
    refine AllReadyH.cons (o := { dst := some 14, op := Op.call { callee := Callee.value (Operand.func 39), args := #[Operand.tmp 12, Operand.tmp 13], argTypes := #[56, 46] }, type := 56, pos := "dct.go:68", after := #[{ on := 1, ground := Ground.data }, { on := 2, ground := Ground.data }], guard := none }) rfl (fun K hK => ?_) ?_
    · go_simp
      refine (TC.out l bl off _ Hl.out Hl1.out HC1.out).mono ?_
      rintro e w2 ⟨rfl, hh2, hb2⟩
      have HB2 := Lib.hid hb2
      have HH2 := Lib.hid hh2
      clear hh2 hb2
      dsimp only
      refine hK.out _ _ (keep_range HB2.out hHeld) (fun hHeld2 => ?_)
      clear hK K
      refine wpAnyH_ready (rs := [5]) (by kernel_rfl) (by simp) ?_
      refine AllReadyH.cons (o := { dst := some 16, op := Op.call { callee := Callee.value (Operand.func 39), args := #[Operand.tmp 14, Operand.tmp 15], argTypes := #[56, 46] }, type := 56, pos := "dct.go:68", after := #[{ on := 3, ground := Ground.data }, { on := 4, ground := Ground.data }, { on := 3, ground := Ground.chain }], guard := none }) rfl (fun K hK => ?_) ?_
      · go_simp
        refine (TC.out (dm.turn l b) _ 0 _ (dm.turn_length _ _) Hl2.out (fun i hi => by rw [Nat.zero_add]; exact ints_cell HH2.out i (by rw [dm.turn_length]; exact hi))).mono ?_
        rintro e w3 ⟨rfl, hh3, hb3⟩
        have HB3 := Lib.hid hb3
        have HH3 := Lib.hid hh3
        clear hh3 hb3
        dsimp only
        refine hK.out _ _ (keep_range HB3.out hHeld2) (fun hHeld3 => ?_)
        clear hK K
        refine wpAnyH_done (by kernel_rfl) ?_ _
        go_wp2_with fail
        go_meet
        exact ⟨_, rfl, rfl, (by rw [HT.out]; exact HH3.out), ((Below.refl _ _).drew.trans (HB2.out.mono (Nat.le_refl _))).trans (HB3.out.mono (by have := HB2.out.size; rw [heap_drew] at this; exact this)), (by have := HB2.out.size; rw [heap_drew] at this; omega)⟩
      · exact AllReadyH.nil
    · exact AllReadyH.nil
  case rest =>
    obtain ⟨g2, rfl, rfl, hh2, hb2, hg2⟩ := hcut
    have HX := Lib.hid hh2
    have HB2 := Lib.hid (HB1.out.trans (hb2.mono HB1.out.size))
    have HG2 := Lib.hid (show w.heap.size ≤ g2 from Nat.le_trans HB1.out.size hg2)
    have HO2 := Lib.hid (HO1.out.kept (row := none) ⟨hb2.os, hb2.tape, hb2.output, hb2.size, fun k hk _ => hb2.block k hk⟩ (by simp [Value.ownBlock]))
    clear HT hh2 hb2 hg2 HO1 HB1 Hr1 HX1 HS1 Hl1 Hl2 Hb Hbb Hr Hl
    go_wp2_with fail
    go_loopg [7, 17] 64 (fun gk v i wr => ∃ k : Nat, k ≤ 64 ∧ gk = 64 - k ∧ i = .int .i64 k ∧ wr.ownsRow w.heap.size 3 1 v k (((T.map (fun v =>  (dm.rnd v))).take k).map (Value.int .i64)) ∧ wr.heap[g2]? = some (.cells (ints T) 50 (0, 0)) ∧ Below w.heap.size w wr)
    case atStart => exact ⟨0, by omega, rfl, rfl, HO2.out, HX.out, HB2.out⟩
    case round =>
      obtain ⟨k, hk, hg, rfl, hown, hx, hnx⟩ := hrel
      have Hg := Lib.hid hg
      have Hown := Lib.hid hown
      have Hx := Lib.hid hx
      have Hnx := Lib.hid hnx
      clear hg hown hx hnx HO2 HX HB2
      by_cases hlt : k < 64
      · have hcell := ints_cell Hx.out k (by rw [HTl.out]; exact hlt)
        have hv := Hl3.out.getD k
        obtain ⟨v, hvv⟩ : ∃ v, v = T.getD k 0 := ⟨_, rfl⟩
        rw [← hvv] at hcell hv
        have Hvv := Lib.hid hvv
        clear hvv
        have HN : Hid (((T.map (fun v =>  (dm.rnd v))).take k) ++ [ (dm.rnd v)] = (T.map (fun v =>  (dm.rnd v))).take (k + 1)) := Lib.hid (by
          have hk' : k < T.length := by rw [HTl.out]; exact hlt
          rw [List.take_add_one, List.getElem?_map, List.getElem?_eq_getElem hk', Hvv.out, List.getD_eq_getElem?_getD, List.getElem?_eq_getElem hk']
          rfl)
        have hsz := Hnx.out.size
        have HO := Lib.hid (Hown.out.alloc (.cells #[.int .i64 ( (dm.rnd v))] 3))
        go_wp2_with fail
        go_must (refine (same_any _ _).mono ?_)
        rintro e w9 ⟨rfl, rfl⟩
        go_wp2_with (at_builtin; go_must (refine wpList_append_own _ rfl _ _ 22 rfl w.heap.size 3 i0 (.int .i64 0) 1 8 Try.underlying22 hi hz0 hz1 hz2 rfl (by decide) _ k _ rfl HO.out ⟨wr.heap.size, 0, none⟩ 1 1 [.int .i64 ( (dm.rnd v))] rfl rfl (cell_one_new _ _ _) (ints_oneCell .i64 [( (dm.rnd v))]) (by unfold maxLen; omega) (by omega) (by simp; omega) ?_; intro v' w3 hown hg hnil; have Hown' := Lib.hid hown; have Hgr := Lib.hid hg; clear hown hg hnil))
        go_roundg (64 - (k + 1))
        case measure => have := Hg.out; omega
        case rel =>
          refine ⟨k + 1, by omega, rfl, by go_num, ?_, ?_, ?_⟩
          · have := Hown'.out
            rw [← HN.out, List.map_append]
            exact this
          · rw [Hgr.out.block g2 (by have := block_lt Hx.out; simp; omega) ?_]
            · exact (heap_alloc_old _ _ (block_lt Hx.out)).trans Hx.out
            · intro e
              rcases Hown.out.2 with ⟨rfl, _⟩ | ⟨g, cap', cur, rfl, _, h', _⟩
              · cases e
              · have e' : some g2 = some g := e
                cases e'
                rw [Hx.out] at h'
                cases h'
          · refine (Hnx.out.alloc hsz _).grown Hgr.out (by simp; omega) ?_
            intro j hj
            exact (Hown.out.lt j hj).1
      · obtain rfl : k = 64 := by omega
        have HZ : Hid (wr.ownsRow w.heap.size 3 1 _ 64 ((T.map (fun v =>  (dm.rnd v))).map (Value.int .i64))) := Lib.hid (by
          have := Hown.out
          rw [List.take_of_length_le (by rw [List.length_map, HTl.out]; exact Nat.le_refl _)] at this
          exact this)
        go_wp2_with fail
        go_ret
        refine ⟨_, rfl, fresh_of HZ.out ?_, Hnx.out⟩
        rintro rfl
        rcases HZ.out.2 with ⟨_, h'⟩ | ⟨g, cap', cur, h', _⟩
        · cases h'
        · cases h'

set_option maxRecDepth 100000 in
set_option maxHeartbeats 1600000 in
theorem both_clamp (a : Option Addr) (cap : Nat) (l b : List Int) (w : World) (hl : l.length = 64) (hb : b.length = 64) (hbb : dm.Within 8192 b) (hlb : dm.Within 1048576 l) (hr : Rd .i64 w a l) :
    Calls Try.prog 26 #[.slice a 64 cap, .agg (ints b), .func (.func 33) #[] #[]] w fun e w' => IntsPost w.heap.size 64 ((dm.turn (dm.turn l b) b).map fun v => dm.clamp8 (dm.rnd v)) w e w' := by
  obtain ⟨i0, hi, hz0, hz1, hz2⟩ := info_parts infoInt
  obtain ⟨bl, off, rfl⟩ := hr.at (by rw [hl]; decide)
  have hl1 : dm.Within 1099511627776 l := fun x hx => by have := hlb x hx; omega
  have hl2 : dm.Within 1099511627776 (dm.turn l b) := fun x hx => by have := dm.turn_within hbb hlb x hx; omega
  have hl3 : dm.Within 4503599627370496 (dm.turn (dm.turn l b) b) := fun x hx => by have := dm.turn_within hbb (dm.turn_within hbb hlb) x hx; omega
  have Hr := Lib.hid hr
  have Hl := Lib.hid hl
  have Hb := Lib.hid hb
  have Hbb := Lib.hid hbb
  have Hl1 := Lib.hid hl1
  have Hl2 := Lib.hid hl2
  have Hl3 := Lib.hid hl3
  obtain ⟨T, hT⟩ : ∃ T, T = dm.turn (dm.turn l b) b := ⟨_, rfl⟩
  have hTl : T.length = 64 := by rw [hT]; exact dm.turn_length _ _
  have HTl := Lib.hid hTl
  rw [← hT] at Hl3
  rw [← hT]
  have HT := Lib.hid hT
  clear hr hl hb hbb hlb hl1 hl2 hl3 hT hTl
  have hmk := make64
  go_enter Try.func26, Try.ntmps26
  go_upto_region 2 with fail
  obtain ⟨w1, hw1⟩ : ∃ w1, w1 = (w.alloc (.cells (ints b) 46)).alloc (.cells (ints zero64) 3) := ⟨_, rfl⟩
  have HO1 : Hid (w1.ownsRow w.heap.size 3 1 (.slice (some ⟨w.heap.size + 1, 0, none⟩) 0 64) 0 ([].map (Value.int .i64))) := Lib.hid (by
    have := World.ownsRow_made (e := 3) (size := 1) (base := w.heap.size) (w.alloc (.cells (ints b) 46)) (ints zero64) 64 (by simp) (by decide) (by rw [ints_size]; rfl)
    rw [hw1]
    simpa using this)
  have HB1 : Hid (Below w.heap.size w w1) := Lib.hid (by rw [hw1]; exact ((Below.refl _ _).alloc (Nat.le_refl _) _).alloc (by simp) _)
  have HX1 : Hid (w1.heap[w.heap.size]? = some (.cells (ints b) 46 (0, 0))) := Lib.hid (by rw [hw1]; exact heap_alloc2_old _ _ _)
  have HS1 : Hid (w.heap.size + 1 < w1.heap.size) := Lib.hid (by rw [hw1]; simp)
  rw [← hw1]
  have Hr1 := Lib.hid (Hr.out.below HB1.out)
  clear hw1 hmk
  go_cut [16, 17] (fun s16 s17 wx => ∃ g2, s16 = .pointer (some ⟨g2, 0, none⟩) ∧ s17 = .int .i64 0 ∧ wx.heap[g2]? = some (.cells (ints T) 50 (0, 0)) ∧ Below w1.heap.size w1 wx ∧ w1.heap.size ≤ g2)
  case first =>
    have hsz64 := (zero_of_info infoB).2
    obtain ⟨cs, hcs⟩ : ∃ cs : List Value, cs = b.map (Value.int .i64) := ⟨_, rfl⟩
    have hcl : cs.length = 64 := by rw [hcs, List.length_map, Hb.out]
    have hcsz : (Try.prog.info? 46).map (fun x => x.size) = some cs.length := by rw [hcl]; exact hsz64
    have hcone : ∀ v ∈ cs, v.oneCell' = true := by rw [hcs]; exact ints_oneCell _ _
    have hra : w1.rangeAt w.heap.size 0 cs := by
      intro j v hv
      have hj : j < cs.length := (List.getElem?_eq_some_iff.1 hv).1
      rw [Nat.zero_add, ints_cell HX1.out j (by rw [Hb.out]; omega)]
      rw [hcs, List.getElem?_map, List.getElem?_eq_getElem (by rw [Hb.out]; omega)] at hv
      rw [List.getD_eq_getElem?_getD, List.getElem?_eq_getElem (by rw [Hb.out]; omega)]
      exact hv
    have hat : ∀ w, (Instr.arrayAt 50 (.slice (some ⟨bl, off, none⟩) 64 cap)).run Try.prog w = .ok (.pointer (some ⟨bl, off, none⟩)) w := fun w => run_arrayAt w 50 _ 64 _ 64 _ Try.underlying50 (Nat.le_refl _)
    have TC : Hid (∀ (l' : List Int) (g o : Nat) (wz : World), l'.length = 64 → dm.Within 1099511627776 l' → (∀ i, i < 64 → wz.cell? ⟨g, o + i, none⟩ = some (.int .i64 (l'.getD i 0))) →
        Calls Try.prog 39 #[.pointer (some ⟨g, o, none⟩), .agg cs.toArray] wz fun e w' => e = .returned (.pointer (some ⟨wz.heap.size + 1, 0, none⟩)) ∧ w'.heap[wz.heap.size + 1]? = some (.cells (ints (dm.turn l' b)) 50 (0, 0)) ∧ Below wz.heap.size wz w') := Lib.hid (by
      intro l' g o wz q1 q2 q3
      rw [hcs]
      exact turn_any l' b g o wz q1 Hb.out Hbb.out q2 q3)
    have hu := Try.underlying46
    have HC1 : Hid (∀ i, i < 64 → w1.drew.cell? ⟨bl, off + i, none⟩ = some (.int .i64 (l.getD i 0))) := Lib.hid (fun i hi => Hr1.out.cell i (by rw [Hl.out]; exact hi))
    clear hcs
    refine wp_region_held_drew (S := fun w' => w'.rangeAt w.heap.size 0 cs) (by kernel_rfl) (keep_range (by exact Below.drew (Below.refl _ _)) hra) (fun hHeld => ?_)
    refine wpAnyH_take (i := 2) (oi := { dst := some 13, op := Op.load 46 (Operand.tmp 4), type := 46, pos := "dct.go:68", after := #[], guard := none }) (v := .agg cs.toArray) rfl (by kernel_rfl) (by kernel_rfl) (by kernel_rfl) (fun _ _ _ h => h) (yieldsIf_load_mid (by rfl) _ _ rfl _ _ rfl cs _ (fun w' hw' => hw') hu rfl hcsz) hHeld ?_
    simp only [Act.put, List.setIfInBounds_toArray, List.set_cons_zero, List.set_cons_succ]
    refine wpAnyH_take (i := 4) (oi := { dst := some 15, op := Op.load 46 (Operand.tmp 4), type := 46, pos := "dct.go:68", after := #[], guard := none }) (v := .agg cs.toArray) rfl (by kernel_rfl) (by kernel_rfl) (by kernel_rfl) (fun _ _ _ h => h) (yieldsIf_load_mid (by rfl) _ _ rfl _ _ rfl cs _ (fun w' hw' => hw') hu rfl hcsz) hHeld ?_
    simp only [Act.put, List.setIfInBounds_toArray, List.set_cons_zero, List.set_cons_succ]
    refine wpAnyH_take (i := 0) (oi := { dst := some 11, op := Op.move (Operand.tmp 0), type := 22, pos := "dct.go:68", after := #[], guard := none }) (v := .slice (some ⟨bl, off, none⟩) 64 cap) rfl (by kernel_rfl) (by kernel_rfl) (by kernel_rfl) (fun _ _ _ h => h) (Or.inl ⟨by rfl, fun w' _ => rfl⟩) hHeld ?_
    simp only [Act.put, List.setIfInBounds_toArray, List.set_cons_zero, List.set_cons_succ]
    refine wpAnyH_take (i := 6) (oi := { dst := some 17, op := Op.move (Operand.const (Value.int IntKind.i64 0)), type := 3, pos := "dct.go:68", after := #[], guard := none }) (v := .int .i64 0) rfl (by kernel_rfl) (by kernel_rfl) (by kernel_rfl) (fun _ _ _ h => h) (Or.inl ⟨by rfl, fun w' _ => rfl⟩) hHeld ?_
    simp only [Act.put, List.setIfInBounds_toArray, List.set_cons_zero, List.set_cons_succ]
    refine wpAnyH_take (i := 1) (oi := { dst := some 12, op := Op.sliceToArrayPointer 50 (Operand.tmp 11), type := 56, pos := "dct.go:68", after := #[{ on := 0, ground := Ground.data }], guard := none }) (v := .pointer (some ⟨bl, off, none⟩)) rfl (by kernel_rfl) (by kernel_rfl) (by kernel_rfl) (fun _ _ _ h => h) (Or.inl ⟨by rfl, fun w' _ => by go_simp⟩) hHeld ?_
    simp only [Act.put, List.setIfInBounds_toArray, List.set_cons_zero, List.set_cons_succ]
    refine wpAnyH_ready (rs := [3]) (by kernel_rfl) (by simp) ?_
    refine AllReadyH.cons (o := { dst := some 14, op := Op.call { callee := Callee.value (Operand.func 39), args := #[Operand.tmp 12, Operand.tmp 13], argTypes := #[56, 46] }, type := 56, pos := "dct.go:68", after := #[{ on := 1, ground := Ground.data }, { on := 2, ground := Ground.data }], guard := none }) rfl (fun K hK => ?_) ?_
    · go_simp
      refine (TC.out l bl off _ Hl.out Hl1.out HC1.out).mono ?_
      rintro e w2 ⟨rfl, hh2, hb2⟩
      have HB2 := Lib.hid hb2
      have HH2 := Lib.hid hh2
      clear hh2 hb2
      dsimp only
      refine hK.out _ _ (keep_range HB2.out hHeld) (fun hHeld2 => ?_)
      clear hK K
      refine wpAnyH_ready (rs := [5]) (by kernel_rfl) (by simp) ?_
      refine AllReadyH.cons (o := { dst := some 16, op := Op.call { callee := Callee.value (Operand.func 39), args := #[Operand.tmp 14, Operand.tmp 15], argTypes := #[56, 46] }, type := 56, pos := "dct.go:68", after := #[{ on := 3, ground := Ground.data }, { on := 4, ground := Ground.data }, { on := 3, ground := Ground.chain }], guard := none }) rfl (fun K hK => ?_) ?_
      · go_simp
        refine (TC.out (dm.turn l b) _ 0 _ (dm.turn_length _ _) Hl2.out (fun i hi => by rw [Nat.zero_add]; exact ints_cell HH2.out i (by rw [dm.turn_length]; exact hi))).mono ?_
        rintro e w3 ⟨rfl, hh3, hb3⟩
        have HB3 := Lib.hid hb3
        have HH3 := Lib.hid hh3
        clear hh3 hb3
        dsimp only
        refine hK.out _ _ (keep_range HB3.out hHeld2) (fun hHeld3 => ?_)
        clear hK K
        refine wpAnyH_done (by kernel_rfl) ?_ _
        go_wp2_with fail
        go_meet
        exact ⟨_, rfl, rfl, (by rw [HT.out]; exact HH3.out), ((Below.refl _ _).drew.trans (HB2.out.mono (Nat.le_refl _))).trans (HB3.out.mono (by have := HB2.out.size; rw [heap_drew] at this; exact this)), (by have := HB2.out.size; rw [heap_drew] at this; omega)⟩
      · exact AllReadyH.nil
    · exact AllReadyH.nil
  case rest =>
    obtain ⟨g2, rfl, rfl, hh2, hb2, hg2⟩ := hcut
    have HX := Lib.hid hh2
    have HB2 := Lib.hid (HB1.out.trans (hb2.mono HB1.out.size))
    have HG2 := Lib.hid (show w.heap.size ≤ g2 from Nat.le_trans HB1.out.size hg2)
    have HO2 := Lib.hid (HO1.out.kept (row := none) ⟨hb2.os, hb2.tape, hb2.output, hb2.size, fun k hk _ => hb2.block k hk⟩ (by simp [Value.ownBlock]))
    clear HT hh2 hb2 hg2 HO1 HB1 Hr1 HX1 HS1 Hl1 Hl2 Hb Hbb Hr Hl
    go_wp2_with fail
    go_loopg [7, 17] 64 (fun gk v i wr => ∃ k : Nat, k ≤ 64 ∧ gk = 64 - k ∧ i = .int .i64 k ∧ wr.ownsRow w.heap.size 3 1 v k (((T.map (fun v => dm.clamp8 (dm.rnd v))).take k).map (Value.int .i64)) ∧ wr.heap[g2]? = some (.cells (ints T) 50 (0, 0)) ∧ Below w.heap.size w wr)
    case atStart => exact ⟨0, by omega, rfl, rfl, HO2.out, HX.out, HB2.out⟩
    case round =>
      obtain ⟨k, hk, hg, rfl, hown, hx, hnx⟩ := hrel
      have Hg := Lib.hid hg
      have Hown := Lib.hid hown
      have Hx := Lib.hid hx
      have Hnx := Lib.hid hnx
      clear hg hown hx hnx HO2 HX HB2
      by_cases hlt : k < 64
      · have hcell := ints_cell Hx.out k (by rw [HTl.out]; exact hlt)
        have hv := Hl3.out.getD k
        obtain ⟨v, hvv⟩ : ∃ v, v = T.getD k 0 := ⟨_, rfl⟩
        rw [← hvv] at hcell hv
        have Hvv := Lib.hid hvv
        clear hvv
        have HN : Hid (((T.map (fun v => dm.clamp8 (dm.rnd v))).take k) ++ [dm.clamp8 (dm.rnd v)] = (T.map (fun v => dm.clamp8 (dm.rnd v))).take (k + 1)) := Lib.hid (by
          have hk' : k < T.length := by rw [HTl.out]; exact hlt
          rw [List.take_add_one, List.getElem?_map, List.getElem?_eq_getElem hk', Hvv.out, List.getD_eq_getElem?_getD, List.getElem?_eq_getElem hk']
          rfl)
        have hsz := Hnx.out.size
        have HO := Lib.hid (Hown.out.alloc (.cells #[.int .i64 (dm.clamp8 (dm.rnd v))] 3))
        go_wp2_with fail
        go_must (refine (clamp8_any _ _ (by omega) (by omega)).mono ?_)
        rintro e w9 ⟨rfl, rfl⟩
        go_wp2_with (at_builtin; go_must (refine wpList_append_own _ rfl _ _ 22 rfl w.heap.size 3 i0 (.int .i64 0) 1 8 Try.underlying22 hi hz0 hz1 hz2 rfl (by decide) _ k _ rfl HO.out ⟨wr.heap.size, 0, none⟩ 1 1 [.int .i64 (dm.clamp8 (dm.rnd v))] rfl rfl (cell_one_new _ _ _) (ints_oneCell .i64 [(dm.clamp8 (dm.rnd v))]) (by unfold maxLen; omega) (by omega) (by simp; omega) ?_; intro v' w3 hown hg hnil; have Hown' := Lib.hid hown; have Hgr := Lib.hid hg; clear hown hg hnil))
        go_roundg (64 - (k + 1))
        case measure => have := Hg.out; omega
        case rel =>
          refine ⟨k + 1, by omega, rfl, by go_num, ?_, ?_, ?_⟩
          · have := Hown'.out
            rw [← HN.out, List.map_append]
            exact this
          · rw [Hgr.out.block g2 (by have := block_lt Hx.out; simp; omega) ?_]
            · exact (heap_alloc_old _ _ (block_lt Hx.out)).trans Hx.out
            · intro e
              rcases Hown.out.2 with ⟨rfl, _⟩ | ⟨g, cap', cur, rfl, _, h', _⟩
              · cases e
              · have e' : some g2 = some g := e
                cases e'
                rw [Hx.out] at h'
                cases h'
          · refine (Hnx.out.alloc hsz _).grown Hgr.out (by simp; omega) ?_
            intro j hj
            exact (Hown.out.lt j hj).1
      · obtain rfl : k = 64 := by omega
        have HZ : Hid (wr.ownsRow w.heap.size 3 1 _ 64 ((T.map (fun v => dm.clamp8 (dm.rnd v))).map (Value.int .i64))) := Lib.hid (by
          have := Hown.out
          rw [List.take_of_length_le (by rw [List.length_map, HTl.out]; exact Nat.le_refl _)] at this
          exact this)
        go_wp2_with fail
        go_ret
        refine ⟨_, rfl, fresh_of HZ.out ?_, Hnx.out⟩
        rintro rfl
        rcases HZ.out.2 with ⟨_, h'⟩ | ⟨g, cap', cur, h', _⟩
        · cases h'
        · cases h'
end Go.Proofs.Ytdpccgnmlfakfaa

