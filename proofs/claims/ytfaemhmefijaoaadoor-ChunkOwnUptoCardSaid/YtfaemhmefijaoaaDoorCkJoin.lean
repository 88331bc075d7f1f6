/- Join: chunks put together. -/
import Derived.Test.YtfaemhmefijaoaaDoorCkApp
namespace Go.Proofs.YtfaemhmefijaoaaDoor
open Go.RowKit Go.Sort Go.Shelf

namespace ck
/-- may the chunk i stand where it stands? -/
def okAt (cs : List Ck) (i : Nat) : Bool := match cs[i]? with
  | some c => lettersL c.1 && (decide (c.1 = iend) == decide (i + 1 = cs.length))
  | none => true
def joinOk (cs : List Ck) : Bool := !cs.isEmpty && (List.range cs.length).all (okAt cs)
def encode (c : Ck) : List Int := be4 (c.2.length % 4294967296) ++ c.1 ++ c.2 ++ be4 (sm.crcOn 0 (c.1 ++ c.2))
def joinedTo (cs : List Ck) (k : Nat) : List Int := sign ++ (cs.take k).flatMap encode
def joined (cs : List Ck) : List Int := joinedTo cs cs.length
def join (cs : List Ck) : Option (List Int) := if joinOk cs then some (joined cs) else none
theorem joinedTo_succ {cs : List Ck} {k : Nat} {c : Ck} (h : cs[k]? = some c) : joinedTo cs (k + 1) = joinedTo cs k ++ encode c := by
  obtain ⟨hk, rfl⟩ := List.getElem?_eq_some_iff.1 h
  unfold joinedTo
  rw [List.take_succ_eq_append_getElem hk, List.flatMap_append, List.append_assoc]
  simp
theorem joinedTo_le {cs : List Ck} {k : Nat} : (joinedTo cs k).length ≤ (joined cs).length := by
  unfold joined
  rcases Nat.lt_or_ge k cs.length with h | h
  · have : joinedTo cs cs.length = joinedTo cs k ++ (cs.drop k).flatMap encode := by
      unfold joinedTo
      rw [List.append_assoc, ← List.flatMap_append, List.take_append_drop, List.take_of_length_le (Nat.le_refl _)]
    rw [this, List.length_append]
    omega
  · have : joinedTo cs k = joinedTo cs cs.length := by
      unfold joinedTo
      rw [List.take_of_length_le h, List.take_of_length_le (Nat.le_refl _)]
    rw [this]
    exact Nat.le_refl _
theorem encode_length (c : Ck) : (encode c).length = 8 + c.1.length + c.2.length := by
  simp [encode, be4]
  omega
theorem be4_bytes {c : Nat} (h : c < 4294967296) : sm.Bytes (be4 c) := by
  intro x hx
  simp only [be4, List.mem_cons, List.not_mem_nil, or_false] at hx
  rcases hx with rfl | rfl | rfl | rfl <;> omega
theorem encode_bytes {c : Ck} (h1 : sm.Bytes c.1) (h2 : sm.Bytes c.2) : sm.Bytes (encode c) := by
  unfold encode
  exact (((be4_bytes (Nat.mod_lt _ (by decide))).append h1).append h2).append (be4_bytes (sm.crcOn_lt (by decide) (h1.append h2)))
theorem sign_bytes : sm.Bytes sign := by unfold sm.Bytes sign; decide
theorem joinedTo_bytes {cs : List Ck} (h : ∀ c ∈ cs, sm.Bytes c.1 ∧ sm.Bytes c.2) (k : Nat) : sm.Bytes (joinedTo cs k) := by
  unfold joinedTo
  refine sign_bytes.append fun x hx => ?_
  obtain ⟨c, hc, hx⟩ := List.mem_flatMap.1 hx
  have := h c (List.mem_of_mem_take hc)
  exact encode_bytes this.1 this.2 x hx
theorem joinOk_false {cs : List Ck} {k : Nat} (hk : k < cs.length) (h : okAt cs k = false) : join cs = none := by
  unfold join joinOk
  rw [if_neg]
  intro h2
  rw [Bool.and_eq_true, List.all_eq_true] at h2
  rw [h2.2 k (List.mem_range.2 hk)] at h
  cases h
theorem joinOk_true {cs : List Ck} (h0 : cs ≠ []) (h : ∀ i, i < cs.length → okAt cs i = true) : join cs = some (joined cs) := by
  unfold join joinOk
  rw [if_pos]
  rw [Bool.and_eq_true, List.all_eq_true]
  exact ⟨by cases cs with | nil => exact absurd rfl h0 | cons _ _ => rfl, fun i hi => h i (List.mem_range.1 hi)⟩
end ck

theorem ckLen (a b : Value) : (Tryd.prog.info? 57).map (·.size) = some ([a, b] : List Value).length := ckSize
theorem own_form {w : World} {base : Nat} {e : TypeId} {size : Nat} {v : Value} {n : Nat} {xs : List Value} (h : w.ownsRow base e size v n xs) (hn : 0 < n) : ∃ g cap, v = .slice (some ⟨g, 0, none⟩) n cap ∧ n ≤ cap := by
  rcases h.2 with ⟨_, h'⟩ | ⟨g, cap, cur, h', _, _, h1, _⟩
  · omega
  · exact ⟨g, cap, h', h1⟩
theorem ck.str_iend (s : ByteArray) : (s.toList == [73, 69, 78, 68]) = decide (ck.bytesOf s = ck.iend) := by
  have := ck.iend_eq (ck.bytesOf_bytes s)
  rw [ck.strOf_bytesOf] at this
  exact this
theorem ck.okAt_arg {ls : List ck.Arg} {cs : List ck.Ck} (hcs : ls.map (·.ck) = cs) {k : Nat} {x : ck.Arg} (hx : ls[k]? = some x) : ck.okAt cs k = (ck.letters4 x.s && (decide (ck.bytesOf x.s = ck.iend) == decide (k + 1 = cs.length))) := by
  subst hcs
  unfold ck.okAt
  rw [List.getElem?_map, hx]
  simp only [Option.map_some, ck.Arg.ck, ck.lettersL, ck.strOf_bytesOf]

def JoinPost (r : Option (List Int)) (w : World) (e : Ending) (w' : World) : Prop :=
  match r with
  | none => e = .returned (.tuple #[.slice none 0 0, .int .i64 190]) ∧ Below w.heap.size w w'
  | some l => ∃ v, e = .returned (.tuple #[v, .int .i64 0]) ∧ w'.ownsRow w.heap.size 5 1 v l.length (l.map (Value.int .u8)) ∧ Below w.heap.size w w'

set_option maxRecDepth 100000 in
set_option maxHeartbeats 3200000 in
theorem join_any (p : Option Addr) (n cap : Nat) (ls : List ck.Arg) (w : World) (h : ck.Rd w p n cap ls) (hb : (ck.joined (ls.map (·.ck))).length ≤ 1073741824) :
    Calls Tryd.prog 15 #[.slice p n cap] w (JoinPost (ck.join (ls.map (·.ck))) w) := by
  have HR := Lib.hid h
  have hm : n ≤ maxLen := Nat.le_trans h.fits h.most
  unfold maxLen at hm
  have HL : Hid ((ls.map (·.ck)).length = n) := Lib.hid (by rw [List.length_map]; exact h.len)
  have HB := Lib.hid hb
  clear h hb
  obtain ⟨cs, hcs⟩ : ∃ cs, ls.map (·.ck) = cs := ⟨_, rfl⟩
  rw [hcs] at HL HB ⊢
  have HCS := Lib.hid hcs
  have HCB : Hid (∀ c ∈ cs, sm.Bytes c.1 ∧ sm.Bytes c.2) := Lib.hid (by
    rw [← hcs]
    intro c hc
    obtain ⟨x, hx, rfl⟩ := List.mem_map.1 hc
    exact ⟨ck.bytesOf_bytes _, (HR.out.data x hx).bytes⟩)
  clear hcs
  have kc := Lib.run_convert_bytes_const (P := Tryd.prog) w 22 5 #[.int .u8 137, .int .u8 80, .int .u8 78, .int .u8 71, .int .u8 13, .int .u8 10, .int .u8 26, .int .u8 10] 8 8 Tryd.underlying22 Tryd.underlying5
  have SG : Hid (OutRow (w.alloc (.cells #[.int .u8 137, .int .u8 80, .int .u8 78, .int .u8 71, .int .u8 13, .int .u8 10, .int .u8 26, .int .u8 10] 5 (8, 9))) w.heap.size (.slice (some ⟨w.heap.size, 0, none⟩) 8 8) 8 ck.sign) := Lib.hid (.inr ⟨w.heap.size, _, _, rfl, Nat.le_refl _, heap_alloc_last _ _, rfl, (sl_bytes w ck.sign 5 (8, 9) w.heap.size rfl (by decide) (by decide)).at_news⟩)
  have B0 := Lib.hid ((Below.refl w.heap.size w).alloc (Nat.le_refl _) (.cells #[.int .u8 137, .int .u8 80, .int .u8 78, .int .u8 71, .int .u8 13, .int .u8 10, .int .u8 26, .int .u8 10] 5 (8, 9)))
  by_cases h0 : n = 0
  · have HN : Hid (ck.join cs = none) := Lib.hid (by
      have : cs = [] := List.eq_nil_of_length_eq_zero (HL.out.trans h0)
      rw [this]
      rfl)
    subst h0
    go_enter Tryd.func15, Tryd.ntmps15
    go_wp2_with fail
    go_ret2
    rw [HN.out]
    exact ⟨rfl, B0.out⟩
  · have h0' : ((n : Int) == 0) = false := by simp; omega
    go_enter Tryd.func15, Tryd.ntmps15
    go_wp2_with fail
    clear kc
    generalize w.alloc (.cells #[.int .u8 137, .int .u8 80, .int .u8 78, .int .u8 71, .int .u8 13, .int .u8 10, .int .u8 26, .int .u8 10] 5 (8, 9)) = w1 at *
    go_loopg [4, 15] n (fun gk o i wr => ∃ (k : Nat), k ≤ n ∧ gk = n - k ∧ i = .int .i64 k ∧ OutRow wr w.heap.size o (ck.joinedTo cs k).length (ck.joinedTo cs k) ∧ (0 < k → wr.ownsRow w.heap.size 5 1 o (ck.joinedTo cs k).length ((ck.joinedTo cs k).map (Value.int .u8))) ∧ Below w.heap.size w wr ∧ (∀ j, j < k → ck.okAt cs j = true))
    case atStart => exact ⟨0, Nat.zero_le _, rfl, rfl, SG.out, fun h => absurd h (by omega), B0.out, fun j hj => absurd hj (by omega)⟩
    case round =>
      obtain ⟨k, hk, hg, rfl, hout, hown, hbe, hok⟩ := hrel
      have Hg := Lib.hid hg
      have HO := Lib.hid hout
      have HOw := Lib.hid hown
      have HBe := Lib.hid hbe
      have HOk := Lib.hid hok
      clear hg hout hown hbe hok
      by_cases hlt : k < n
      · obtain ⟨b, off, x, rfl, hx, hc1, hc2, hd⟩ := (HR.out.at hlt)
        have HX := Lib.hid hx
        have hra : wr.rangeAt b (off + k * 2) [.string x.s, .slice x.p x.n x.cap] := by
          intro j v hj
          match j, hj with
          | 0, hj => obtain rfl : v = _ := (Option.some.inj hj).symm; exact (HBe.out.cell (p := ⟨b, off + k * 2, none⟩) (block_lt_of_cell hc1)).trans hc1
          | 1, hj => obtain rfl : v = _ := (Option.some.inj hj).symm; exact (HBe.out.cell (p := ⟨b, off + k * 2 + 1, none⟩) (block_lt_of_cell hc2)).trans hc2
          | j + 2, hj => cases hj
        have HRA := Lib.hid hra
        have HD := Lib.hid (hd.below HBe.out)
        clear hx hc1 hc2 hd hra
        go_wp2_with (first
          | (with_reducible refine wpList_load_mid rfl 57 _ rfl b (off + k * 2) rfl _ _ HRA.out Tryd.underlying57 rfl (ckLen _ _) ?_)
          | (with_reducible refine wpList_store_row rfl 57 _ _ rfl wr.heap.size _ rfl rfl 57 _ (heap_alloc_last _ _) (ckSize2 _ _) (ckSz _ _ _ _) (ckOne _ _ _ _) ?_; rw [World.setRow_alloc_new]))
        have CB0 := Lib.hid (heap_alloc_last wr (.cells #[.string x.s, .slice x.p x.n x.cap] 57))
        have AL := (Below.refl wr.heap.size wr).alloc (Nat.le_refl _) (.cells #[.string x.s, .slice x.p x.n x.cap] 57)
        have HO1 := Lib.hid (HO.out.below AL)
        have HB1 := Lib.hid (HBe.out.trans (AL.mono HBe.out.size))
        have HD1 := Lib.hid (HD.out.below AL)
        have HCL : Hid (w.heap.size ≤ wr.heap.size) := Lib.hid HBe.out.size
        clear AL HO HD HRA HOw HBe
        generalize wr.alloc (.cells #[.string x.s, .slice x.p x.n x.cap] 57) = wa at *
        obtain ⟨cb, hcb⟩ : ∃ cb, wr.heap.size = cb := ⟨_, rfl⟩
        rw [hcb] at CB0 HCL ⊢
        clear hcb
        refine (letters_any _ _).mono ?_
        rintro e w2 ⟨rfl, hb2⟩
        have CB2 := Lib.hid ((hb2.block _ (block_lt CB0.out)).trans CB0.out)
        have HO2 := Lib.hid (HO1.out.below hb2)
        have HB2 := Lib.hid (HB1.out.trans (hb2.mono HB1.out.size))
        have HD2 := Lib.hid (HD1.out.below hb2)
        clear hb2 CB0 HO1 HB1 HD1
        have HAT := Lib.hid (ck.okAt_arg HCS.out HX.out)
        by_cases h1 : ck.letters4 x.s = true
        · have HLET : Hid (x.s.size = 4) := Lib.hid (by
            unfold ck.letters4 at h1
            rw [Bool.and_eq_true] at h1
            simpa using h1.1)
          rw [h1] at HAT ⊢
          clear h1
          obtain ⟨e1, he1⟩ : ∃ e1, decide (ck.bytesOf x.s = ck.iend) = e1 := ⟨_, rfl⟩
          obtain ⟨e2, he2⟩ : ∃ e2, decide (k + 1 = cs.length) = e2 := ⟨_, rfl⟩
          rw [he1, he2] at HAT
          have q1 : (x.s.toList == [73, 69, 78, 68]) = e1 := by rw [ck.str_iend, he1]
          have q2 : ((k : Int) == (n : Int) - 1) = e2 := by
            rw [← he2, HL.out, Bool.eq_iff_iff]
            simp
            omega
          clear he1 he2
          have c1 := (cell_of_row _ _ 0 _ _ (0, 0) CB2.out).trans rfl
          have c2 := (cell_of_row _ _ 1 _ _ (0, 0) CB2.out).trans rfl
          by_cases he : e1 = e2
          · subst he
            have q3 : (e1 != e1) = false := by simp
            have HOKk : Hid (ck.okAt cs k = true) := Lib.hid (by rw [HAT.out]; simp)
            clear HAT
            go_wp2_with fail
            have hxl : (ck.joinedTo cs (k + 1)).length ≤ 1073741824 := Nat.le_trans ck.joinedTo_le HB.out
            have hck : cs[k]? = some x.ck := by rw [← HCS.out, List.getElem?_map, HX.out]; rfl
            have HSU := Lib.hid (ck.joinedTo_succ hck)
            have hdl := HD2.out.len
            have HXL : Hid (x.d.length = x.n) := Lib.hid hdl
            have hel : (ck.joinedTo cs k).length + (8 + x.s.size + x.n) ≤ 1073741824 := by
              rw [HSU.out, List.length_append, ck.encode_length] at hxl
              simp only [ck.Arg.ck, ck.bytesOf_length, hdl] at hxl
              exact hxl
            clear hxl hck hdl
            obtain ⟨J, hJ⟩ : ∃ J, ck.joinedTo cs k = J := ⟨_, rfl⟩
            rw [hJ] at HO2 HSU hel
            have HJ := Lib.hid hJ
            clear hJ q1 q2 q3
            have hmod : ((x.n : Int) % 4294967296) = ((x.n % 4294967296 : Nat) : Int) := by omega
            rw [hmod]
            clear hmod
            refine (append32_any w.heap.size _ J.length J (x.n % 4294967296) _ HO2.out HB2.out.size (by omega) (by omega)).mono ?_
            rintro e w3 ⟨v3, rfl, ho3, hg3⟩
            have CB3 := Lib.hid (grown_block hg3 CB2.out (HO2.out.apart CB2.out (by decide)))
            have HB3 := Lib.hid (HB2.out.grown hg3 HB2.out.size (fun j e => HO2.out.lt e))
            have HO3 := Lib.hid ho3
            have HD3 : Hid (Sl .u8 w3 x.p x.n x.cap x.d) := Lib.hid ((HR.out.data x (List.mem_of_getElem? HX.out)).below HB3.out)
            obtain ⟨g3, cap3, rfl, hcap3⟩ := own_form ho3 (by omega)
            clear ho3 hg3 CB2 HO2 HB2 HD2 c1 c2
            go_wp2_with fail
            have NE3 : Hid (some cb ≠ (Value.slice (some ⟨g3, 0, none⟩) (J.length + 4) cap3).ownBlock) := Lib.hid (by
              rcases row_apart HO3.out CB3.out (by decide) with h | h
              · cases h
              · exact Ne.symm h)
            have s0 : w3.cell? ⟨cb, 0, none⟩ = some (.string x.s) := (cell_of_row _ _ 0 _ _ (0, 0) CB3.out).trans rfl
            have s1 : w3.cell? ⟨cb, 1, none⟩ = some (.slice x.p x.n x.cap) := (cell_of_row _ _ 1 _ _ (0, 0) CB3.out).trans rfl
            have HO3d : Hid (w3.drew.ownsRow w.heap.size 5 1 (.slice (some ⟨g3, 0, none⟩) (J.length + 4) cap3) (J.length + 4) ((J ++ ck.be4 (x.n % 4294967296)).map (Value.int .u8))) := Lib.hid HO3.out
            have SZ3d : Hid (w.heap.size ≤ w3.drew.heap.size) := Lib.hid HB3.out.size
            have HB3d : Hid (Below w.heap.size w w3.drew) := Lib.hid (HB3.out.trans ((Below.drew (Below.refl _ _)).mono HB3.out.size))
            go_region_held3 (fun w' => w'.cell? ⟨cb, 0, none⟩ = some (.string x.s) ∧ w'.cell? ⟨cb, 1, none⟩ = some (.slice x.p x.n x.cap)) (go_keep)
              ((first
                | (refine step_of_append (by rfl) (.tmp 44) (.tmp 46) 22 9 (by rfl) (run_append_str _ _ w.heap.size (.slice (some ⟨g3, 0, none⟩) (J.length + 4) cap3) (J.length + 4) _ HO3d.out x.s (by omega) SZ3d.out) ?_; rintro v4 w4 ⟨ho4, hg4⟩; have k0 : w4.cell? ⟨cb, 0, none⟩ = some (.string x.s) := (cell_of_row _ _ 0 _ _ (0, 0) (grown_block (w := w3.drew) hg4 CB3.out (NE3.out))).trans rfl; have k1 : w4.cell? ⟨cb, 1, none⟩ = some (.slice x.p x.n x.cap) := (cell_of_row _ _ 1 _ _ (0, 0) (grown_block (w := w3.drew) hg4 CB3.out (NE3.out))).trans rfl; have CB4 := Lib.hid (grown_block (w := w3.drew) hg4 CB3.out (NE3.out)); have HO4 := Lib.hid ho4; have HB4 := Lib.hid (HB3d.out.grown hg4 HB3d.out.size (fun j e => (World.ownsRow.lt HO3.out j e).1)); have HD4 : Hid (Sl .u8 w4 x.p x.n x.cap x.d) := Lib.hid ((HR.out.data x (List.mem_of_getElem? HX.out)).below HB4.out); clear ho4 hg4)
                | (refine step_of_append (by rfl) (.tmp 47) (.tmp 49) 22 22 (by rfl) (run_append_sl _ _ w.heap.size v4 (J.length + 4 + x.s.size) _ HO4.out x.p x.n x.cap x.d HD4.out (by omega) HB4.out.size) ?_; rintro v5 w5 ⟨ho5, hg5⟩; have k2 : w5.cell? ⟨cb, 0, none⟩ = some (.string x.s) := (World.cell?_of_block (hg5.block cb (block_lt_of_cell k0) (OutRow.apart (.inl HO4.out) CB4.out (by decide)))).trans k0; have k3 : w5.cell? ⟨cb, 1, none⟩ = some (.slice x.p x.n x.cap) := (World.cell?_of_block (hg5.block cb (block_lt_of_cell k0) (OutRow.apart (.inl HO4.out) CB4.out (by decide)))).trans k1; have HO5 := Lib.hid ho5; have HB5 := Lib.hid (HB4.out.grown hg5 HB4.out.size (fun j e => (World.ownsRow.lt HO4.out j e).1)); clear ho5 hg5)))
            have h4 : 4 ≤ x.s.size := by have := HLET.out; omega
            obtain ⟨g5, cap5, rfl, hcap5⟩ := own_form HO5.out (by omega)
            have HJb : Hid (sm.Bytes (J ++ ck.be4 (x.n % 4294967296) ++ ck.bytesOf x.s ++ x.d)) := Lib.hid ((((by rw [← HJ.out]; exact ck.joinedTo_bytes HCB.out k : sm.Bytes J).append (ck.be4_bytes (Nat.mod_lt _ (by decide)))).append (ck.bytesOf_bytes _)).append HD4.out.bytes)
            have HSL := Lib.hid ((Fresh.sl HO5.out (wf_of_bytes HJb.out)).drop (m := J.length + 4) (by omega))
            have hdr : (J ++ ck.be4 (x.n % 4294967296) ++ ck.bytesOf x.s ++ x.d).drop (J.length + 4) = ck.bytesOf x.s ++ x.d := by
              rw [List.append_assoc, List.drop_left' (by simp [ck.be4])]
            rw [hdr] at HSL
            have HHB := HSL.out.bytes
            have r1 : (J.length : Int) + 4 ≤ ((J.length + 4 + x.s.size + x.n : Nat) : Int) := by omega
            have r2 : ((J.length + 4 + x.s.size + x.n : Nat) : Int) ≤ (cap5 : Int) := by omega
            have r3 : ¬ (cap5 = J.length + 4) := by omega
            have r4 : ((J.length : Int) + 4).toNat = J.length + 4 := by omega
            clear hdr k2 k3 s0 s1 NE3 HO3d SZ3d HB3d HO3 HB3 HD3 CB3 HO4 HB4 HD4 CB4 k0 k1 hcap3
            go_wp2_with fail
            rw [Nat.zero_add] at HSL
            refine (crc_any _ _ _ _ _ HSL.out.len (Nat.le_trans HSL.out.fits HSL.out.most) HHB HSL.out.rd).mono ?_
            rintro e w6 ⟨rfl, hb6⟩
            have HO6 := Lib.hid (ownsRow_below HO5.out hb6)
            have HB6 := Lib.hid (HB5.out.trans (hb6.mono HB5.out.size))
            have hcl := sm.crcOn_lt (c := 0) (by decide) HHB
            clear hb6 HO5 HB5 HSL r1 r2 r3 r4
            go_wp2_with fail
            refine (append32_any w.heap.size _ (J.length + 4 + x.s.size + x.n) _ _ _ (.inl HO6.out) HB6.out.size (by omega) hcl).mono ?_
            rintro e w7 ⟨v7, rfl, ho7, hg7⟩
            have HB7 := Lib.hid (HB6.out.grown hg7 HB6.out.size (fun j e => (World.ownsRow.lt HO6.out j e).1))
            have HO7 : Hid (w7.ownsRow w.heap.size 5 1 v7 (ck.joinedTo cs (k + 1)).length ((ck.joinedTo cs (k + 1)).map (Value.int .u8))) := Lib.hid (by
              have hln : (ck.joinedTo cs (k + 1)).length = J.length + 4 + x.s.size + x.n + 4 := by
                rw [HSU.out, List.length_append, ck.encode_length]
                simp only [ck.Arg.ck, ck.bytesOf_length, HXL.out]
                omega
              rw [hln, HSU.out]
              have hen : ck.encode x.ck = ck.be4 (x.n % 4294967296) ++ ck.bytesOf x.s ++ x.d ++ ck.be4 (sm.crcOn 0 (ck.bytesOf x.s ++ x.d)) := by
                unfold ck.encode
                simp only [ck.Arg.ck, HXL.out]
              rw [hen]
              simp only [List.append_assoc] at ho7 ⊢
              exact ho7)
            clear ho7 hg7 HO6 HB6
            go_wp2_with fail
            go_roundg (n - (k + 1))
            case measure => have := Hg.out; omega
            case rel => exact ⟨k + 1, by omega, rfl, by go_num, .inl HO7.out, fun _ => HO7.out, HB7.out, fun j hj => by
              rcases Nat.lt_or_ge j k with h | h
              · exact HOk.out j h
              · obtain rfl : j = k := by omega
                exact HOKk.out⟩
          · have q3 : (!(e1 == e2)) = true := by simpa using he
            have HN : Hid (ck.join cs = none) := Lib.hid (ck.joinOk_false (by rw [HL.out]; exact hlt) (by rw [HAT.out]; simpa using he))
            clear HAT he
            go_wp2_with fail
            go_ret2
            rw [HN.out]
            exact ⟨rfl, HB2.out⟩
        · have h1' : ck.letters4 x.s = false := by simpa using h1
          rw [h1'] at HAT ⊢
          clear h1 h1'
          have HN : Hid (ck.join cs = none) := Lib.hid (ck.joinOk_false (by rw [HL.out]; exact hlt) (by rw [HAT.out]; rfl))
          clear HAT
          go_wp2_with fail
          go_ret2
          rw [HN.out]
          exact ⟨rfl, HB2.out⟩
      · obtain rfl : k = n := by omega
        have HJ : Hid (ck.join cs = some (ck.joinedTo cs k)) := Lib.hid (by
          rw [ck.joinOk_true (fun e => by rw [e] at HL; have := HL.out; simp at this; omega) (fun i hi => HOk.out i (by rw [← HL.out]; exact hi))]
          unfold ck.joined
          rw [HL.out])
        go_wp2_with fail
        go_ret2
        rw [HJ.out]
        exact ⟨_, rfl, HOw.out (by omega), HBe.out⟩
end Go.Proofs.YtfaemhmefijaoaaDoor
