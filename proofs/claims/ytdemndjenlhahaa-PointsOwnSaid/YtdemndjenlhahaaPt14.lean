/- The reference's Check. -/
import Derived.Test.YtdemndjenlhahaaPt13
import Derived.Test.YtdemndjenlhahaaPt10
import Derived.Test.YtdemndjenlhahaaQuietEnd
namespace Go.Proofs.Ytdemndjenlhahaa
open Go.RowKit Go.Sort

set_option maxRecDepth 100000 in
set_option maxHeartbeats 3200000 in
theorem refCheck_any (op : ByteArray) (p : Option Addr) (n cap : Nat) (a : List Int) (w : World) (hA : Sl .i64 w p n cap a) (hn : n ≤ 17592186044416) :
    Calls Try.prog 13 #[.string op, .slice p n cap] w (CheckPost op a w) := by
  have HA := Lib.hid hA
  clear hA
  have HE : Hid (pm.errOf op a = match pm.idx op with | some k => pm.err k a | none => 8) := Lib.hid rfl
  go_enter Try.func13, Try.ntmps13
  go_wp2_with fail
  refine (refNames_any _).mono ?_
  rintro e w1 ⟨rfl, hw1⟩
  have H1 := Lib.hid (heap_alloc_last w (.cells (strs pm.names).toArray 9))
  have B1 := Lib.hid ((Below.refl w.heap.size w).alloc (Nat.le_refl _) (.cells (strs pm.names).toArray 9))
  rw [← hw1] at H1 B1
  clear hw1
  cases hi : pm.idx op with
  | none =>
    have HI := Lib.hid hi
    have HB : Hid (false = true ↔ ∃ j, j < 20 ∧ pm.names.getD j ⟨#[]⟩ = op) := Lib.hid ⟨fun h => Bool.noConfusion h, fun ⟨j, h1, h2⟩ => absurd h2 (pm.idx_none HI.out j h1)⟩
    have HV : Hid (pm.errOf op a = 8) := Lib.hid (by rw [HE.out, HI.out])
    clear hi
    go_wp2_with fail
    refine (refIn_any op w.heap.size pm.names false _ pm.names_length HB.out H1.out).mono ?_
    rintro e w2 ⟨rfl, rfl⟩
    go_wp2_with fail
    go_ret
    exact ⟨by rw [HV.out]; rfl, B1.out⟩
  | some k =>
    obtain ⟨hlt, rfl⟩ := pm.idx_some hi
    have HV : Hid (pm.errOf (pm.nm k) a = pm.err k a) := Lib.hid (by rw [HE.out, hi])
    clear hi HE
    go_wp2_with fail
    refine (refIn_any (pm.nm k) w.heap.size pm.names true _ pm.names_length ⟨fun _ => ⟨k, hlt, rfl⟩, fun _ => rfl⟩ H1.out).mono ?_
    rintro e w2 ⟨rfl, rfl⟩
    go_wp2_with fail
    have hl4 : (pm.bnd k).length ≤ 4 := by
      have : ∀ k, k < 20 → (pm.bnd k).length ≤ 4 := by decide +kernel
      exact this k hlt
    have HA1 := Lib.hid (HA.out.below B1.out)
    refine wp_region_any (by kernel_rfl) ?_
    refine wpAny_take (i := 0) (oi := { dst := some 9, op := Op.move (Operand.tmp 1), type := 22, pos := "ref.go:84", after := #[], guard := none }) (v := .slice p n cap) rfl (by kernel_rfl) (by kernel_rfl) (by kernel_rfl) (fun _ _ _ h => h) (Or.inl ⟨by rfl, fun _ => rfl⟩) ?_
    simp only [Act.put, List.setIfInBounds_toArray, List.set_cons_zero, List.set_cons_succ]
    refine wpAny_take (i := 1) (oi := { dst := some 10, op := Op.move (Operand.tmp 0), type := 9, pos := "ref.go:84", after := #[], guard := none }) (v := .string (pm.nm k)) rfl (by kernel_rfl) (by kernel_rfl) (by kernel_rfl) (fun _ _ _ h => h) (Or.inl ⟨by rfl, fun _ => rfl⟩) ?_
    simp only [Act.put, List.setIfInBounds_toArray, List.set_cons_zero, List.set_cons_succ]
    refine wpAny_one 2 (o := { dst := some 11, op := Op.call { callee := Callee.value (Operand.func 24), args := #[Operand.tmp 10], argTypes := #[9] }, type := 22, pos := "ref.go:84", after := #[{ on := 1, ground := Ground.data }], guard := none }) rfl (by kernel_rfl) rfl fun K hK => ?_
    go_simp
    refine (refBounds_any k hlt _).mono ?_
    rintro e w3 ⟨A, rfl, hbd, hb3⟩
    have BD3 := Lib.hid hbd
    have B3 := Lib.hid (B1.out.trans ((show Below w1.heap.size w1 w3 from (Below.drew (Below.refl _ _)).trans hb3).mono B1.out.size))
    clear hbd hb3
    dsimp only
    refine hK.out _ _ ?_
    clear hK K
    refine wpAny_one 3 (o := { dst := some 12, op := Op.call { callee := Callee.value (Operand.func 23), args := #[Operand.tmp 9, Operand.tmp 11], argTypes := #[22, 22] }, type := 4, pos := "ref.go:84", after := #[{ on := 0, ground := Ground.data }, { on := 2, ground := Ground.data }, { on := 2, ground := Ground.chain }], guard := none }) rfl (by kernel_rfl) rfl fun K hK => ?_
    go_simp
    refine (refFit_any p A n cap a (pm.bnd k) _ (HA.out.below B3.out) hn hl4 BD3.out).mono ?_
    rintro e w4 ⟨rfl, hb4⟩
    have B4 := Lib.hid (B3.out.trans (hb4.mono B3.out.size))
    clear hb4
    dsimp only
    refine hK.out _ _ ?_
    clear hK K
    refine wpAny_quiet_end 4 _ rfl (by kernel_rfl) (by kernel_rfl) ?_
    simp only [List.drop_succ_cons, List.drop_zero]
    by_cases hfit : pm.fitL a (pm.bnd k)
    · have z0 : decide (pm.fitL a (pm.bnd k)) = true := decide_eq_true hfit
      by_cases h3 : k = 3
      · subst h3
        have s3 : ((pm.nm 3).toList == [108, 101, 118, 101, 108, 115]) = true := by rw [ByteArray.toList_eq]; decide +kernel
        have s3' : ((pm.nm 3).toList = [108, 101, 118, 101, 108, 115]) = True := eq_true (by rw [ByteArray.toList_eq]; decide +kernel)
        have s4' : ((pm.nm 3).toList = [115, 113, 117, 101, 101, 122, 101]) = False := eq_false (nm_apart (pm.nm_ne 3 (by omega) 4 (by omega) (by omega)))
        have s4 : ((pm.nm 3).toList == [115, 113, 117, 101, 101, 122, 101]) = false := beq_eq_false_iff_ne.2 (of_eq_false s4')
        obtain ⟨x, y, rfl, hx, hy⟩ := fit2 (show pm.fitL a [(0, 65535), (0, 65535)] from hfit)
        obtain ⟨b', off, rfl, rfl, ca, cb⟩ := args2 (HA.out.below B4.out)
        by_cases hxy : y ≤ x
        · have HE : Hid (pm.err 3 [x, y] = 190) := Lib.hid (if_neg fun h => h.2.1 ⟨rfl, hxy⟩)
          have z1 : decide (y ≤ x) = true := decide_eq_true hxy
          clear hfit hxy
          have r0 := cell_regrown ca
          have r1 := cell_regrown cb
          repeat (go_big_quiet_step (fail))
          refine wpQuiet_nil ?_
          intro _ hw'
          obtain ⟨⟨dq, osq⟩, hw''⟩ := hw'
          subst hw''
          have HB5 := Lib.hid (B4.out.trans ((below_regrown w4 dq osq).mono B4.out.size))
          clear r0 r1 s3 s4 s3' s4' z0 ca cb z1
          generalize grow (redrawn w4 dq) osq = w5 at *
          go_wp2_with fail
          go_ret
          exact ⟨by rw [HV.out, HE.out]; rfl, HB5.out⟩
        · have HE : Hid (pm.err 3 [x, y] = 0) := Lib.hid (if_pos ⟨hfit, fun h => hxy h.2, fun h => absurd h.1 (by omega)⟩)
          have z1 : decide (y ≤ x) = false := decide_eq_false hxy
          clear hfit hxy
          have r0 := cell_regrown ca
          have r1 := cell_regrown cb
          repeat (go_big_quiet_step (fail))
          refine wpQuiet_nil ?_
          intro _ hw'
          obtain ⟨⟨dq, osq⟩, hw''⟩ := hw'
          subst hw''
          have HB5 := Lib.hid (B4.out.trans ((below_regrown w4 dq osq).mono B4.out.size))
          clear r0 r1 s3 s4 s3' s4' z0 ca cb z1
          generalize grow (redrawn w4 dq) osq = w5 at *
          go_wp2_with fail
          go_ret
          exact ⟨by rw [HV.out, HE.out]; rfl, HB5.out⟩
      · by_cases h4 : k = 4
        · subst h4
          have s3' : ((pm.nm 4).toList = [108, 101, 118, 101, 108, 115]) = False := eq_false (nm_apart (pm.nm_ne 4 (by omega) 3 (by omega) (by omega)))
          have s3 : ((pm.nm 4).toList == [108, 101, 118, 101, 108, 115]) = false := beq_eq_false_iff_ne.2 (of_eq_false s3')
          have s4 : ((pm.nm 4).toList == [115, 113, 117, 101, 101, 122, 101]) = true := by rw [ByteArray.toList_eq]; decide +kernel
          have s4' : ((pm.nm 4).toList = [115, 113, 117, 101, 101, 122, 101]) = True := eq_true (by rw [ByteArray.toList_eq]; decide +kernel)
          obtain ⟨x, y, rfl, hx, hy⟩ := fit2 (show pm.fitL a [(0, 65535), (0, 65535)] from hfit)
          obtain ⟨b', off, rfl, rfl, ca, cb⟩ := args2 (HA.out.below B4.out)
          by_cases hxy : y < x
          · have HE : Hid (pm.err 4 [x, y] = 190) := Lib.hid (if_neg fun h => h.2.2 ⟨rfl, hxy⟩)
            have z1 : decide (y < x) = true := decide_eq_true hxy
            clear hfit hxy
            have r0 := cell_regrown ca
            have r1 := cell_regrown cb
            repeat (go_big_quiet_step (fail))
            refine wpQuiet_nil ?_
            intro _ hw'
            obtain ⟨⟨dq, osq⟩, hw''⟩ := hw'
            subst hw''
            have HB5 := Lib.hid (B4.out.trans ((below_regrown w4 dq osq).mono B4.out.size))
            clear r0 r1 s3 s4 s3' s4' z0 ca cb z1
            generalize grow (redrawn w4 dq) osq = w5 at *
            go_wp2_with fail
            go_ret
            exact ⟨by rw [HV.out, HE.out]; rfl, HB5.out⟩
          · have HE : Hid (pm.err 4 [x, y] = 0) := Lib.hid (if_pos ⟨hfit, fun h => absurd h.1 (by omega), fun h => hxy h.2⟩)
            have z1 : decide (y < x) = false := decide_eq_false hxy
            clear hfit hxy
            have r0 := cell_regrown ca
            have r1 := cell_regrown cb
            repeat (go_big_quiet_step (fail))
            refine wpQuiet_nil ?_
            intro _ hw'
            obtain ⟨⟨dq, osq⟩, hw''⟩ := hw'
            subst hw''
            have HB5 := Lib.hid (B4.out.trans ((below_regrown w4 dq osq).mono B4.out.size))
            clear r0 r1 s3 s4 s3' s4' z0 ca cb z1
            generalize grow (redrawn w4 dq) osq = w5 at *
            go_wp2_with fail
            go_ret
            exact ⟨by rw [HV.out, HE.out]; rfl, HB5.out⟩
        · have HE : Hid (pm.err k a = 0) := Lib.hid (if_pos ⟨hfit, fun h => h3 h.1, fun h => h4 h.1⟩)
          have s3' : ((pm.nm k).toList = [108, 101, 118, 101, 108, 115]) = False := eq_false (nm_apart (pm.nm_ne k hlt 3 (by omega) h3))
          have s3 : ((pm.nm k).toList == [108, 101, 118, 101, 108, 115]) = false := beq_eq_false_iff_ne.2 (of_eq_false s3')
          have s4' : ((pm.nm k).toList = [115, 113, 117, 101, 101, 122, 101]) = False := eq_false (nm_apart (pm.nm_ne k hlt 4 (by omega) h4))
          have s4 : ((pm.nm k).toList == [115, 113, 117, 101, 101, 122, 101]) = false := beq_eq_false_iff_ne.2 (of_eq_false s4')
          clear hfit h3 h4
          repeat (go_big_quiet_step (fail))
          refine wpQuiet_nil ?_
          intro _ hw'
          obtain ⟨⟨dq, osq⟩, hw''⟩ := hw'
          subst hw''
          have HB5 := Lib.hid (B4.out.trans ((below_regrown w4 dq osq).mono B4.out.size))
          clear  s3 s4 s3' s4' z0
          generalize grow (redrawn w4 dq) osq = w5 at *
          go_wp2_with fail
          go_ret
          exact ⟨by rw [HV.out, HE.out]; rfl, HB5.out⟩
    · have z0 : decide (pm.fitL a (pm.bnd k)) = false := decide_eq_false hfit
      have HE : Hid (pm.err k a = 190) := Lib.hid (if_neg fun h => hfit h.1)
      clear hfit
      repeat (go_big_quiet_step (fail))
      refine wpQuiet_nil ?_
      intro _ hw'
      obtain ⟨⟨dq, osq⟩, hw''⟩ := hw'
      subst hw''
      have HB5 := Lib.hid (B4.out.trans ((below_regrown w4 dq osq).mono B4.out.size))
      clear  z0
      generalize grow (redrawn w4 dq) osq = w5 at *
      go_wp2_with fail
      go_ret
      exact ⟨by rw [HV.out, HE.out]; rfl, HB5.out⟩
end Go.Proofs.Ytdemndjenlhahaa
