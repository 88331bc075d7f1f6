/- The walk of find: the operator of a name, and whether its arguments may be. -/
import Derived.Test.YtdemndjenlhahaaPt1
import Derived.Test.YtdemndjenlhahaaPt3
import Derived.Deep.LoopGhost
import Derived.Deep.QuietTactic
import Derived.BigQuiet
import Derived.Lib.QuietBelow
import Derived.Laws.CopyOwn
namespace Go.Proofs.Ytdemndjenlhahaa
open Go.RowKit Go.Sort

/-- what find answers -/
def FindPost (op : ByteArray) (a : List Int) (w : World) (e : Ending) (w' : World) : Prop :=
  Below w.heap.size w w' ∧
  ((pm.idx op = none ∧ e = .returned (.tuple #[.agg #[.string ⟨#[]⟩, .slice none 0 0, Value.nilFunc], .int .i64 8])) ∨
   ∃ k bs fn caps, pm.idx op = some k ∧ e = .returned (.tuple #[.agg #[.string (pm.nm k), bs, .func fn #[] caps], .int .i64 (pm.err k a)]) ∧ DoIs (doK k) (.func fn #[] caps) w' ∧ ∃ A m, bs = .slice A m m)

theorem results_cell_tmp {P : Program} {fn : Func} {p q : Tmp} {ty : TypeId} (h : fn.results = #[.cell p ty, .tmp q]) (tmps : Array Value) (w : World) (g : Nat) (t : TypeId) (cs : Array Value) (fr : Nat × Nat) (d : TypeDesc) (v : Value)
    (hp : tmps.getD p undef = .pointer (some ⟨g, 0, none⟩)) (hq : tmps.getD q undef = v) (hg : w.heap[g]? = some (.cells cs t fr))
    (hu : P.underlying ty = some d) (hd : (match d with | .struct _ | .array _ _ => true | _ => false) = true) (hi : (P.info? ty).map (·.size) = some cs.size) :
    (results fn tmps).run P w = .ok (.tuple #[.agg cs, v]) w := by
  have hp' : tmps[p]?.getD undef = .pointer (some ⟨g, 0, none⟩) := by simpa using hp
  have hq' : tmps[q]?.getD undef = v := by simpa using hq
  simp [results, h, hp', hq', asAddr, run_loadVar_row w g t ty cs fr d hg hu hd hi]
theorem str_ne {s t : ByteArray} (h : ¬ s = t) : (s.toList == t.toList) = false := by
  rw [ByteArray.toList_eq, ByteArray.toList_eq, beq_eq_false_iff_ne]
  intro e
  exact h (by cases s; cases t; simp only at e; congr 1; exact Array.toList_inj.1 e)
theorem nm_apart {s : ByteArray} {l : List UInt8} (h : s ≠ ⟨l.toArray⟩) : s.toList ≠ l := by
  rw [ByteArray.toList_eq]
  intro e
  exact h (by cases s; simp only at e; congr 1; rw [← e])
theorem opSize (a b c : Value) : (Try.prog.info? 57).map (·.size) = some (#[a, b, c] : Array Value).size := by
  show _ = some 3
  kernel_rfl
theorem opSz (a b c a' b' c' : Value) : (#[a, b, c] : Array Value).size = (#[a', b', c'] : Array Value).size := rfl
theorem opOne (s : ByteArray) (A : Option Addr) (m m' : Nat) (fn : Fn) (x y : Array Value) : (#[.string s, .slice A m m', .func fn x y] : Array Value).all (·.oneCell') = true := by simp [Value.oneCell']
theorem opOneNil (s : ByteArray) (A : Option Addr) (m m' : Nat) : (#[.string s, .slice A m m', Value.nilFunc] : Array Value).all (·.oneCell') = true := by simp [Value.oneCell']

/-- how far the arguments have been looked at -/
def OkAt (a : List Int) (l : List (Int × Int)) (n m j : Nat) (b : Bool) : Prop :=
  (b = true → n = m ∧ ∀ q, q < j → (l.getD q (0, 0)).1 ≤ a.getD q 0 ∧ a.getD q 0 ≤ (l.getD q (0, 0)).2) ∧ (b = false → ¬ pm.fitL a l)

theorem DoIs.set {d : DoK} {v : Value} {w : World} (h : DoIs d v w) {O : Nat} {cs : Array Value} {t : TypeId} (hO : w.heap[O]? = some (.cells cs t (0, 0))) (hne : ∀ f : Fn, cs[0]? ≠ some (.func f #[] #[])) (new : Array Value) : DoIs d v (w.setRow O new) := by
  have key : ∀ b f, w.cell? ⟨b, 0, none⟩ = some (.func f #[] #[]) → (w.setRow O new).cell? ⟨b, 0, none⟩ = some (.func f #[] #[]) := by
    intro b f hb
    have hbO : b ≠ O := by
      rintro rfl
      rw [cell_of_row w b 0 cs t (0, 0) hO] at hb
      exact hne f hb
    rw [← hb]
    exact World.cell?_of_block (setRow_other w O b new hbO)
  cases d with
  | dir f => exact h
  | each f => obtain ⟨b, h1, h2⟩ := h; exact ⟨b, h1, key _ _ h2⟩
  | three f => obtain ⟨b, h1, h2⟩ := h; exact ⟨b, h1, key _ _ h2⟩
theorem flat_get : ∀ (l : List (Int × Int)) (i : Nat), i < l.length → (flat l)[i * 2]? = some (.int .i64 (l.getD i (0, 0)).1) ∧ (flat l)[i * 2 + 1]? = some (.int .i64 (l.getD i (0, 0)).2)
  | p :: l, 0, _ => ⟨rfl, rfl⟩
  | p :: l, i + 1, h => by
    have := flat_get l i (by simpa using h)
    rw [show (i + 1) * 2 = i * 2 + 1 + 1 from by omega]
    simpa [flat] using this

set_option maxRecDepth 100000 in
set_option maxHeartbeats 3200000 in
theorem find_any (op : ByteArray) (p : Option Addr) (n cap : Nat) (a : List Int) (w : World) (hA : Sl .i64 w p n cap a) :
    Calls Try.prog 21 #[.string op, .slice p n cap] w (FindPost op a w) := by
  have HA := Lib.hid hA
  clear hA
  go_enter Try.func21, Try.ntmps21
  go_wp2_with fail
  refine (operators_any _).mono ?_
  rintro e w1 ⟨T, rfl, hT, hb1⟩
  have B1 := Lib.hid (((Below.refl w.heap.size w).alloc (Nat.le_refl _) (.cells #[.string ⟨#[]⟩, .slice none 0 0, Value.nilFunc] 57)).trans (hb1.mono (by simp)))
  have R1 := Lib.hid ((hb1.block _ (block_lt (heap_alloc_last w (.cells #[.string ⟨#[]⟩, .slice none 0 0, Value.nilFunc] 57)))).trans (heap_alloc_last _ _))
  have HT := Lib.hid hT
  clear hT hb1
  go_wp2_with fail
  go_loopg [12] 20 (fun gk i wr => ∃ k : Nat, k ≤ 20 ∧ gk = 20 - k ∧ i = .int .i64 k ∧ Below w1.heap.size w1 wr ∧ ∀ j, j < k → pm.nm j ≠ op)
  case atStart => exact ⟨0, by omega, rfl, rfl, Below.refl _ _, fun j hj => absurd hj (by omega)⟩
  case round =>
    obtain ⟨k, hk, hg, rfl, hbr, hno⟩ := hrel
    obtain ⟨wo, rfl⟩ : ∃ wo : World, wo = wr := ⟨_, rfl⟩
    have Hg := Lib.hid hg
    have Hb := Lib.hid hbr
    have Hno := Lib.hid hno
    clear hg hbr hno
    by_cases hlt : k < 20
    · obtain ⟨bs, d, c0, c1, c2, hbs, hd⟩ := HT.out.below Hb.out k hlt
      have HBS := Lib.hid hbs
      have HD := Lib.hid hd
      obtain ⟨A, m, rfl⟩ : ∃ A m, bs = .slice A m m := by
        rcases hbs with ⟨_, h⟩ | ⟨g, h, _⟩ <;> exact ⟨_, _, h⟩
      obtain ⟨fn, caps, rfl⟩ : ∃ fn caps, d = .func fn #[] caps := by
        generalize doK k = q at hd
        cases q with
        | dir f => exact ⟨_, _, hd⟩
        | each f => obtain ⟨b, h, _⟩ := hd; exact ⟨_, _, h⟩
        | three f => obtain ⟨b, h, _⟩ := hd; exact ⟨_, _, h⟩
      clear hbs hd
      rw [Nat.mul_comm] at c0 c1 c2
      by_cases hne : pm.nm k = op
      · subst hne
        have hm : m = (pm.bnd k).length := by
          rcases HBS.out with ⟨h, h'⟩ | ⟨g, h, _⟩
          · rw [h]; cases h'; rfl
          · cases h; rfl
        have hm4 : m ≤ 4 := by
          rw [hm]
          have : ∀ k, k < 20 → (pm.bnd k).length ≤ 4 := by decide +kernel
          exact this k hlt
        have hcap := HA.out.fits
        have hmax := HA.out.most
        unfold maxLen at hmax
        have Hm := Lib.hid hm
        clear hm
        go_wp2_with (with_reducible refine wpList_store_row rfl 57 _ _ rfl wo.heap.size _ rfl rfl 57 _ (heap_alloc_last _ _) (opSize _ _ _) (opSz _ _ _ _ _ _) (opOne _ _ _ _ _ _ _) ?_; rw [World.setRow_alloc_new])
        have B2 := Lib.hid (Hb.out.alloc Hb.out.size (.cells #[.string (pm.nm k), .slice A m m, .func fn #[] caps] 57))
        have O2 := Lib.hid (heap_alloc_last wo (.cells #[.string (pm.nm k), .slice A m m, .func fn #[] caps] 57))
        have BS2 := Lib.hid (HBS.out.below ((Below.refl _ _).alloc (Nat.le_refl _) (.cells #[.string (pm.nm k), .slice A m m, .func fn #[] caps] 57)))
        have D2 := Lib.hid (HD.out.below ((Below.refl _ _).alloc (Nat.le_refl _) (.cells #[.string (pm.nm k), .slice A m m, .func fn #[] caps] 57)))
        clear c0 c1 c2 HBS HD Hno
        generalize wo.alloc (.cells #[.string (pm.nm k), .slice A m m, .func fn #[] caps] 57) = w2 at *
        have HI := Lib.hid (pm.idx_nm k hlt)
        have Hlt := Lib.hid hlt
        go_loopg [8, 9] n (fun gk ok i wr' => ∃ (j : Nat) (b : Bool), j ≤ n ∧ gk = n - j ∧ i = .int .i64 j ∧ ok = .bool b ∧ OkAt a (pm.bnd k) n m j b ∧ Below w2.heap.size w2 wr')
        case atStart =>
          refine ⟨0, _, Nat.zero_le _, rfl, rfl, rfl, ⟨fun h => ⟨by simp at h; omega, fun q hq => absurd hq (by omega)⟩, fun h hf => ?_⟩, Below.refl _ _⟩
          have := pm.fitL_length hf
          rw [HA.out.len, ← Hm.out] at this
          subst this
          simp at h
        case round =>
          obtain ⟨j, b, hj, hg2, rfl, rfl, hok, hb3⟩ := hrel
          have Hg2 := Lib.hid hg2
          have HO := Lib.hid hok
          have HB3 := Lib.hid hb3
          clear hg2 hok hb3
          have O3 := Lib.hid ((HB3.out.block _ (block_lt O2.out)).trans O2.out)
          have RW := Lib.hid ((HB3.out.block _ (Nat.lt_of_lt_of_le (block_lt R1.out) B2.out.size)).trans ((B2.out.block _ (block_lt R1.out)).trans R1.out))
          have HB := Lib.hid (B1.out.trans ((B2.out.trans (HB3.out.mono B2.out.size)).mono B1.out.size))
          have D3 := Lib.hid (D2.out.below HB3.out)
          have BS3 := Lib.hid (BS2.out.below HB3.out)
          have HA3 := Lib.hid (HA.out.below HB.out)
          have x0 := ((cell_of_row _ _ 0 _ _ (0, 0) O3.out).trans rfl)
          have x1 := ((cell_of_row _ _ 1 _ _ (0, 0) O3.out).trans rfl)
          have x2 := ((cell_of_row _ _ 2 _ _ (0, 0) O3.out).trans rfl)
          cases b with
          | false =>
            have HE : Hid (pm.err k a = 190) := Lib.hid (if_neg fun h => HO.out.2 rfl h.1)
            go_wp2_with fail
            refine wp_region_quiet_below (by kernel_rfl) (by kernel_rfl) ?_
            repeat (go_big_quiet_step (fail))
            refine wpQuiet_nil ?_
            intro _ hw'
            obtain ⟨⟨dq, osq⟩, hw''⟩ := hw'
            subst hw''
            have hb5 := below_regrown wr dq osq
            clear x0 x1 x2  
            generalize grow (redrawn wr dq) osq = w5 at *
            have O5 := Lib.hid ((hb5.block _ (block_lt O3.out)).trans O3.out)
            have RW5 := Lib.hid ((hb5.block _ (block_lt RW.out)).trans RW.out)
            have HB5 := Lib.hid (HB.out.trans (hb5.mono HB.out.size))
            have D5 := Lib.hid (D3.out.below hb5)
            clear hb5
            have x0 := ((cell_of_row _ _ 0 _ _ (0, 0) O5.out).trans rfl)
            have x1 := ((cell_of_row _ _ 1 _ _ (0, 0) O5.out).trans rfl)
            have x2 := ((cell_of_row _ _ 2 _ _ (0, 0) O5.out).trans rfl)
            go_wp2_with (with_reducible refine wpList_store_row rfl 57 _ _ rfl w.heap.size _ rfl rfl 57 _ RW5.out (opSize _ _ _) (opSz _ _ _ _ _ _) (opOne _ _ _ _ _ _ _) ?_)
            exact bodyPost_ret (results_cell_tmp (p := 4) (q := 5) (ty := 57) rfl _ _ w.heap.size 57 _ (0, 0) _ _ rfl rfl (setRow_heap w5 _ _ _ _ _ RW5.out) Try.underlying57 rfl (opSize _ _ _)) rfl ⟨below_setRow HB5.out (Nat.le_refl _) _, .inr ⟨_, _, _, _, HI.out, by rw [HE.out]; rfl, DoIs.set D5.out (O := w.heap.size) RW5.out (by simp) _, _, _, rfl⟩⟩
          | true =>
            obtain ⟨hnm, hin⟩ := HO.out.1 rfl
            have Hin := Lib.hid hin
            have Hnm := Lib.hid hnm
            clear hin hnm
            by_cases hjn : j < n
            · have hjl : j < (pm.bnd k).length := by rw [← Hm.out, ← Hnm.out]; exact hjn
              have hjm : j < m := by rw [← Hnm.out]; exact hjn
              obtain ⟨b', off, rfl⟩ := HA3.out.rd.at (by rw [HA3.out.len]; omega)
              have ca := HA3.out.rd.cell j (by rw [HA3.out.len]; exact hjn)
              obtain ⟨g, rfl, hg⟩ : ∃ g, A = some ⟨g, 0, none⟩ ∧ ∀ i x, (flat (pm.bnd k))[i]? = some x → wr.cell? ⟨g, i, none⟩ = some x := by
                rcases BS3.out with ⟨h, _⟩ | ⟨g, h, hc⟩
                · rw [h] at hjl; simp at hjl
                · cases h; exact ⟨g, rfl, hc⟩
              have cl := hg _ _ (flat_get (pm.bnd k) j hjl).1
              have ch := hg _ _ (flat_get (pm.bnd k) j hjl).2
              clear hg
              have HL : Hid (OkAt a (pm.bnd k) n m (j + 1) true ↔ (((pm.bnd k).getD j (0, 0)).1 ≤ a.getD j 0 ∧ a.getD j 0 ≤ ((pm.bnd k).getD j (0, 0)).2)) := Lib.hid ⟨fun h => (h.1 rfl).2 j (by omega), fun h => ⟨fun _ => ⟨Hnm.out, fun q hq => by
                rcases Nat.lt_or_ge q j with h' | h'
                · exact Hin.out q h'
                · obtain rfl : q = j := by omega
                  exact h⟩, fun h => Bool.noConfusion h⟩⟩
              have HL2 : Hid (¬ (((pm.bnd k).getD j (0, 0)).1 ≤ a.getD j 0 ∧ a.getD j 0 ≤ ((pm.bnd k).getD j (0, 0)).2) → OkAt a (pm.bnd k) n m (j + 1) false) := Lib.hid fun h => ⟨fun h' => Bool.noConfusion h', fun _ hf => h (pm.fitL_at hf j (by rw [HA.out.len]; exact hjn))⟩
              generalize a.getD j 0 = v at *
              generalize ((pm.bnd k).getD j (0, 0)).1 = lo at *
              generalize ((pm.bnd k).getD j (0, 0)).2 = hi at *
              have y0 := cell_regrown x1
              have y1 := cell_regrown ca
              have y2 := cell_regrown cl
              have y3 := cell_regrown ch
              have i0 : (0 : Int) ≤ (j : Int) := by omega
              have i1 : (j : Int) < (n : Int) := by omega
              have i2 : (j : Int) < (m : Int) := by omega
              by_cases h1 : lo ≤ v
              · by_cases h2 : v ≤ hi
                · have z1 : decide (lo ≤ v) = true := decide_eq_true h1
                  have z2 : decide (v ≤ hi) = true := decide_eq_true h2
                  have HV := Lib.hid (HL.out.2 ⟨h1, h2⟩)
                  clear h1 h2
                  go_wp2_with fail
                  refine wp_region_quiet_below (by kernel_rfl) (by kernel_rfl) ?_
                  repeat (go_big_quiet_step (fail))
                  refine wpQuiet_nil ?_
                  intro _ hw'
                  obtain ⟨⟨dq, osq⟩, hw''⟩ := hw'
                  subst hw''
                  have HB5 := Lib.hid (HB3.out.trans ((below_regrown wr dq osq).mono HB3.out.size))
                  clear x0 x1 x2 ca cl ch y0 y1 y2 y3 z1 z2
                  generalize grow (redrawn wr dq) osq = w5 at *
                  go_wp2_with fail
                  go_roundg (n - (j + 1))
                  case measure => have := Hg2.out; omega
                  case rel => exact ⟨j + 1, _, by omega, rfl, by go_num, rfl, HV.out, HB5.out⟩
                · have z1 : decide (lo ≤ v) = true := decide_eq_true h1
                  have z2 : decide (v ≤ hi) = false := decide_eq_false h2
                  have HV := Lib.hid (HL2.out fun h => h2 h.2)
                  clear h1 h2
                  go_wp2_with fail
                  refine wp_region_quiet_below (by kernel_rfl) (by kernel_rfl) ?_
                  repeat (go_big_quiet_step (fail))
                  refine wpQuiet_nil ?_
                  intro _ hw'
                  obtain ⟨⟨dq, osq⟩, hw''⟩ := hw'
                  subst hw''
                  have HB5 := Lib.hid (HB3.out.trans ((below_regrown wr dq osq).mono HB3.out.size))
                  clear x0 x1 x2 ca cl ch y0 y1 y2 y3 z1 z2
                  generalize grow (redrawn wr dq) osq = w5 at *
                  go_wp2_with fail
                  go_roundg (n - (j + 1))
                  case measure => have := Hg2.out; omega
                  case rel => exact ⟨j + 1, _, by omega, rfl, by go_num, rfl, HV.out, HB5.out⟩
              · have z1 : decide (lo ≤ v) = false := decide_eq_false h1
                have z2 : True := trivial
                have HV := Lib.hid (HL2.out fun h => h1 h.1)
                clear h1
                go_wp2_with fail
                refine wp_region_quiet_below (by kernel_rfl) (by kernel_rfl) ?_
                repeat (go_big_quiet_step (fail))
                refine wpQuiet_nil ?_
                intro _ hw'
                obtain ⟨⟨dq, osq⟩, hw''⟩ := hw'
                subst hw''
                have HB5 := Lib.hid (HB3.out.trans ((below_regrown wr dq osq).mono HB3.out.size))
                clear x0 x1 x2 ca cl ch y0 y1 y2 y3 z1 z2
                generalize grow (redrawn wr dq) osq = w5 at *
                go_wp2_with fail
                go_roundg (n - (j + 1))
                case measure => have := Hg2.out; omega
                case rel => exact ⟨j + 1, _, by omega, rfl, by go_num, rfl, HV.out, HB5.out⟩
            · obtain rfl : j = n := by omega
              have hfit : pm.fitL a (pm.bnd k) := pm.fitL_of (by rw [HA.out.len, ← Hm.out]; exact Hnm.out) (fun q hq => Hin.out q (by rw [HA.out.len] at hq; exact hq))
              by_cases h3 : k = 3
              · subst h3
                have s3 : ((pm.nm 3).toList == [108, 101, 118, 101, 108, 115]) = true := by rw [ByteArray.toList_eq]; decide +kernel
                have s3' : ((pm.nm 3).toList = [108, 101, 118, 101, 108, 115]) = True := eq_true (by rw [ByteArray.toList_eq]; decide +kernel)
                have s4' : ((pm.nm 3).toList = [115, 113, 117, 101, 101, 122, 101]) = False := eq_false (nm_apart (pm.nm_ne 3 (by omega) 4 (by omega) (by omega)))
                have s4 : ((pm.nm 3).toList == [115, 113, 117, 101, 101, 122, 101]) = false := beq_eq_false_iff_ne.2 (of_eq_false s4')
                obtain ⟨x, y, rfl, hx, hy⟩ := fit2 (show pm.fitL a [(0, 65535), (0, 65535)] from hfit)
                obtain ⟨b', off, rfl, rfl, ca, cb⟩ := args2 HA3.out
                by_cases hxy : y ≤ x
                · have HE : Hid (pm.err 3 [x, y] = 190) := Lib.hid (if_neg fun h => h.2.1 ⟨rfl, hxy⟩)
                  have z1 : decide (y ≤ x) = true := decide_eq_true hxy
                  clear hfit hxy
                  go_wp2_with fail
                  have r0 := cell_regrown ca
                  have r1 := cell_regrown cb
                  refine wp_region_quiet_below (by kernel_rfl) (by kernel_rfl) ?_
                  repeat (go_big_quiet_step (fail))
                  refine wpQuiet_nil ?_
                  intro _ hw'
                  obtain ⟨⟨dq, osq⟩, hw''⟩ := hw'
                  subst hw''
                  have hb5 := below_regrown wr dq osq
                  clear x0 x1 x2 r0 r1 s3 s4 s3' s4' ca cb z1
                  generalize grow (redrawn wr dq) osq = w5 at *
                  have O5 := Lib.hid ((hb5.block _ (block_lt O3.out)).trans O3.out)
                  have RW5 := Lib.hid ((hb5.block _ (block_lt RW.out)).trans RW.out)
                  have HB5 := Lib.hid (HB.out.trans (hb5.mono HB.out.size))
                  have D5 := Lib.hid (D3.out.below hb5)
                  clear hb5
                  have x0 := ((cell_of_row _ _ 0 _ _ (0, 0) O5.out).trans rfl)
                  have x1 := ((cell_of_row _ _ 1 _ _ (0, 0) O5.out).trans rfl)
                  have x2 := ((cell_of_row _ _ 2 _ _ (0, 0) O5.out).trans rfl)
                  go_wp2_with (with_reducible refine wpList_store_row rfl 57 _ _ rfl w.heap.size _ rfl rfl 57 _ RW5.out (opSize _ _ _) (opSz _ _ _ _ _ _) (opOne _ _ _ _ _ _ _) ?_)
                  exact bodyPost_ret (results_cell_tmp (p := 4) (q := 5) (ty := 57) rfl _ _ w.heap.size 57 _ (0, 0) _ _ rfl rfl (setRow_heap w5 _ _ _ _ _ RW5.out) Try.underlying57 rfl (opSize _ _ _)) rfl ⟨below_setRow HB5.out (Nat.le_refl _) _, .inr ⟨_, _, _, _, HI.out, by rw [HE.out]; rfl, DoIs.set D5.out (O := w.heap.size) RW5.out (by simp) _, _, _, rfl⟩⟩
                · have HE : Hid (pm.err 3 [x, y] = 0) := Lib.hid (if_pos ⟨hfit, fun h => hxy h.2, fun h => absurd h.1 (by omega)⟩)
                  have z1 : decide (y ≤ x) = false := decide_eq_false hxy
                  clear hfit hxy
                  go_wp2_with fail
                  have r0 := cell_regrown ca
                  have r1 := cell_regrown cb
                  refine wp_region_quiet_below (by kernel_rfl) (by kernel_rfl) ?_
                  repeat (go_big_quiet_step (fail))
                  refine wpQuiet_nil ?_
                  intro _ hw'
                  obtain ⟨⟨dq, osq⟩, hw''⟩ := hw'
                  subst hw''
                  have hb5 := below_regrown wr dq osq
                  clear x0 x1 x2 r0 r1 s3 s4 s3' s4' ca cb z1
                  generalize grow (redrawn wr dq) osq = w5 at *
                  have O5 := Lib.hid ((hb5.block _ (block_lt O3.out)).trans O3.out)
                  have RW5 := Lib.hid ((hb5.block _ (block_lt RW.out)).trans RW.out)
                  have HB5 := Lib.hid (HB.out.trans (hb5.mono HB.out.size))
                  have D5 := Lib.hid (D3.out.below hb5)
                  clear hb5
                  have x0 := ((cell_of_row _ _ 0 _ _ (0, 0) O5.out).trans rfl)
                  have x1 := ((cell_of_row _ _ 1 _ _ (0, 0) O5.out).trans rfl)
                  have x2 := ((cell_of_row _ _ 2 _ _ (0, 0) O5.out).trans rfl)
                  go_wp2_with (with_reducible refine wpList_store_row rfl 57 _ _ rfl w.heap.size _ rfl rfl 57 _ RW5.out (opSize _ _ _) (opSz _ _ _ _ _ _) (opOne _ _ _ _ _ _ _) ?_)
                  exact bodyPost_ret (results_cell_tmp (p := 4) (q := 5) (ty := 57) rfl _ _ w.heap.size 57 _ (0, 0) _ _ rfl rfl (setRow_heap w5 _ _ _ _ _ RW5.out) Try.underlying57 rfl (opSize _ _ _)) rfl ⟨below_setRow HB5.out (Nat.le_refl _) _, .inr ⟨_, _, _, _, HI.out, by rw [HE.out]; rfl, DoIs.set D5.out (O := w.heap.size) RW5.out (by simp) _, _, _, rfl⟩⟩
              · by_cases h4 : k = 4
                · subst h4
                  have s3' : ((pm.nm 4).toList = [108, 101, 118, 101, 108, 115]) = False := eq_false (nm_apart (pm.nm_ne 4 (by omega) 3 (by omega) (by omega)))
                  have s3 : ((pm.nm 4).toList == [108, 101, 118, 101, 108, 115]) = false := beq_eq_false_iff_ne.2 (of_eq_false s3')
                  have s4 : ((pm.nm 4).toList == [115, 113, 117, 101, 101, 122, 101]) = true := by rw [ByteArray.toList_eq]; decide +kernel
                  have s4' : ((pm.nm 4).toList = [115, 113, 117, 101, 101, 122, 101]) = True := eq_true (by rw [ByteArray.toList_eq]; decide +kernel)
                  obtain ⟨x, y, rfl, hx, hy⟩ := fit2 (show pm.fitL a [(0, 65535), (0, 65535)] from hfit)
                  obtain ⟨b', off, rfl, rfl, ca, cb⟩ := args2 HA3.out
                  by_cases hxy : y < x
                  · have HE : Hid (pm.err 4 [x, y] = 190) := Lib.hid (if_neg fun h => h.2.2 ⟨rfl, hxy⟩)
                    have z1 : decide (y < x) = true := decide_eq_true hxy
                    clear hfit hxy
                    go_wp2_with fail
                    have r0 := cell_regrown ca
                    have r1 := cell_regrown cb
                    refine wp_region_quiet_below (by kernel_rfl) (by kernel_rfl) ?_
                    repeat (go_big_quiet_step (fail))
                    refine wpQuiet_nil ?_
                    intro _ hw'
                    obtain ⟨⟨dq, osq⟩, hw''⟩ := hw'
                    subst hw''
                    have hb5 := below_regrown wr dq osq
                    clear x0 x1 x2 r0 r1 s3 s4 s3' s4' ca cb z1
                    generalize grow (redrawn wr dq) osq = w5 at *
                    have O5 := Lib.hid ((hb5.block _ (block_lt O3.out)).trans O3.out)
                    have RW5 := Lib.hid ((hb5.block _ (block_lt RW.out)).trans RW.out)
                    have HB5 := Lib.hid (HB.out.trans (hb5.mono HB.out.size))
                    have D5 := Lib.hid (D3.out.below hb5)
                    clear hb5
                    have x0 := ((cell_of_row _ _ 0 _ _ (0, 0) O5.out).trans rfl)
                    have x1 := ((cell_of_row _ _ 1 _ _ (0, 0) O5.out).trans rfl)
                    have x2 := ((cell_of_row _ _ 2 _ _ (0, 0) O5.out).trans rfl)
                    go_wp2_with (with_reducible refine wpList_store_row rfl 57 _ _ rfl w.heap.size _ rfl rfl 57 _ RW5.out (opSize _ _ _) (opSz _ _ _ _ _ _) (opOne _ _ _ _ _ _ _) ?_)
                    exact bodyPost_ret (results_cell_tmp (p := 4) (q := 5) (ty := 57) rfl _ _ w.heap.size 57 _ (0, 0) _ _ rfl rfl (setRow_heap w5 _ _ _ _ _ RW5.out) Try.underlying57 rfl (opSize _ _ _)) rfl ⟨below_setRow HB5.out (Nat.le_refl _) _, .inr ⟨_, _, _, _, HI.out, by rw [HE.out]; rfl, DoIs.set D5.out (O := w.heap.size) RW5.out (by simp) _, _, _, rfl⟩⟩
                  · have HE : Hid (pm.err 4 [x, y] = 0) := Lib.hid (if_pos ⟨hfit, fun h => absurd h.1 (by omega), fun h => hxy h.2⟩)
                    have z1 : decide (y < x) = false := decide_eq_false hxy
                    clear hfit hxy
                    go_wp2_with fail
                    have r0 := cell_regrown ca
                    have r1 := cell_regrown cb
                    refine wp_region_quiet_below (by kernel_rfl) (by kernel_rfl) ?_
                    repeat (go_big_quiet_step (fail))
                    refine wpQuiet_nil ?_
                    intro _ hw'
                    obtain ⟨⟨dq, osq⟩, hw''⟩ := hw'
                    subst hw''
                    have hb5 := below_regrown wr dq osq
                    clear x0 x1 x2 r0 r1 s3 s4 s3' s4' ca cb z1
                    generalize grow (redrawn wr dq) osq = w5 at *
                    have O5 := Lib.hid ((hb5.block _ (block_lt O3.out)).trans O3.out)
                    have RW5 := Lib.hid ((hb5.block _ (block_lt RW.out)).trans RW.out)
                    have HB5 := Lib.hid (HB.out.trans (hb5.mono HB.out.size))
                    have D5 := Lib.hid (D3.out.below hb5)
                    clear hb5
                    have x0 := ((cell_of_row _ _ 0 _ _ (0, 0) O5.out).trans rfl)
                    have x1 := ((cell_of_row _ _ 1 _ _ (0, 0) O5.out).trans rfl)
                    have x2 := ((cell_of_row _ _ 2 _ _ (0, 0) O5.out).trans rfl)
                    go_wp2_with (with_reducible refine wpList_store_row rfl 57 _ _ rfl w.heap.size _ rfl rfl 57 _ RW5.out (opSize _ _ _) (opSz _ _ _ _ _ _) (opOne _ _ _ _ _ _ _) ?_)
                    exact bodyPost_ret (results_cell_tmp (p := 4) (q := 5) (ty := 57) rfl _ _ w.heap.size 57 _ (0, 0) _ _ rfl rfl (setRow_heap w5 _ _ _ _ _ RW5.out) Try.underlying57 rfl (opSize _ _ _)) rfl ⟨below_setRow HB5.out (Nat.le_refl _) _, .inr ⟨_, _, _, _, HI.out, by rw [HE.out]; rfl, DoIs.set D5.out (O := w.heap.size) RW5.out (by simp) _, _, _, rfl⟩⟩
                · have HE : Hid (pm.err k a = 0) := Lib.hid (if_pos ⟨hfit, fun h => h3 h.1, fun h => h4 h.1⟩)
                  have s3' : ((pm.nm k).toList = [108, 101, 118, 101, 108, 115]) = False := eq_false (nm_apart (pm.nm_ne k hlt 3 (by omega) h3))
                  have s3 : ((pm.nm k).toList == [108, 101, 118, 101, 108, 115]) = false := beq_eq_false_iff_ne.2 (of_eq_false s3')
                  have s4' : ((pm.nm k).toList = [115, 113, 117, 101, 101, 122, 101]) = False := eq_false (nm_apart (pm.nm_ne k hlt 4 (by omega) h4))
                  have s4 : ((pm.nm k).toList == [115, 113, 117, 101, 101, 122, 101]) = false := beq_eq_false_iff_ne.2 (of_eq_false s4')
                  clear hfit h3 h4
                  go_wp2_with fail
                  refine wp_region_quiet_below (by kernel_rfl) (by kernel_rfl) ?_
                  repeat (go_big_quiet_step (fail))
                  refine wpQuiet_nil ?_
                  intro _ hw'
                  obtain ⟨⟨dq, osq⟩, hw''⟩ := hw'
                  subst hw''
                  have hb5 := below_regrown wr dq osq
                  clear x0 x1 x2  s3 s4 s3' s4'
                  generalize grow (redrawn wr dq) osq = w5 at *
                  have O5 := Lib.hid ((hb5.block _ (block_lt O3.out)).trans O3.out)
                  have RW5 := Lib.hid ((hb5.block _ (block_lt RW.out)).trans RW.out)
                  have HB5 := Lib.hid (HB.out.trans (hb5.mono HB.out.size))
                  have D5 := Lib.hid (D3.out.below hb5)
                  clear hb5
                  have x0 := ((cell_of_row _ _ 0 _ _ (0, 0) O5.out).trans rfl)
                  have x1 := ((cell_of_row _ _ 1 _ _ (0, 0) O5.out).trans rfl)
                  have x2 := ((cell_of_row _ _ 2 _ _ (0, 0) O5.out).trans rfl)
                  go_wp2_with (with_reducible refine wpList_store_row rfl 57 _ _ rfl w.heap.size _ rfl rfl 57 _ RW5.out (opSize _ _ _) (opSz _ _ _ _ _ _) (opOne _ _ _ _ _ _ _) ?_)
                  exact bodyPost_ret (results_cell_tmp (p := 4) (q := 5) (ty := 57) rfl _ _ w.heap.size 57 _ (0, 0) _ _ rfl rfl (setRow_heap w5 _ _ _ _ _ RW5.out) Try.underlying57 rfl (opSize _ _ _)) rfl ⟨below_setRow HB5.out (Nat.le_refl _) _, .inr ⟨_, _, _, _, HI.out, by rw [HE.out]; rfl, DoIs.set D5.out (O := w.heap.size) RW5.out (by simp) _, _, _, rfl⟩⟩
      · have HNE := Lib.hid hne
        have hS := str_ne hne
        clear hne
        go_wp2_with (with_reducible refine wpList_store_row rfl 57 _ _ rfl wo.heap.size _ rfl rfl 57 _ (heap_alloc_last _ _) (opSize _ _ _) (opSz _ _ _ _ _ _) (opOne _ _ _ _ _ _ _) ?_; rw [World.setRow_alloc_new])
        go_roundg (20 - (k + 1))
        case measure => have := Hg.out; omega
        case rel => exact ⟨k + 1, by omega, rfl, by go_num, Hb.out.alloc Hb.out.size _, fun j hj => by
          rcases Nat.lt_or_ge j k with h | h
          · exact Hno.out j h
          · obtain rfl : j = k := by omega
            exact HNE.out⟩
    · obtain rfl : k = 20 := by omega
      have RW := Lib.hid ((Hb.out.block _ (block_lt R1.out)).trans R1.out)
      have HI := Lib.hid (pm.idx_none_of Hno.out)
      have HB := Lib.hid (B1.out.trans (Hb.out.mono B1.out.size))
      go_wp2_with (with_reducible refine wpList_store_row rfl 57 _ _ rfl w.heap.size _ rfl rfl 57 _ RW.out (opSize _ _ _) (opSz _ _ _ _ _ _) (opOneNil _ _ _ _) ?_)
      exact bodyPost_ret (results_cell_tmp (p := 4) (q := 5) (ty := 57) rfl _ _ w.heap.size 57 _ (0, 0) _ _ rfl rfl (setRow_heap wo _ _ _ _ _ RW.out) Try.underlying57 rfl (opSize _ _ _)) rfl ⟨below_setRow HB.out (Nat.le_refl _) _, .inl ⟨HI.out, rfl⟩⟩
end Go.Proofs.Ytdemndjenlhahaa
