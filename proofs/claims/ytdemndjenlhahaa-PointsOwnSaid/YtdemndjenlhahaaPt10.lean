/- The walks of Check and One. -/
import Derived.Test.YtdemndjenlhahaaPt8
import Derived.Test.YtdemndjenlhahaaPt9
namespace Go.Proofs.Ytdemndjenlhahaa
open Go.RowKit Go.Sort Go.Shelf

def CheckPost (op : ByteArray) (a : List Int) (w : World) (e : Ending) (w' : World) : Prop := e = .returned (.int .i64 (pm.errOf op a)) ∧ Below w.heap.size w w'
theorem FindPost.code {op : ByteArray} {a : List Int} {w w' : World} {e : Ending} (h : FindPost op a w e w') : ∃ s A m d, e = .returned (.tuple #[.agg #[.string s, .slice A m m, d], .int .i64 (pm.errOf op a)]) ∧ d.oneCell' = true ∧ Below w.heap.size w w' ∧ (pm.errOf op a = 0 → ∃ k, k < 20 ∧ pm.idx op = some k ∧ pm.okA k a ∧ DoIs (doK k) d w') := by
  obtain ⟨hb, h⟩ := h
  rcases h with ⟨hi, rfl⟩ | ⟨k, bs, fn, caps, hi, rfl, hd, A, m, rfl⟩
  · have he : pm.errOf op a = 8 := by unfold pm.errOf; rw [hi]
    refine ⟨_, _, _, _, by rw [he], rfl, hb, fun h0 => ?_⟩
    rw [he] at h0
    cases h0
  · have he : pm.errOf op a = pm.err k a := by unfold pm.errOf; rw [hi]
    refine ⟨_, _, _, _, by rw [he], rfl, hb, fun h0 => ⟨k, (pm.idx_some hi).1, hi, ?_, hd⟩⟩
    rw [he] at h0
    unfold pm.err at h0
    split at h0
    · assumption
    · cases h0
theorem opOneD {s : ByteArray} {A : Option Addr} {m m' : Nat} {d : Value} (h : d.oneCell' = true) : (#[.string s, .slice A m m', d] : Array Value).all (·.oneCell') = true := by cases d <;> simp_all [Value.oneCell']

set_option maxRecDepth 100000 in
theorem check_any (op : ByteArray) (p : Option Addr) (n cap : Nat) (a : List Int) (w : World) (hA : Sl .i64 w p n cap a) :
    Calls Try.prog 11 #[.string op, .slice p n cap] w (CheckPost op a w) := by
  have HA := Lib.hid hA
  clear hA
  go_enter Try.func11, Try.ntmps11
  go_wp2_with fail
  refine (find_any op p n cap a _ HA.out).mono ?_
  rintro e w1 hp
  obtain ⟨s, A, m, d, rfl, h1, hb, _⟩ := hp.code
  have HB := Lib.hid hb
  have HD := Lib.hid h1
  clear hp hb h1
  go_wp2_with (with_reducible refine wpList_store_row rfl 57 _ _ rfl w1.heap.size _ rfl rfl 57 _ (heap_alloc_last _ _) (opSize _ _ _) (opSz _ _ _ _ _ _) (opOneD HD.out) ?_; rw [World.setRow_alloc_new])
  go_ret
  exact ⟨rfl, HB.out.alloc HB.out.size _⟩

/-- what One answers -/
def oneErr (op : ByteArray) (a : List Int) (x y wd : Int) : Int := if pm.errOf op a = 0 ∧ (x < 0 ∨ y < 0 ∨ wd ≤ x) then 2 else pm.errOf op a
def oneRes (op : ByteArray) (a : List Int) (c : C4) (x y wd : Int) : C4 := if oneErr op a x y wd = 0 then (match pm.idx op with | some k => pm.res k a c x y wd | none => C4.zero) else C4.zero
def OnePost (op : ByteArray) (a : List Int) (c : C4) (x y wd : Int) (w : World) (e : Ending) (w' : World) : Prop :=
  e = .returned (.tuple #[(oneRes op a c x y wd).val, .int .i64 (oneErr op a x y wd)]) ∧ Below w.heap.size w w'

set_option maxRecDepth 100000 in
set_option maxHeartbeats 1600000 in
theorem one_any (op : ByteArray) (p : Option Addr) (n cap : Nat) (a : List Int) (c : C4) (x y wd : Int) (w : World) (hA : Sl .i64 w p n cap a) (hc : c.ok) (hp : ∀ k, pm.idx op = some k → k < 18) :
    Calls Try.prog 14 #[.string op, .slice p n cap, .agg #[.int .u16 c.r, .int .u16 c.g, .int .u16 c.b, .int .u16 c.a], .int .i64 x, .int .i64 y, .int .i64 wd] w (OnePost op a c x y wd w) := by
  have HA := Lib.hid hA
  have HC := Lib.hid hc
  have HP := Lib.hid hp
  clear hA hc hp
  go_enter Try.func14, Try.ntmps14
  go_wp2_with fail
  have B0 := (((Below.refl w.heap.size w).alloc (Nat.le_refl _) (.cells #[.int .u16 c.r, .int .u16 c.g, .int .u16 c.b, .int .u16 c.a] 33)).alloc (by simp) (.cells #[.int .u16 0, .int .u16 0, .int .u16 0, .int .u16 0] 33))
  obtain ⟨q0, q1⟩ := heap2 w (.cells #[.int .u16 c.r, .int .u16 c.g, .int .u16 c.b, .int .u16 c.a] 33) (.cells #[.int .u16 0, .int .u16 0, .int .u16 0, .int .u16 0] 33)
  generalize (w.alloc (.cells #[.int .u16 c.r, .int .u16 c.g, .int .u16 c.b, .int .u16 c.a] 33)).alloc (.cells #[.int .u16 0, .int .u16 0, .int .u16 0, .int .u16 0] 33) = w0 at *
  have HB0 := Lib.hid B0
  have Q0 := Lib.hid q0
  have Q1 := Lib.hid q1
  clear B0 q0 q1
  refine (find_any op p n cap a _ (HA.out.below HB0.out)).mono ?_
  rintro e w1 hp
  obtain ⟨s, A, m, d, rfl, h1, hb, hk⟩ := hp.code
  have HB := Lib.hid hb
  have HK := Lib.hid hk
  have HD := Lib.hid h1
  clear hp hb hk h1
  have HE : Hid (oneErr op a x y wd = if pm.errOf op a = 0 ∧ (x < 0 ∨ y < 0 ∨ wd ≤ x) then 2 else pm.errOf op a) := Lib.hid rfl
  generalize pm.errOf op a = E at *
  have HB1 := Lib.hid (HB0.out.trans ((HB.out.alloc HB.out.size (.cells #[.string s, .slice A m m, d] 57)).mono HB0.out.size))
  have Q2 := Lib.hid (((HB.out.alloc HB.out.size (.cells #[.string s, .slice A m m, d] 57)).block _ (block_lt Q1.out)).trans Q1.out)
  have HZ : Hid (oneErr op a x y wd ≠ 0 → oneRes op a c x y wd = C4.zero) := Lib.hid fun h => if_neg h
  by_cases hE : E = 0
  · subst hE
    obtain ⟨k, hk, hi, hok, hd⟩ := HK.out rfl
    have HI := Lib.hid hi
    have HOK := Lib.hid hok
    have hd1 := Lib.hid hd
    have hk18 := HP.out k hi
    clear hi hok hd HK
    by_cases hbad : x < 0 ∨ y < 0 ∨ wd ≤ x
    · have HV : Hid (oneErr op a x y wd = 2) := Lib.hid (by rw [HE.out, if_pos ⟨rfl, hbad⟩])
      have HR : Hid (oneRes op a c x y wd = C4.zero) := Lib.hid (HZ.out (by rw [HV.out]; omega))
      rcases (show x < 0 ∨ (0 ≤ x ∧ y < 0) ∨ (0 ≤ x ∧ 0 ≤ y ∧ wd ≤ x) by omega) with h | ⟨h, h'⟩ | ⟨h, h', h''⟩
      all_goals
        clear hbad
        go_wp2_with (first
          | (with_reducible refine wpList_store_row rfl 57 _ _ rfl w1.heap.size _ rfl rfl 57 _ (heap_alloc_last _ _) (opSize _ _ _) (opSz _ _ _ _ _ _) (opOneD HD.out) ?_; rw [World.setRow_alloc_new])
          | (with_reducible refine wpList_store_row rfl 33 _ _ rfl (w.heap.size + 1) _ rfl rfl 33 _ Q2.out (colSize4 _ _ _ _) (colSz _ _ _ _ _ _ _ _) (colOne _ _ _ _) ?_))
        exact bodyPost_ret (results_cell_tmp (p := 12) (q := 13) (ty := 33) rfl _ _ (w.heap.size + 1) 33 _ (0, 0) _ _ rfl rfl (setRow_heap _ _ _ _ _ _ Q2.out) Try.underlying33 rfl colSize) rfl ⟨by rw [HV.out, HR.out]; rfl, below_setRow HB1.out (by omega) _⟩
    · have HV : Hid (oneErr op a x y wd = 0) := Lib.hid (by rw [HE.out, if_neg fun h => hbad h.2])
      have HR : Hid (oneRes op a c x y wd = pm.res k a c x y wd) := Lib.hid (by unfold oneRes; rw [if_pos HV.out, HI.out])
      have hx0 : 0 ≤ x := by omega
      have hy0 : 0 ≤ y := by omega
      have hw0 : x < wd := by omega
      clear hbad
      have R2 := Lib.hid (((HB.out.alloc HB.out.size (.cells #[.string s, .slice A m m, d] 57)).block _ (block_lt Q0.out)).trans Q0.out)
      obtain ⟨f, caps, rfl, he, hcall⟩ := do_any k hk a c x y wd p n cap d (w1.alloc (.cells #[.string s, .slice A m m, d] 57)) (hd1.out.below ((Below.refl _ _).alloc (Nat.le_refl _) _)) HOK.out HC.out (.inl hk18) (HA.out.below HB1.out)
      have HF := Lib.hid hcall
      clear hcall
      unfold Enters at he
      have x0 := ((cell_of_row _ _ 0 _ _ (0, 0) R2.out).trans rfl)
      have x1 := ((cell_of_row _ _ 1 _ _ (0, 0) R2.out).trans rfl)
      have x2 := ((cell_of_row _ _ 2 _ _ (0, 0) R2.out).trans rfl)
      have x3 := ((cell_of_row _ _ 3 _ _ (0, 0) R2.out).trans rfl)
      go_wp2_with (with_reducible refine wpList_store_row rfl 57 _ _ rfl w1.heap.size _ rfl rfl 57 _ (heap_alloc_last _ _) (opSize _ _ _) (opSz _ _ _ _ _ _) (opOneD HD.out) ?_; rw [World.setRow_alloc_new])
      refine HF.out.mono ?_
      rintro e w3 ⟨rfl, hb3⟩
      have Q3 := Lib.hid ((hb3.block _ (block_lt Q2.out)).trans Q2.out)
      have HB3 := Lib.hid (HB1.out.trans (hb3.mono HB1.out.size))
      clear hb3 x0 x1 x2 x3
      generalize pm.res k a c x y wd = rc at *
      go_wp2_with (with_reducible refine wpList_store_row rfl 33 _ _ rfl (w.heap.size + 1) _ rfl rfl 33 _ Q3.out (colSize4 _ _ _ _) (colSz _ _ _ _ _ _ _ _) (colOne _ _ _ _) ?_)
      exact bodyPost_ret (results_cell_tmp (p := 12) (q := 13) (ty := 33) rfl _ _ (w.heap.size + 1) 33 _ (0, 0) _ _ rfl rfl (setRow_heap _ _ _ _ _ _ Q3.out) Try.underlying33 rfl colSize) rfl ⟨by rw [HV.out, HR.out]; rfl, below_setRow HB3.out (by omega) _⟩
  · have HV : Hid (oneErr op a x y wd = E) := Lib.hid (by rw [HE.out, if_neg fun h => hE h.1])
    have HR : Hid (oneRes op a c x y wd = C4.zero) := Lib.hid (HZ.out (by rw [HV.out]; exact hE))
    have hE' : (E == 0) = false := by simpa using hE
    clear hE
    go_wp2_with (first
      | (with_reducible refine wpList_store_row rfl 57 _ _ rfl w1.heap.size _ rfl rfl 57 _ (heap_alloc_last _ _) (opSize _ _ _) (opSz _ _ _ _ _ _) (opOneD HD.out) ?_; rw [World.setRow_alloc_new])
      | (with_reducible refine wpList_store_row rfl 33 _ _ rfl (w.heap.size + 1) _ rfl rfl 33 _ Q2.out (colSize4 _ _ _ _) (colSz _ _ _ _ _ _ _ _) (colOne _ _ _ _) ?_))
    exact bodyPost_ret (results_cell_tmp (p := 12) (q := 13) (ty := 33) rfl _ _ (w.heap.size + 1) 33 _ (0, 0) _ _ rfl rfl (setRow_heap _ _ _ _ _ _ Q2.out) Try.underlying33 rfl colSize) rfl ⟨by rw [HV.out, HR.out]; rfl, below_setRow HB1.out (by omega) _⟩
end Go.Proofs.Ytdemndjenlhahaa
