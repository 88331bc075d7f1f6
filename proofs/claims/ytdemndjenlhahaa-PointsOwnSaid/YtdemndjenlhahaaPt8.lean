/- Every work, whatever holds it. -/
import Derived.Test.YtdemndjenlhahaaPt7
namespace Go.Proofs.Ytdemndjenlhahaa
open Go.RowKit Go.Sort Go.Shelf

def DoPost (k : Nat) (a : List Int) (c : C4) (x y wd : Int) (w : World) (e : Ending) (w' : World) : Prop := e = .returned (pm.res k a c x y wd).val ∧ Below w.heap.size w w'

theorem do_each_ok {k : Nat} (f : FuncId) (he : Enters Try.prog f) (hf : EachF f k) (a : List Int) (c : C4) (x y wd : Int) (p : Option Addr) (n cap : Nat) (v : Value) (w : World) (hr : pm.res k a c x y wd = pm.all k a c) (hd : DoIs (.each f) v w) (ha : pm.okA k a) (hc : c.ok) (hA : Sl .i64 w p n cap a) :
    ∃ f caps, v = .func (.func f) #[] caps ∧ Enters Try.prog f ∧ Calls Try.prog f (#[.slice p n cap, .agg #[.int .u16 c.r, .int .u16 c.g, .int .u16 c.b, .int .u16 c.a], .agg #[.int .i64 x, .int .i64 y, .int .i64 wd]] ++ caps) w (DoPost k a c x y wd w) := by
  obtain ⟨b, rfl, hb⟩ := hd
  refine ⟨_, _, rfl, enters_of Try.func65 (by kernel_rfl) rfl, (each1 he a c #[.int .i64 x, .int .i64 y, .int .i64 wd] p n cap b w (hf.at ha p n cap) hc hA hb).mono ?_⟩
  rintro e w' ⟨h1, h2⟩
  exact ⟨by rw [hr]; exact h1, h2⟩
theorem do_three_ok {k : Nat} (f : FuncId) (he : Enters Try.prog f) (hf : ThreeF f k) (a : List Int) (c : C4) (x y wd : Int) (p : Option Addr) (n cap : Nat) (v : Value) (w : World) (hr : pm.res k a c x y wd = pm.all3 k a c) (hd : DoIs (.three f) v w) (ha : pm.okA k a) (hc : c.ok) (hA : Sl .i64 w p n cap a) :
    ∃ f caps, v = .func (.func f) #[] caps ∧ Enters Try.prog f ∧ Calls Try.prog f (#[.slice p n cap, .agg #[.int .u16 c.r, .int .u16 c.g, .int .u16 c.b, .int .u16 c.a], .agg #[.int .i64 x, .int .i64 y, .int .i64 wd]] ++ caps) w (DoPost k a c x y wd w) := by
  obtain ⟨b, rfl, hb⟩ := hd
  refine ⟨_, _, rfl, enters_of Try.func68 (by kernel_rfl) rfl, (three1 he hf a c #[.int .i64 x, .int .i64 y, .int .i64 wd] p n cap b w ha hc hA hb).mono ?_⟩
  rintro e w' ⟨h1, h2⟩
  exact ⟨by rw [hr]; exact h1, h2⟩
theorem do_dir_ok {k : Nat} (f : FuncId) (he : Enters Try.prog f) (hf : DirF f k) (a : List Int) (c : C4) (x y wd : Int) (p : Option Addr) (n cap : Nat) (v : Value) (w : World) (hd : DoIs (.dir f) v w) (ha : pm.okA k a) (hc : c.ok) (hp : PlaceOk k x y wd) (hA : Sl .i64 w p n cap a) :
    ∃ f caps, v = .func (.func f) #[] caps ∧ Enters Try.prog f ∧ Calls Try.prog f (#[.slice p n cap, .agg #[.int .u16 c.r, .int .u16 c.g, .int .u16 c.b, .int .u16 c.a], .agg #[.int .i64 x, .int .i64 y, .int .i64 wd]] ++ caps) w (DoPost k a c x y wd w) := by
  obtain rfl : v = .func (.func f) #[] #[] := hd
  exact ⟨_, _, rfl, he, hf a c x y wd p n cap w ha hc hp hA⟩

/-- WHAT AN OPERATOR's WORK DOES -/
theorem do_any (k : Nat) (hk : k < 20) (a : List Int) (c : C4) (x y wd : Int) (p : Option Addr) (n cap : Nat) (v : Value) (w : World) (hv : DoIs (doK k) v w) (ha : pm.okA k a) (hc : c.ok) (hp : PlaceOk k x y wd) (hA : Sl .i64 w p n cap a) :
    ∃ f caps, v = .func (.func f) #[] caps ∧ Enters Try.prog f ∧ Calls Try.prog f (#[.slice p n cap, .agg #[.int .u16 c.r, .int .u16 c.g, .int .u16 c.b, .int .u16 c.a], .agg #[.int .i64 x, .int .i64 y, .int .i64 wd]] ++ caps) w (DoPost k a c x y wd w) := by
  match k, hk with
  | 0, _ => exact do_each_ok _ (enters_of Try.func33 (by kernel_rfl) rfl) each0 a c x y wd p n cap v w rfl hv ha hc hA
  | 1, _ => exact do_dir_ok _ (enters_of Try.func34 (by kernel_rfl) rfl) dir1 a c x y wd p n cap v w hv ha hc hp hA
  | 2, _ => exact do_dir_ok _ (enters_of Try.func37 (by kernel_rfl) rfl) dir2 a c x y wd p n cap v w hv ha hc hp hA
  | 3, _ => exact do_each_ok _ (enters_of Try.func38 (by kernel_rfl) rfl) each3 a c x y wd p n cap v w rfl hv ha hc hA
  | 4, _ => exact do_each_ok _ (enters_of Try.func40 (by kernel_rfl) rfl) each4 a c x y wd p n cap v w rfl hv ha hc hA
  | 5, _ => exact do_each_ok _ (enters_of Try.func41 (by kernel_rfl) rfl) each5 a c x y wd p n cap v w rfl hv ha hc hA
  | 6, _ => exact do_each_ok _ (enters_of Try.func42 (by kernel_rfl) rfl) each6 a c x y wd p n cap v w rfl hv ha hc hA
  | 7, _ => exact do_each_ok _ (enters_of Try.func43 (by kernel_rfl) rfl) each7 a c x y wd p n cap v w rfl hv ha hc hA
  | 8, _ => exact do_each_ok _ (enters_of Try.func46 (by kernel_rfl) rfl) each8 a c x y wd p n cap v w rfl hv ha hc hA
  | 9, _ => exact do_each_ok _ (enters_of Try.func47 (by kernel_rfl) rfl) each9 a c x y wd p n cap v w rfl hv ha hc hA
  | 10, _ => exact do_dir_ok _ (enters_of Try.func49 (by kernel_rfl) rfl) dir10 a c x y wd p n cap v w hv ha hc hp hA
  | 11, _ => exact do_dir_ok _ (enters_of Try.func50 (by kernel_rfl) rfl) dir11 a c x y wd p n cap v w hv ha hc hp hA
  | 12, _ => exact do_three_ok _ (enters_of Try.func52 (by kernel_rfl) rfl) three12 a c x y wd p n cap v w rfl hv ha hc hA
  | 13, _ => exact do_three_ok _ (enters_of Try.func53 (by kernel_rfl) rfl) three13 a c x y wd p n cap v w rfl hv ha hc hA
  | 14, _ => exact do_dir_ok _ (enters_of Try.func54 (by kernel_rfl) rfl) dir14 a c x y wd p n cap v w hv ha hc hp hA
  | 15, _ => exact do_dir_ok _ (enters_of Try.func55 (by kernel_rfl) rfl) dir15 a c x y wd p n cap v w hv ha hc hp hA
  | 16, _ => exact do_dir_ok _ (enters_of Try.func56 (by kernel_rfl) rfl) dir16 a c x y wd p n cap v w hv ha hc hp hA
  | 17, _ => exact do_dir_ok _ (enters_of Try.func58 (by kernel_rfl) rfl) dir17 a c x y wd p n cap v w hv ha hc hp hA
  | 18, _ => exact do_dir_ok _ (enters_of Try.func60 (by kernel_rfl) rfl) dir18 a c x y wd p n cap v w hv ha hc hp hA
  | 19, _ => exact do_dir_ok _ (enters_of Try.func61 (by kernel_rfl) rfl) dir19 a c x y wd p n cap v w hv ha hc hp hA
  | n + 20, h => exact absurd h (by omega)
end Go.Proofs.Ytdemndjenlhahaa
