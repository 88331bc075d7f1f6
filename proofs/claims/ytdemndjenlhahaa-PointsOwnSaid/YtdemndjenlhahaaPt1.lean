/- The walk of operators: the table. -/
import Derived.Test.YtdemndjenlhahaaPtKind
namespace Go.Proofs.Ytdemndjenlhahaa
open Go.RowKit

/-- a value that an earlier operation has left -/
def Dep (o : Oper) (D : Nat → Nat) (R : Nat → Value → World → Prop) (t : Nat) (k : Kd) : Prop :=
  ∃ j, o.after.any (fun e => e.on == j && Region.binds .any e) = true ∧ D j = t ∧ R j = k.is

section
variable {o : Oper} {D : Nat → Nat} {R : Nat → Value → World → Prop} {S : Act → World → Prop} {Q : Exit → Act → World → Prop} {n : Nat}
theorem Dep.ev {t : Nat} {k : Kd} {a : Act} {w : World} (h : Dep o D R t k) (hd : ∀ j, o.after.any (fun e => e.on == j && Region.binds .any e) = true → ∃ v, a.tmps[D j]? = some v ∧ R j v w) :
    ∃ v, a.eval (.tmp t) = v ∧ k.is v w := by
  obtain ⟨j, h1, h2, h3⟩ := h
  have := hd j h1
  rw [h2, h3] at this
  exact eval_of this

def LoadsFrom (a : Act) (w : World) : Prop :=
  (∃ b, a.tmps[1]? = some (.pointer (some ⟨b, 0, none⟩)) ∧ PairAt b (0, 65535) w) ∧ ∃ b, a.tmps[2]? = some (.pointer (some ⟨b, 0, none⟩)) ∧ PairAt b (0, 256) w

theorem do_load1 (ho : o.op = .load 73 (.tmp 1)) (hR : R n = (Kd.pair (0, 65535)).is) : OpDoes Try.prog Q LoadsFrom D R n o := fun a w hS _ => by
  rw [hR]; exact op_load 1 _ ho hS.1
theorem do_load2 (ho : o.op = .load 73 (.tmp 2)) (hR : R n = (Kd.pair (0, 256)).is) : OpDoes Try.prog Q LoadsFrom D R n o := fun a w hS _ => by
  rw [hR]; exact op_load 2 _ ho hS.2
theorem do_pair (x y : Int) (ho : o.op = .build 73 #[(0, .const (.int .i64 x)), (1, .const (.int .i64 y))]) (hR : R n = (Kd.pair (x, y)).is) : OpDoes Try.prog Q S D R n o := fun a w _ _ => by
  rw [hR]; exact op_pair x y ho
theorem do_each (f : FuncId) (T : TypeId) (ho : o.op = .call { callee := .value (.func 32), args := #[.func f], argTypes := #[T] }) (hR : R n = (Kd.does (.each f)).is) : OpDoes Try.prog Q S D R n o := fun a w _ _ => by
  rw [hR]; exact op_each f T ho
theorem do_three (f : FuncId) (T : TypeId) (ho : o.op = .call { callee := .value (.func 51), args := #[.func f], argTypes := #[T] }) (hR : R n = (Kd.does (.three f)).is) : OpDoes Try.prog Q S D R n o := fun a w _ _ => by
  rw [hR]; exact op_three f T ho
theorem do_oper (k : Nat) (x y : Operand) (ho : o.op = .build 57 #[(0, .const (.string (pm.nm k))), (1, x), (2, y)]) (hR : R n = (Kd.oper k).is)
    (hx : (x = .const (.slice none 0 0) ∧ pm.bnd k = []) ∨ ∃ t, x = .tmp t ∧ Dep o D R t (.bnd (pm.bnd k)))
    (hy : (∃ f, y = .func f ∧ doK k = .dir f) ∨ ∃ t, y = .tmp t ∧ Dep o D R t (.does (doK k))) : OpDoes Try.prog Q S D R n o := fun a w _ hd => by
  rw [hR]
  refine op_oper k x y ho ?_ ?_
  · rcases hx with ⟨rfl, h⟩ | ⟨t, rfl, h⟩
    · exact ⟨_, rfl, .inl ⟨h, rfl⟩⟩
    · exact h.ev hd
  · rcases hy with ⟨f, rfl, h⟩ | ⟨t, rfl, h⟩
    · exact ⟨_, rfl, by rw [h]; rfl⟩
    · exact h.ev hd
theorem do_bnd1 (x0 : Nat) (p0 : Int × Int) (ho : o.op = .buildSlice 54 1 #[(0, .tmp x0)]) (hR : R n = (Kd.bnd [p0]).is)
    (h0 : Dep o D R x0 (.pair p0)) : OpDoes Try.prog Q S D R n o := fun a w _ hd => by
  rw [hR]; exact op_bnd1 x0 p0 ho (h0.ev hd)
theorem do_bnd2 (x0 x1 : Nat) (p0 p1 : Int × Int) (ho : o.op = .buildSlice 54 2 #[(0, .tmp x0), (1, .tmp x1)]) (hR : R n = (Kd.bnd [p0, p1]).is)
    (h0 : Dep o D R x0 (.pair p0)) (h1 : Dep o D R x1 (.pair p1)) : OpDoes Try.prog Q S D R n o := fun a w _ hd => by
  rw [hR]; exact op_bnd2 x0 x1 p0 p1 ho (h0.ev hd) (h1.ev hd)
theorem do_bnd3 (x0 x1 x2 : Nat) (p0 p1 p2 : Int × Int) (ho : o.op = .buildSlice 54 3 #[(0, .tmp x0), (1, .tmp x1), (2, .tmp x2)]) (hR : R n = (Kd.bnd [p0, p1, p2]).is)
    (h0 : Dep o D R x0 (.pair p0)) (h1 : Dep o D R x1 (.pair p1)) (h2 : Dep o D R x2 (.pair p2)) : OpDoes Try.prog Q S D R n o := fun a w _ hd => by
  rw [hR]; exact op_bnd3 x0 x1 x2 p0 p1 p2 ho (h0.ev hd) (h1.ev hd) (h2.ev hd)
theorem do_bnd4 (x0 x1 x2 x3 : Nat) (p0 p1 p2 p3 : Int × Int) (ho : o.op = .buildSlice 54 4 #[(0, .tmp x0), (1, .tmp x1), (2, .tmp x2), (3, .tmp x3)]) (hR : R n = (Kd.bnd [p0, p1, p2, p3]).is)
    (h0 : Dep o D R x0 (.pair p0)) (h1 : Dep o D R x1 (.pair p1)) (h2 : Dep o D R x2 (.pair p2)) (h3 : Dep o D R x3 (.pair p3)) : OpDoes Try.prog Q S D R n o := fun a w _ hd => by
  rw [hR]; exact op_bnd4 x0 x1 x2 x3 p0 p1 p2 p3 ho (h0.ev hd) (h1.ev hd) (h2.ev hd) (h3.ev hd)
theorem do_tab (x : Nat → Nat) (ho : o.op = .buildSlice 52 20 #[(0, .tmp (x 0)), (1, .tmp (x 1)), (2, .tmp (x 2)), (3, .tmp (x 3)), (4, .tmp (x 4)), (5, .tmp (x 5)), (6, .tmp (x 6)), (7, .tmp (x 7)), (8, .tmp (x 8)), (9, .tmp (x 9)), (10, .tmp (x 10)), (11, .tmp (x 11)), (12, .tmp (x 12)), (13, .tmp (x 13)), (14, .tmp (x 14)), (15, .tmp (x 15)), (16, .tmp (x 16)), (17, .tmp (x 17)), (18, .tmp (x 18)), (19, .tmp (x 19))]) (hR : R n = Kd.tab.is)
    (h : ∀ k, k < 20 → Dep o D R (x k) (.oper k)) : OpDoes Try.prog Q S D R n o := fun a w _ hd => by
  rw [hR]; exact op_tab x ho fun k hk => (h k hk).ev hd
theorem do_assign (t : Nat) (ho : o.op = .assign (.tmp t)) (hR : R n = Kd.tab.is) (h : Dep o D R t .tab) : OpDoes Try.prog Q S D R n o := fun a w _ hd => by
  rw [hR]
  obtain ⟨v, h1, h2⟩ := h.ev hd
  obtain ⟨dst, op, type, pos, after, guard⟩ := o
  simp only at ho
  subst ho
  have hrun : (execOp a.eval { dst, op := .assign (.tmp t), type, pos, after, guard }).run Try.prog w = .ok (.value (a.eval (.tmp t))) w := by kernel_rfl
  unfold Oper.wp
  rw [hrun]
  exact ⟨_, rfl, by rw [h1]; exact h2, Below.refl _ _⟩
end

def slotOf (i : Nat) : Nat := if i = 72 then 0 else i + 5
def kindL : List Kd := [.does (.each 33), .oper 0, .oper 1, .pair (0, 65535), .bnd [(0, 65535)], .oper 2, .pair (0, 65535), .pair (0, 65535), .bnd [(0, 65535), (0, 65535)], .does (.each 38), .oper 3, .pair (0, 65535), .pair (0, 65535), .bnd [(0, 65535), (0, 65535)], .does (.each 40), .oper 4, .pair (-65535, 65535), .bnd [(-65535, 65535)], .does (.each 41), .oper 5, .pair (0, 65535), .pair (1, 65535), .bnd [(0, 65535), (1, 65535)], .does (.each 42), .oper 6, .pair (2, 256), .bnd [(2, 256)], .does (.each 43), .oper 7, .pair (0, 65535), .bnd [(0, 65535)], .does (.each 46), .oper 8, .pair (1, 3), .bnd [(1, 3)], .does (.each 47), .oper 9, .pair (1, 5), .bnd [(1, 5)], .oper 10, .pair (0, 3), .bnd [(0, 3)], .oper 11, .does (.three 52), .oper 12, .pair (0, 65535), .pair (0, 65535), .pair (0, 65535), .pair (0, 256), .bnd [(0, 65535), (0, 65535), (0, 65535), (0, 256)], .does (.three 53), .oper 13, .oper 14, .pair (0, 256), .bnd [(0, 256)], .oper 15, .pair (0, 65535), .pair (0, 65535), .pair (0, 65535), .bnd [(0, 65535), (0, 65535), (0, 65535)], .oper 16, .pair (0, 65535), .pair (0, 65535), .pair (0, 65535), .pair (0, 65535), .bnd [(0, 65535), (0, 65535), (0, 65535), (0, 65535)], .oper 17, .pair (1, 4096), .bnd [(1, 4096)], .oper 18, .oper 19, .tab, .tab]
def leaves (i : Nat) : Value → World → Prop := (kindL.getD i .tab).is

def OpsPost (W : World) (e : Ending) (w' : World) : Prop := ∃ T, e = .returned (.slice (some ⟨T, 0, none⟩) 20 20) ∧ TabAt T w' ∧ Below W.heap.size W w'

theorem tab_dep {o : Oper} (h : ∀ k, k < 20 → o.after.any (fun e => e.on == ([1, 2, 5, 10, 15, 19, 24, 28, 32, 36, 39, 42, 44, 51, 52, 55, 60, 66, 69, 70] : List Nat).getD k 0 && Region.binds .any e) = true) :
    ∀ k, k < 20 → Dep o slotOf leaves (([6, 7, 10, 15, 20, 24, 29, 33, 37, 41, 44, 47, 49, 56, 57, 60, 65, 71, 74, 75] : List Nat).getD k 0) (.oper k) := by
  intro k hk
  match k, hk with
  | 0, _ => exact ⟨1, h 0 (by decide), rfl, rfl⟩
  | 1, _ => exact ⟨2, h 1 (by decide), rfl, rfl⟩
  | 2, _ => exact ⟨5, h 2 (by decide), rfl, rfl⟩
  | 3, _ => exact ⟨10, h 3 (by decide), rfl, rfl⟩
  | 4, _ => exact ⟨15, h 4 (by decide), rfl, rfl⟩
  | 5, _ => exact ⟨19, h 5 (by decide), rfl, rfl⟩
  | 6, _ => exact ⟨24, h 6 (by decide), rfl, rfl⟩
  | 7, _ => exact ⟨28, h 7 (by decide), rfl, rfl⟩
  | 8, _ => exact ⟨32, h 8 (by decide), rfl, rfl⟩
  | 9, _ => exact ⟨36, h 9 (by decide), rfl, rfl⟩
  | 10, _ => exact ⟨39, h 10 (by decide), rfl, rfl⟩
  | 11, _ => exact ⟨42, h 11 (by decide), rfl, rfl⟩
  | 12, _ => exact ⟨44, h 12 (by decide), rfl, rfl⟩
  | 13, _ => exact ⟨51, h 13 (by decide), rfl, rfl⟩
  | 14, _ => exact ⟨52, h 14 (by decide), rfl, rfl⟩
  | 15, _ => exact ⟨55, h 15 (by decide), rfl, rfl⟩
  | 16, _ => exact ⟨60, h 16 (by decide), rfl, rfl⟩
  | 17, _ => exact ⟨66, h 17 (by decide), rfl, rfl⟩
  | 18, _ => exact ⟨69, h 18 (by decide), rfl, rfl⟩
  | 19, _ => exact ⟨70, h 19 (by decide), rfl, rfl⟩
  | n + 20, h => exact absurd h (by omega)

theorem heap2 (w : World) (A B : Obj) : ((w.alloc A).alloc B).heap[w.heap.size]? = some A ∧ ((w.alloc A).alloc B).heap[w.heap.size + 1]? = some B := by
  refine ⟨?_, ?_⟩
  · show ((w.heap.push A).push B)[w.heap.size]? = some A
    rw [Array.getElem?_push, if_neg (by simp), Array.getElem?_push, if_pos rfl]
  · show ((w.heap.push A).push B)[w.heap.size + 1]? = some B
    rw [Array.getElem?_push, if_pos (by simp)]

set_option maxRecDepth 100000 in
set_option maxHeartbeats 3200000 in
theorem operators_any (w : World) : Calls Try.prog 20 #[] w (OpsPost w) := by
  go_enter Try.func20, Try.ntmps20
  refine wp_seq_k fun K hK => ?_
  have HK := Lib.hid hK
  clear hK
  go_wp2_with fail
  refine HK.out _ _ ?_
  clear HK K
  refine wp_seq_k fun K hK => ?_
  have HK := Lib.hid hK
  clear hK
  go_wp2_with fail
  refine HK.out _ _ ?_
  clear HK K
  refine wp_seq_k fun K hK => ?_
  have HK := Lib.hid hK
  clear hK
  refine wp_region_laid (D := slotOf) (R := leaves) (S := LoadsFrom) rfl (by kernel_rfl) (by kernel_rfl) (fun i v w w' h hb => Kd.is_below h hb) ?_ ?_ ?_
  · intro a w' hb hs hold
    have h1 := hold 1 (fun i _ => by unfold slotOf; split <;> omega)
    have h2 := hold 2 (fun i _ => by unfold slotOf; split <;> omega)
    clear hold
    have P1 := (heap2 w (.cells #[.int .i64 0, .int .i64 65535] 73) (.cells #[.int .i64 0, .int .i64 256] 73)).1
    have P2 := (heap2 w (.cells #[.int .i64 0, .int .i64 65535] 73) (.cells #[.int .i64 0, .int .i64 256] 73)).2
    exact ⟨⟨_, h1.trans rfl, PairAt.below P1 hb⟩, ⟨_, h2.trans rfl, PairAt.below P2 hb⟩⟩
  · refine ⟨do_each 33 _ rfl rfl,
      do_oper 0 _ _ rfl rfl (.inl ⟨rfl, rfl⟩) (.inr ⟨5, rfl, 0, by kernel_rfl, rfl, rfl⟩),
      do_oper 1 _ _ rfl rfl (.inl ⟨rfl, rfl⟩) (.inl ⟨_, rfl, rfl⟩),
      do_load1 rfl rfl,
      do_bnd1 8 _ rfl rfl ⟨3, by kernel_rfl, rfl, rfl⟩,
      do_oper 2 _ _ rfl rfl (.inr ⟨9, rfl, 4, by kernel_rfl, rfl, rfl⟩) (.inl ⟨_, rfl, rfl⟩),
      do_load1 rfl rfl,
      do_load1 rfl rfl,
      do_bnd2 11 12 _ _ rfl rfl ⟨6, by kernel_rfl, rfl, rfl⟩ ⟨7, by kernel_rfl, rfl, rfl⟩,
      do_each 38 _ rfl rfl,
      do_oper 3 _ _ rfl rfl (.inr ⟨13, rfl, 8, by kernel_rfl, rfl, rfl⟩) (.inr ⟨14, rfl, 9, by kernel_rfl, rfl, rfl⟩),
      do_load1 rfl rfl,
      do_load1 rfl rfl,
      do_bnd2 16 17 _ _ rfl rfl ⟨11, by kernel_rfl, rfl, rfl⟩ ⟨12, by kernel_rfl, rfl, rfl⟩,
      do_each 40 _ rfl rfl,
      do_oper 4 _ _ rfl rfl (.inr ⟨18, rfl, 13, by kernel_rfl, rfl, rfl⟩) (.inr ⟨19, rfl, 14, by kernel_rfl, rfl, rfl⟩),
      do_pair (-65535) (65535) rfl rfl,
      do_bnd1 21 _ rfl rfl ⟨16, by kernel_rfl, rfl, rfl⟩,
      do_each 41 _ rfl rfl,
      do_oper 5 _ _ rfl rfl (.inr ⟨22, rfl, 17, by kernel_rfl, rfl, rfl⟩) (.inr ⟨23, rfl, 18, by kernel_rfl, rfl, rfl⟩),
      do_load1 rfl rfl,
      do_pair (1) (65535) rfl rfl,
      do_bnd2 25 26 _ _ rfl rfl ⟨20, by kernel_rfl, rfl, rfl⟩ ⟨21, by kernel_rfl, rfl, rfl⟩,
      do_each 42 _ rfl rfl,
      do_oper 6 _ _ rfl rfl (.inr ⟨27, rfl, 22, by kernel_rfl, rfl, rfl⟩) (.inr ⟨28, rfl, 23, by kernel_rfl, rfl, rfl⟩),
      do_pair (2) (256) rfl rfl,
      do_bnd1 30 _ rfl rfl ⟨25, by kernel_rfl, rfl, rfl⟩,
      do_each 43 _ rfl rfl,
      do_oper 7 _ _ rfl rfl (.inr ⟨31, rfl, 26, by kernel_rfl, rfl, rfl⟩) (.inr ⟨32, rfl, 27, by kernel_rfl, rfl, rfl⟩),
      do_load1 rfl rfl,
      do_bnd1 34 _ rfl rfl ⟨29, by kernel_rfl, rfl, rfl⟩,
      do_each 46 _ rfl rfl,
      do_oper 8 _ _ rfl rfl (.inr ⟨35, rfl, 30, by kernel_rfl, rfl, rfl⟩) (.inr ⟨36, rfl, 31, by kernel_rfl, rfl, rfl⟩),
      do_pair (1) (3) rfl rfl,
      do_bnd1 38 _ rfl rfl ⟨33, by kernel_rfl, rfl, rfl⟩,
      do_each 47 _ rfl rfl,
      do_oper 9 _ _ rfl rfl (.inr ⟨39, rfl, 34, by kernel_rfl, rfl, rfl⟩) (.inr ⟨40, rfl, 35, by kernel_rfl, rfl, rfl⟩),
      do_pair (1) (5) rfl rfl,
      do_bnd1 42 _ rfl rfl ⟨37, by kernel_rfl, rfl, rfl⟩,
      do_oper 10 _ _ rfl rfl (.inr ⟨43, rfl, 38, by kernel_rfl, rfl, rfl⟩) (.inl ⟨_, rfl, rfl⟩),
      do_pair (0) (3) rfl rfl,
      do_bnd1 45 _ rfl rfl ⟨40, by kernel_rfl, rfl, rfl⟩,
      do_oper 11 _ _ rfl rfl (.inr ⟨46, rfl, 41, by kernel_rfl, rfl, rfl⟩) (.inl ⟨_, rfl, rfl⟩),
      do_three 52 _ rfl rfl,
      do_oper 12 _ _ rfl rfl (.inl ⟨rfl, rfl⟩) (.inr ⟨48, rfl, 43, by kernel_rfl, rfl, rfl⟩),
      do_load1 rfl rfl,
      do_load1 rfl rfl,
      do_load1 rfl rfl,
      do_load2 rfl rfl,
      do_bnd4 50 51 52 53 _ _ _ _ rfl rfl ⟨45, by kernel_rfl, rfl, rfl⟩ ⟨46, by kernel_rfl, rfl, rfl⟩ ⟨47, by kernel_rfl, rfl, rfl⟩ ⟨48, by kernel_rfl, rfl, rfl⟩,
      do_three 53 _ rfl rfl,
      do_oper 13 _ _ rfl rfl (.inr ⟨54, rfl, 49, by kernel_rfl, rfl, rfl⟩) (.inr ⟨55, rfl, 50, by kernel_rfl, rfl, rfl⟩),
      do_oper 14 _ _ rfl rfl (.inl ⟨rfl, rfl⟩) (.inl ⟨_, rfl, rfl⟩),
      do_load2 rfl rfl,
      do_bnd1 58 _ rfl rfl ⟨53, by kernel_rfl, rfl, rfl⟩,
      do_oper 15 _ _ rfl rfl (.inr ⟨59, rfl, 54, by kernel_rfl, rfl, rfl⟩) (.inl ⟨_, rfl, rfl⟩),
      do_load1 rfl rfl,
      do_load1 rfl rfl,
      do_load1 rfl rfl,
      do_bnd3 61 62 63 _ _ _ rfl rfl ⟨56, by kernel_rfl, rfl, rfl⟩ ⟨57, by kernel_rfl, rfl, rfl⟩ ⟨58, by kernel_rfl, rfl, rfl⟩,
      do_oper 16 _ _ rfl rfl (.inr ⟨64, rfl, 59, by kernel_rfl, rfl, rfl⟩) (.inl ⟨_, rfl, rfl⟩),
      do_load1 rfl rfl,
      do_load1 rfl rfl,
      do_load1 rfl rfl,
      do_load1 rfl rfl,
      do_bnd4 66 67 68 69 _ _ _ _ rfl rfl ⟨61, by kernel_rfl, rfl, rfl⟩ ⟨62, by kernel_rfl, rfl, rfl⟩ ⟨63, by kernel_rfl, rfl, rfl⟩ ⟨64, by kernel_rfl, rfl, rfl⟩,
      do_oper 17 _ _ rfl rfl (.inr ⟨70, rfl, 65, by kernel_rfl, rfl, rfl⟩) (.inl ⟨_, rfl, rfl⟩),
      do_pair (1) (4096) rfl rfl,
      do_bnd1 72 _ rfl rfl ⟨67, by kernel_rfl, rfl, rfl⟩,
      do_oper 18 _ _ rfl rfl (.inr ⟨73, rfl, 68, by kernel_rfl, rfl, rfl⟩) (.inl ⟨_, rfl, rfl⟩),
      do_oper 19 _ _ rfl rfl (.inl ⟨rfl, rfl⟩) (.inl ⟨_, rfl, rfl⟩),
      do_tab (fun k => ([6, 7, 10, 15, 20, 24, 29, 33, 37, 41, 44, 47, 49, 56, 57, 60, 65, 71, 74, 75] : List Nat).getD k 0) rfl rfl (tab_dep (by decide +kernel)),
      do_assign 76 rfl rfl ⟨71, by kernel_rfl, rfl, rfl⟩, trivial⟩
  · intro a w' h
    refine HK.out _ _ ?_
    obtain ⟨hb, hd, hs, ho, hn⟩ := h
    clear ho
    obtain ⟨v, h0, T, rfl, hT⟩ := hn 72 (by decide +kernel) (by decide +kernel)
    clear hn
    have B : Below w.heap.size w w' := (((Below.refl w.heap.size w).alloc (Nat.le_refl _) _).alloc (by simp) _).trans (hb.mono (by simp; omega))
    clear hb HK
    obtain ⟨tmps, defers⟩ := a
    have hd' : defers = [] := hd
    subst hd'
    have h0' : tmps[0]? = some (.slice (some ⟨T, 0, none⟩) 20 20) := h0
    have POST : OpsPost w (.returned (.slice (some ⟨T, 0, none⟩) 20 20)) w' := ⟨T, rfl, hT, B⟩
    clear hs hd h0 hT B
    go_wp2_with fail
    refine ⟨rfl, tmps.getD 0 undef, by kernel_rfl, ?_⟩
    have e : tmps.getD 0 undef = .slice (some ⟨T, 0, none⟩) 20 20 := by simp [h0']
    rw [e]
    exact POST
end Go.Proofs.Ytdemndjenlhahaa
