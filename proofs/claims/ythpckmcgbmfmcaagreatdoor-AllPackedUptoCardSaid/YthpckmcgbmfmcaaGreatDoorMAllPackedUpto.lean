/- AllPacked, the given card: for every input of bulk at most 1048576 the law answers true and its arguments read as they did. Conditions: the given statement's own: eight variables of the library start as its text lays them (tied by the given texts; one of them is read); none beyond. -/
import Derived.Test.YthpckmcgbmfmcaaGreatDoorM51
import Derived.Test.YthpckmcgbmfmcaaGreatDoorCards
import Derived.Test.YthpckmcgbmfmcaaGreatDoorTie
import Derived.Deep.DeepHandedRow
import Derived.Lib.LaidTab
import Derived.Stop.LaidErr
import Derived.Lay
set_option maxRecDepth 100000
set_option maxHeartbeats 12800000
namespace Go.Proofs.YthpckmcgbmfmcaaGreatDoor.allPackedUpto
open Go.ChangeShapes Go.WideShapes Go.ChangeAt Go.RowKit
open Go.ChangeMaps (open_string shut_string)
set_option linter.unusedVariables false
theorem tab_of_laid {W : World} (h : laidMetH Tryz.prog Rows.allPackedUptoRow.laid W) : lit.Tab W := by
 rw [MakeChecks.laidMetH_plain _ _ _ (by kernel_rfl)] at h;have h2 : laidMet Tryz.prog ((lit.powName, Lib.tabData .u64 Lib.pow10Tab) :: Rows.allPackedUptoRow.laid.drop 3) W := h.tail.tail;exact Lib.tabIs_of_head (g := 1) (by kernel_rfl) (show _ = some 249 by kernel_rfl) Tryz.underlying249 Tryz.underlying234 (by kernel_rfl) (by kernel_rfl) h2
theorem contract (H : Type) (enc : TypeId × Value -> H) (W : World) (base : Nat) (args : Array Value) (ds gs : List (DataW H)) (before : List MemPlace)
  (hval0 : ∀ (j : Nat) t v, Tryz.f3.params[j]? = some t -> args[j]? = some v -> Value.okWide Tryz.prog W .any base t v)
  (hW : DataW.Whole enc Tryz.prog Tryz.f3.params.toList Rows.allPackedSpec.vars false W args.toList ds gs before) (hk : Rows.uptoSmall H (ds ++ gs) = true) (hL : laidMetH Tryz.prog Rows.allPackedUptoRow.laid W) :
  Calls Tryz.prog 3 args W fun e W' => ∃ v, e = .returned v /\ Rows.allPackedSpec.post enc Tryz.prog Tryz.f3 false true false false W args v W' := by
 have hval : ∀ (j : Nat) t v, Tryz.f3.params[j]? = some t -> args[j]? = some v -> Value.okWide Tryz.prog W .any base t v := hval0;have hW' := hW;obtain ⟨p, q, hA0, hV, rfl, hfz, hnd⟩ := hW;have hA : DataW.TrodAll enc Tryz.prog W 0 (fun _ => true) true Tryz.f3.params.toList args.toList ds p := hA0;rw [Tryz.params3] at hA hval;obtain ⟨v0, vs0, d0, ds0, p0, q0, hargs, rfl, rfl, h0, r0⟩ := trodAll_cons hA;obtain ⟨v1, vs1, d1, ds1, p1, q1, rfl, rfl, rfl, h1, r1⟩ := trodAll_cons r0;obtain ⟨rfl, rfl, rfl⟩ := trodAll_nil r1;obtain rfl : args = #[v0, v1] := by cases args; simp_all
 obtain ⟨rfl, rfl⟩ := trodVars_none hV;have k0 := h0;have lt0 : ∀ x ∈ p0, x.block < W.heap.size := by obtain ⟨m, hm⟩ := k0; exact DataW.trod_lt m _ _ _ hm
 obtain ⟨a0, n0, c0, rfl⟩ := okWide_slice Tryz.underlying22 (hval 0 22 v0 rfl rfl);obtain ⟨l0, s0, e0⟩ := open_sl (k := .u8) Tryz.underlying22 Tryz.underlying5 (by kernel_rfl) h0;have k1 := h1;have lt1 : ∀ x ∈ p1, x.block < W.heap.size := by obtain ⟨m, hm⟩ := k1; exact DataW.trod_lt m _ _ _ hm
 obtain ⟨x1, rfl, rfl, rfl, w1⟩ := open_int Tryz.underlying3 (hval 1 3 v1 rfl rfl) h1;clear hA0 hval0;have hk' : Rows.uptoBulkAll ([d0, (.lit (.int .i64 x1))] ++ []) <= 1048576 := of_decide_eq_true hk;have z0 : c0 <= 1048576 := by
  have h2 := Nat.le_trans (bulks.part_le (d := d0) (by simp)) hk';rcases e0 with ⟨_, h⟩ | ⟨es, sp, rfl, h, _⟩
  ·omega
  ·have h1 := bulks.slice_le es sp
   omega
 refine (allPacked_walk a0 n0 c0 l0 x1 W s0 (tab_of_laid hL) (Nat.le_trans s0.fits z0)).mono fun e W' ⟨he, bel⟩ => ?_
 subst he;exact ⟨_, rfl, _, _, _, [], _, [], hW', trodAll_mk1 (shut_bool Tryz.underlying4 _), (trodAll_cons_mk (Below.trod laidOut_true (by kernel_rfl) (of_decide_eq_true (by kernel_rfl)) k0 bel lt0) (trodAll_cons_mk (shut_int Tryz.underlying3 w1) trodAll_mk0)), rfl, bel.frame _, fun h => by cases h⟩
theorem laid_met (os : Os) : laidMet Tryz.prog Rows.allPackedUptoRow.laid ((World.laidAll Tryz.prog os Rows.allPackedUptoRow.laid).forCall (fun _ _ => 0) ⟨#[], #[.slice none 0 0, .int .i64 0], []⟩).memory :=
 laidMet_laidAll _ (by kernel_rfl) (by kernel_rfl)
theorem reads (os : Os) {H : Type} (enc : TypeId × Value -> H) : ∃ places, DataW.whole enc Tryz.prog ((World.laidAll Tryz.prog os Rows.allPackedUptoRow.laid).forCall (fun _ _ => 0) ⟨#[], #[.slice none 0 0, .int .i64 0], []⟩).memory Tryz.f3.params.toList Rows.allPackedSpec.vars false (#[.slice none 0 0, .int .i64 0] : Array Value).toList 8 = some ([.nil, .lit (.int .i64 0)], [], places) :=
 ⟨[], by kernel_rfl⟩
theorem okW (os : Os) : Input.okWideB Tryz.prog ((World.laidAll Tryz.prog os Rows.allPackedUptoRow.laid).forCall (fun _ _ => 0) ⟨#[], #[.slice none 0 0, .int .i64 0], []⟩) 3 ⟨#[], #[.slice none 0 0, .int .i64 0], []⟩ = true := by kernel_rfl
theorem lifted (os : Os) (started : os.Started) (H : Type) (enc : TypeId × Value -> H) (F : Stop.Interp) :
  ReturnsInHanded {} Tryz.checked os 3 .any ((Rows.OpenSpec.upto Rows.allPackedSpec).preRow enc Tryz.prog Tryz.f3 Rows.allPackedUptoRow.domain false Rows.allPackedUptoRow.laid) (((Rows.OpenSpec.upto Rows.allPackedSpec).at F).post enc Tryz.prog Tryz.f3 false true false false) := by
 obtain ⟨places, hx⟩ := reads os enc;refine returnsInHanded_of_row (C := Tryz.checked) (s := Rows.OpenSpec.upto Rows.allPackedSpec) ownKnob_none started (by kernel_rfl) Tryz.func3
  ⟨World.laidAll Tryz.prog os Rows.allPackedUptoRow.laid, fun _ _ => 0, ⟨#[], #[.slice none 0 0, .int .i64 0], []⟩, World.laidAll_os _ _ _, World.shaped_of_ZipB (by kernel_rfl) (by kernel_rfl), (Input.okWide_of_okWideB (base := 0) (okW os)).1, (Input.okWide_of_okWideB (okW os)).2,
   OpenSpec.preRow_of_cond 8 hx (by kernel_rfl) (fun k hk => by cases hk; kernel_rfl) (by kernel_rfl) (by rw [MakeChecks.laidMetH_plain _ _ _ (by kernel_rfl)]; exact laid_met os), by simp [Assume.holds]⟩ ?_
 intro W base args ds gs before hval hW _ hcond hsz hL _ _;exact contract H enc W base args ds gs before hval hW (hcond _ rfl) hL
theorem bare : Rows.AllPackedUptoSaid :=
 OpenClaim.holds_of_cond 3 Tryz.f3 rfl rfl rfl rfl rfl rfl rfl ⟨rfl, rfl, rfl, rfl, rfl⟩ rfl rfl rfl rfl rfl (by kernel_rfl) Tryz.func3 (by kernel_rfl)
  (of_decide_eq_true (by kernel_rfl)) (by unfold Func.isWrapper; first | (rw [if_pos (by decide +kernel)]; kernel_rfl) | (rw [if_neg (by decide +kernel)]; exact ⟨rfl, rfl⟩))
  (fun os started H enc _ F => by rw [OpenClaim.pre_eq_preRow]; exact lifted os started H enc F)
theorem plain (f : FuncId) (fn : Func) (hf : Tryz.pinned.checked.prog.funcNamed "darkroom/darkroomtop.AllPacked" = some f) (hfn : Tryz.pinned.checked.prog.funcs[f]? = some fn) :
  true = Tryz.pinned.checked.prog.looks [] /\ ∀ (j : Nat) t, fn.params[j]? = some t -> Tryz.pinned.checked.prog.wantsStandIn t = false := by
 obtain rfl : f = 3 := Option.some.inj ((show Tryz.prog.funcNamed "darkroom/darkroomtop.AllPacked" = some 3 by kernel_rfl).symm.trans hf) |>.symm;obtain rfl : fn = Tryz.f3 := (Option.some.inj (Tryz.func3.symm.trans hfn)).symm;refine ⟨by kernel_rfl, fun j t ht => ?_⟩;have h : Tryz.f3.params.all (fun t => !Tryz.prog.wantsStandIn t) = true := by kernel_rfl
 exact (by simpa using Array.all_eq_true_iff_forall_mem.1 h t (Array.mem_of_getElem? ht) : Tryz.prog.wantsStandIn t = false)
theorem proved : Rows.AllPackedUptoCardSaid :=
 Claim7.holds_tied_plain_at .later [] _ _ _ _ bare (fun _ h => by cases h) (by kernel_rfl) (fun _ h => by cases h) allPackedUpto_row_tie rfl ⟨rfl, rfl⟩ (by kernel_rfl) rfl plain (by kernel_rfl)
#print axioms proved
end Go.Proofs.YthpckmcgbmfmcaaGreatDoor.allPackedUpto
