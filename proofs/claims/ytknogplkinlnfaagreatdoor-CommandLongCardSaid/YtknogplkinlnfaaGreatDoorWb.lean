/- What CommandLong comes to: true, for every line and every number. -/
import Derived.Test.YtknogplkinlnfaaGreatDoorWa
import Derived.Test.YtknogplkinlnfaaGreatDoorSa
import Derived.Test.YtknogplkinlnfaaGreatDoorSb
set_option linter.unusedVariables false
set_option linter.unusedSimpArgs false
set_option linter.unusedSectionVars false
namespace Go.Shadow.T17
open Go Go.Shadow Go.Proofs
set_option maxRecDepth 100000
set_option maxHeartbeats 1000000
set_option linter.unusedSimpArgs false
set_option linter.unusedVariables false
theorem new_calls : Calls C 8 [] ⟨[], []⟩ (.agg [ranges, classes, lowers, .map 1, .map 2]) ⟨newH, newD⟩ := ⟨300, new_eq⟩

theorem calls_small : Calls C 6 [] ⟨[], []⟩ (.bool true) ⟨[], []⟩ := by
  refine calls_of f6 rfl ?_
  rw [show C.keep 6 = false from rfl]
  simp only [w_seq, w_region, w_cond, w_block, w_scope, w_skip, w_label, w_exit, w_goto, w_ret, wo_cons, wo_nil, wantedA, wantK_true, wantK_false, stK, step2, evO, evOs, evOo, evParts, get_cons, Env.get, Env.put, Option.map_some, someK_some, callK_some, callvK_some, vl_func, r_seq, r_seq_exit, r_seq_goto, r_seq_ret, r_block, r_block_exit, r_block_goto, r_block_ret, r_loop, r_loop_exit, r_loop_goto, r_loop_ret, r_scope, r_scope_exit, r_scope_ret, r_scope_goto, r_nil, condK_true, condK_false, gotoK_some, findLabelA, binA, intOp, strOp_eql, strOp_neq, unA, loadR, lenR, binR, pickR, List.zipIdx_cons, List.zipIdx_nil, List.map_cons, List.map_nil, Nat.reduceEqDiff, if_true, if_false, decide_true, decide_false, beq_self_eq_true, bool_tf, bool_ft, ge_iff_le, gt_iff_lt, and_self, and_true, true_and, Nat.zero_add, Nat.reduceAdd, List.cons_append, List.nil_append, List.append_nil, Nat.zero_ne_one, Nat.one_ne_zero, Nat.reduceBEq, Bool.not_true, Bool.not_false, Nat.succ_ne_zero, reduceCtorEq, get_live, listHas_nil, listHas_cons, loadA_iptr_one, loadA_iptr, lenA_str, lenA_nil, lenA_islice, lenA_mslice, append_one, fillA, replicateCells, putCells, AVal.storable, AVal.cells, List.length_cons, List.length_nil, Nat.reduceLeDiff, Nat.le_refl, Nat.reduceLT, Int.reduceLT, Int.reduceLE, Int.reduceEq, eq_self, newRowA, fold_bytes, Option.bind_eq_bind, Option.bind_some, Option.pure_def, List.getElem?_cons_zero, List.getElem?_cons_succ, St.new, St.setRow, List.append_assoc, List.length_append, row_off, row_off0, row_zero, row_succ, set_off, set_off0, get_off, get_off0, List.set_cons_zero, List.set_cons_succ, loadA_at_one, loadA_at, storeR_at, List.drop_zero, List.drop_succ_cons, List.take_zero, List.take_succ_cons, List.take_nil, List.drop_nil, Int.reduceBNe, Int.reduceBEq, bne_self_eq_false, Int.toNat_natCast, Nat.mul_one, bne_ft, bne_tf, bne_ff, bne_tt, b6, new_calls.cl, (s17_0 _).cl, (s17_1 _).cl, (s17_2 _).cl, (s17_3 _).cl, (s17_4 _).cl, (s17_5 _).cl, (s17_6 _).cl, (s17_7 _).cl, (s17_8 _).cl, (s17_9 _).cl, (s17_10 _).cl, (s17_11 _).cl, (s17_12 _).cl, (s17_13 _).cl, (s17_14 _).cl, (s17_15 _).cl, Bool.true_eq_false, eqs, eqB, Bool.bne_true, Bool.bne_false, bne_self_eq_false]
  exact ret_plain (st := ⟨[], []⟩) (vs := [.bool true]) rfl rfl ⟨by simp, by simp⟩ (by rfl)
end Go.Shadow.T17

namespace Go.Shadow.T17
open Go Go.Shadow Go.Proofs
set_option maxRecDepth 100000
set_option maxHeartbeats 1000000
set_option linter.unusedSimpArgs false
set_option linter.unusedVariables false
theorem zero_cells (m : Nat) : replicateCells m [.int .u8 0] = byteCells (List.replicate m 0) := by
  induction m with
  | zero => rfl
  | succ m ih =>
    simp only [replicateCells, ih, List.replicate_succ, byteCells, List.map_cons]
    rfl

theorem take_line (l : List UInt8) : ((78 : UInt8) :: 79 :: 79 :: 80 :: 32 :: l).take 4 = [78, 79, 79, 80] := rfl

theorem verb_noop (l : List UInt8) : verbOf (78 :: 79 :: 79 :: 80 :: 32 :: l) = 6 := by
  have hlen : Nat.ble 4 ((78 : UInt8) :: 79 :: 79 :: 80 :: 32 :: l).length = true := ble_of (by simp)
  simp only [verbOf, wl, verbFrom, vOk, aheadL, List.length_cons, List.length_nil, Nat.zero_add, Nat.reduceAdd] at hlen ⊢
  simp only [hlen, Bool.true_and, take_line, ahead, List.drop_succ_cons, List.drop_zero, List.take_succ_cons, List.take_zero, List.length_cons, List.length_nil]
  rfl

theorem verb_x (l : List UInt8) : verbOf (88 :: l) = -1 := by
  have h : ∀ (c : UInt8) (w : List UInt8), lower c ≠ 120 → aheadL (88 :: l) (c :: w) = false := by
    intro c w hc
    simp only [aheadL, List.length_cons, List.take_succ_cons, List.map_cons]
    have : (lower 88 :: (l.take w.length).map lower == lower c :: w.map lower) = false := by
      refine beq_eq_false_iff_ne.2 fun e => hc ?_
      have := (List.cons.inj e).1
      rw [← this]
      rfl
    rw [this, Bool.and_false]
  simp only [verbOf, wl, verbFrom, vOk, h _ _ (show lower 69 ≠ 120 by decide), h _ _ (show lower 72 ≠ 120 by decide), h _ _ (show lower 77 ≠ 120 by decide), h _ _ (show lower 82 ≠ 120 by decide), h _ _ (show lower 68 ≠ 120 by decide), h _ _ (show lower 78 ≠ 120 by decide), h _ _ (show lower 81 ≠ 120 by decide), Bool.false_and, Bool.false_eq_true, if_false]

theorem calls_CommandLong_head (s : List UInt8) (n : Int) (h : 300 < s.length ∨ n < 0 ∨ 600 < n) : Calls C 5 [.str s, .int .i64 n] ⟨[], []⟩ (.bool true) ⟨[], []⟩ := by
  refine calls_of f5 rfl ?_
  rw [show C.keep 5 = false from rfl]
  by_cases h1 : 300 < (s.length : Int)
  · simp only [w_seq, w_region, w_cond, w_block, w_scope, w_skip, w_label, w_exit, w_goto, w_ret, wo_cons, wo_nil, wantedA, wantK_true, wantK_false, stK, step2, evO, evOs, evOo, evParts, get_cons, Env.get, Env.put, Option.map_some, someK_some, callK_some, callvK_some, vl_func, r_seq, r_seq_exit, r_seq_goto, r_seq_ret, r_block, r_block_exit, r_block_goto, r_block_ret, r_loop, r_loop_exit, r_loop_goto, r_loop_ret, r_scope, r_scope_exit, r_scope_ret, r_scope_goto, r_nil, condK_true, condK_false, gotoK_some, findLabelA, binA, intOp, strOp_eql, strOp_neq, unA, loadR, lenR, binR, pickR, List.zipIdx_cons, List.zipIdx_nil, List.map_cons, List.map_nil, Nat.reduceEqDiff, if_true, if_false, decide_true, decide_false, beq_self_eq_true, bool_tf, bool_ft, ge_iff_le, gt_iff_lt, and_self, and_true, true_and, Nat.zero_add, Nat.reduceAdd, List.cons_append, List.nil_append, List.append_nil, Nat.zero_ne_one, Nat.one_ne_zero, Nat.reduceBEq, Bool.not_true, Bool.not_false, Nat.succ_ne_zero, reduceCtorEq, get_live, listHas_nil, listHas_cons, loadA_iptr_one, loadA_iptr, lenA_str, lenA_nil, lenA_islice, lenA_mslice, append_one, fillA, replicateCells, putCells, AVal.storable, AVal.cells, List.length_cons, List.length_nil, Nat.reduceLeDiff, Nat.le_refl, Nat.reduceLT, Int.reduceLT, Int.reduceLE, Int.reduceEq, eq_self, newRowA, fold_bytes, Option.bind_eq_bind, Option.bind_some, Option.pure_def, List.getElem?_cons_zero, List.getElem?_cons_succ, St.new, St.setRow, List.append_assoc, List.length_append, row_off, row_off0, row_zero, row_succ, set_off, set_off0, get_off, get_off0, List.set_cons_zero, List.set_cons_succ, loadA_at_one, loadA_at, storeR_at, List.drop_zero, List.drop_succ_cons, List.take_zero, List.take_succ_cons, List.take_nil, List.drop_nil, Int.reduceBNe, Int.reduceBEq, bne_self_eq_false, Int.toNat_natCast, Nat.mul_one, bne_ft, bne_tf, bne_ff, bne_tt, b5, calls_small.cl, h1]
    exact ret_plain (st := ⟨[], []⟩) (vs := [.bool true]) rfl rfl ⟨by simp, by simp⟩ (by rfl)
  · by_cases h2 : n < 0
    · simp only [w_seq, w_region, w_cond, w_block, w_scope, w_skip, w_label, w_exit, w_goto, w_ret, wo_cons, wo_nil, wantedA, wantK_true, wantK_false, stK, step2, evO, evOs, evOo, evParts, get_cons, Env.get, Env.put, Option.map_some, someK_some, callK_some, callvK_some, vl_func, r_seq, r_seq_exit, r_seq_goto, r_seq_ret, r_block, r_block_exit, r_block_goto, r_block_ret, r_loop, r_loop_exit, r_loop_goto, r_loop_ret, r_scope, r_scope_exit, r_scope_ret, r_scope_goto, r_nil, condK_true, condK_false, gotoK_some, findLabelA, binA, intOp, strOp_eql, strOp_neq, unA, loadR, lenR, binR, pickR, List.zipIdx_cons, List.zipIdx_nil, List.map_cons, List.map_nil, Nat.reduceEqDiff, if_true, if_false, decide_true, decide_false, beq_self_eq_true, bool_tf, bool_ft, ge_iff_le, gt_iff_lt, and_self, and_true, true_and, Nat.zero_add, Nat.reduceAdd, List.cons_append, List.nil_append, List.append_nil, Nat.zero_ne_one, Nat.one_ne_zero, Nat.reduceBEq, Bool.not_true, Bool.not_false, Nat.succ_ne_zero, reduceCtorEq, get_live, listHas_nil, listHas_cons, loadA_iptr_one, loadA_iptr, lenA_str, lenA_nil, lenA_islice, lenA_mslice, append_one, fillA, replicateCells, putCells, AVal.storable, AVal.cells, List.length_cons, List.length_nil, Nat.reduceLeDiff, Nat.le_refl, Nat.reduceLT, Int.reduceLT, Int.reduceLE, Int.reduceEq, eq_self, newRowA, fold_bytes, Option.bind_eq_bind, Option.bind_some, Option.pure_def, List.getElem?_cons_zero, List.getElem?_cons_succ, St.new, St.setRow, List.append_assoc, List.length_append, row_off, row_off0, row_zero, row_succ, set_off, set_off0, get_off, get_off0, List.set_cons_zero, List.set_cons_succ, loadA_at_one, loadA_at, storeR_at, List.drop_zero, List.drop_succ_cons, List.take_zero, List.take_succ_cons, List.take_nil, List.drop_nil, Int.reduceBNe, Int.reduceBEq, bne_self_eq_false, Int.toNat_natCast, Nat.mul_one, bne_ft, bne_tf, bne_ff, bne_tt, b5, calls_small.cl, h1, h2]
      exact ret_plain (st := ⟨[], []⟩) (vs := [.bool true]) rfl rfl ⟨by simp, by simp⟩ (by rfl)
    · have h3 : 600 < n := by omega
      simp only [w_seq, w_region, w_cond, w_block, w_scope, w_skip, w_label, w_exit, w_goto, w_ret, wo_cons, wo_nil, wantedA, wantK_true, wantK_false, stK, step2, evO, evOs, evOo, evParts, get_cons, Env.get, Env.put, Option.map_some, someK_some, callK_some, callvK_some, vl_func, r_seq, r_seq_exit, r_seq_goto, r_seq_ret, r_block, r_block_exit, r_block_goto, r_block_ret, r_loop, r_loop_exit, r_loop_goto, r_loop_ret, r_scope, r_scope_exit, r_scope_ret, r_scope_goto, r_nil, condK_true, condK_false, gotoK_some, findLabelA, binA, intOp, strOp_eql, strOp_neq, unA, loadR, lenR, binR, pickR, List.zipIdx_cons, List.zipIdx_nil, List.map_cons, List.map_nil, Nat.reduceEqDiff, if_true, if_false, decide_true, decide_false, beq_self_eq_true, bool_tf, bool_ft, ge_iff_le, gt_iff_lt, and_self, and_true, true_and, Nat.zero_add, Nat.reduceAdd, List.cons_append, List.nil_append, List.append_nil, Nat.zero_ne_one, Nat.one_ne_zero, Nat.reduceBEq, Bool.not_true, Bool.not_false, Nat.succ_ne_zero, reduceCtorEq, get_live, listHas_nil, listHas_cons, loadA_iptr_one, loadA_iptr, lenA_str, lenA_nil, lenA_islice, lenA_mslice, append_one, fillA, replicateCells, putCells, AVal.storable, AVal.cells, List.length_cons, List.length_nil, Nat.reduceLeDiff, Nat.le_refl, Nat.reduceLT, Int.reduceLT, Int.reduceLE, Int.reduceEq, eq_self, newRowA, fold_bytes, Option.bind_eq_bind, Option.bind_some, Option.pure_def, List.getElem?_cons_zero, List.getElem?_cons_succ, St.new, St.setRow, List.append_assoc, List.length_append, row_off, row_off0, row_zero, row_succ, set_off, set_off0, get_off, get_off0, List.set_cons_zero, List.set_cons_succ, loadA_at_one, loadA_at, storeR_at, List.drop_zero, List.drop_succ_cons, List.take_zero, List.take_succ_cons, List.take_nil, List.drop_nil, Int.reduceBNe, Int.reduceBEq, bne_self_eq_false, Int.toNat_natCast, Nat.mul_one, bne_ft, bne_tf, bne_ff, bne_tt, b5, calls_small.cl, h1, h2, h3]
      exact ret_plain (st := ⟨[], []⟩) (vs := [.bool true]) rfl rfl ⟨by simp, by simp⟩ (by rfl)

theorem zero_row (h : List ABlk) (o : ABlk) (m : Nat) : sliceCells (h ++ [o, .row m (replicateCells m [.int .u8 0])]) 1 (.mslice (h.length + 1) m 0 m 1 m true) = some (byteCells (List.replicate m 0)) := by
  simp only [sliceCells, row_off, row_succ, row_zero]
  rw [if_pos ⟨trivial, by omega⟩, zero_cells, List.drop_zero, List.take_of_length_le (by simp [byteCells])]

theorem calls_CommandLong_tail (s : List UInt8) (m : Nat) (h1 : s.length ≤ 300) (h2 : m ≤ 600) : ∃ st', Calls C 5 [.str s, .int .i64 m] ⟨[], []⟩ (.bool true) st' := by
  have g1 : ¬ 300 < (s.length : Int) := by omega
  have g2 : ¬ (m : Int) < 0 := by omega
  have g3 : ¬ 600 < (m : Int) := by omega
  have g4 : (0 : Int) ≤ m := by omega
  have g5 : (m : Int) ≤ 9223372036854775807 := by omega
  have g6 : m ≤ roomB := by unfold roomB; omega
  have hz := fun st => bytesR_of (st := st) (x := .mslice (newH.length + 1) m 0 m 1 m true) (s := List.replicate m 0)
  obtain ⟨Z, hZ⟩ : ∃ Z : List UInt8, Z = List.replicate m 0 := ⟨_, rfl⟩
  have hzl : Z.length = m := by rw [hZ, List.length_replicate]
  obtain ⟨X, hX⟩ : ∃ X : List UInt8, X = 78 :: 79 :: 79 :: 80 :: 32 :: (Z ++ s) := ⟨_, rfl⟩
  have hxl : X.length = m + s.length + 5 := by rw [hX]; simp [hzl]
  obtain ⟨Y, hY⟩ : ∃ Y : List UInt8, Y = 88 :: s := ⟨_, rfl⟩
  have hyl : Y.length = s.length + 1 := by rw [hY]; simp
  have c1 : strOp .add [78, 79, 79, 80, 32] Z = some (.str (78 :: 79 :: 79 :: 80 :: 32 :: Z)) := strOp_add (by unfold roomB; simp; omega)
  have c2 : strOp .add (78 :: 79 :: 79 :: 80 :: 32 :: Z) s = some (.str X) := by rw [hX]; exact strOp_add (by unfold roomB; simp; omega)
  have c3 : strOp .add [88] s = some (.str Y) := by rw [hY]; exact strOp_add (by unfold roomB; simp; omega)
  have hb := bytesR_of (st := ⟨newH ++ [.row 5 [ranges, classes, lowers, .map 1, .map 2], .row m (replicateCells m [.int .u8 0])], newH.length :: newD⟩) (zero_row newH _ m)
  rw [← hZ] at hb
  have vX : verbOf X = 6 := by rw [hX]; exact verb_noop _
  have vY : verbOf Y < 0 := by rw [hY, verb_x]; decide
  have rX : X.length ≤ roomB := by unfold roomB; omega
  have rY : Y.length ≤ roomB := by unfold roomB; omega
  by_cases h510 : 510 < X.length
  · have k1 : 510 < (X.length : Int) := by omega
    have k2 : ¬ (X.length : Int) ≤ 510 := by omega
    refine ⟨⟨[], []⟩, calls_of f5 rfl ?_⟩
    rw [show C.keep 5 = false from rfl]
    simp only [w_seq, w_region, w_cond, w_block, w_scope, w_skip, w_label, w_exit, w_goto, w_ret, wo_cons, wo_nil, wantedA, wantK_true, wantK_false, stK, step2, evO, evOs, evOo, evParts, get_cons, Env.get, Env.put, Option.map_some, someK_some, callK_some, callvK_some, vl_func, r_seq, r_seq_exit, r_seq_goto, r_seq_ret, r_block, r_block_exit, r_block_goto, r_block_ret, r_loop, r_loop_exit, r_loop_goto, r_loop_ret, r_scope, r_scope_exit, r_scope_ret, r_scope_goto, r_nil, condK_true, condK_false, gotoK_some, findLabelA, binA, intOp, strOp_eql, strOp_neq, unA, loadR, lenR, binR, pickR, List.zipIdx_cons, List.zipIdx_nil, List.map_cons, List.map_nil, Nat.reduceEqDiff, if_true, if_false, decide_true, decide_false, beq_self_eq_true, bool_tf, bool_ft, ge_iff_le, gt_iff_lt, and_self, and_true, true_and, Nat.zero_add, Nat.reduceAdd, List.cons_append, List.nil_append, List.append_nil, Nat.zero_ne_one, Nat.one_ne_zero, Nat.reduceBEq, Bool.not_true, Bool.not_false, Nat.succ_ne_zero, reduceCtorEq, get_live, listHas_nil, listHas_cons, loadA_iptr_one, loadA_iptr, lenA_str, lenA_nil, lenA_islice, lenA_mslice, append_one, fillA, replicateCells, putCells, AVal.storable, AVal.cells, List.length_cons, List.length_nil, Nat.reduceLeDiff, Nat.le_refl, Nat.reduceLT, Int.reduceLT, Int.reduceLE, Int.reduceEq, eq_self, newRowA, fold_bytes, Option.bind_eq_bind, Option.bind_some, Option.pure_def, List.getElem?_cons_zero, List.getElem?_cons_succ, St.new, St.setRow, List.append_assoc, List.length_append, row_off, row_off0, row_zero, row_succ, set_off, set_off0, get_off, get_off0, List.set_cons_zero, List.set_cons_succ, loadA_at_one, loadA_at, storeR_at, List.drop_zero, List.drop_succ_cons, List.take_zero, List.take_succ_cons, List.take_nil, List.drop_nil, Int.reduceBNe, Int.reduceBEq, bne_self_eq_false, Int.toNat_natCast, Nat.mul_one, bne_ft, bne_tf, bne_ff, bne_tt, b5, calls_small.cl, new_calls.cl, g1, g2, g3, g4, g5, g6, Bool.true_eq_false, Int.le_refl, hb, c1, c2, c3, (calls_Parse_bad _ _ _ _ _ X rX _ (.inl h510)).cl, (calls_Parse_bad _ _ _ _ _ Y rY _ (.inr vY)).cl, k1, k2, cmdV, eqE, Bool.bne_false]
    exact ret_plain (st := ⟨[], []⟩) (vs := [.bool true]) rfl rfl ⟨by simp, by simp⟩ (by rfl)
  · have k1 : ¬ 510 < (X.length : Int) := by omega
    have k2 : (X.length : Int) ≤ 510 := by omega
    refine ⟨⟨[], []⟩, calls_of f5 rfl ?_⟩
    rw [show C.keep 5 = false from rfl]
    simp only [w_seq, w_region, w_cond, w_block, w_scope, w_skip, w_label, w_exit, w_goto, w_ret, wo_cons, wo_nil, wantedA, wantK_true, wantK_false, stK, step2, evO, evOs, evOo, evParts, get_cons, Env.get, Env.put, Option.map_some, someK_some, callK_some, callvK_some, vl_func, r_seq, r_seq_exit, r_seq_goto, r_seq_ret, r_block, r_block_exit, r_block_goto, r_block_ret, r_loop, r_loop_exit, r_loop_goto, r_loop_ret, r_scope, r_scope_exit, r_scope_ret, r_scope_goto, r_nil, condK_true, condK_false, gotoK_some, findLabelA, binA, intOp, strOp_eql, strOp_neq, unA, loadR, lenR, binR, pickR, List.zipIdx_cons, List.zipIdx_nil, List.map_cons, List.map_nil, Nat.reduceEqDiff, if_true, if_false, decide_true, decide_false, beq_self_eq_true, bool_tf, bool_ft, ge_iff_le, gt_iff_lt, and_self, and_true, true_and, Nat.zero_add, Nat.reduceAdd, List.cons_append, List.nil_append, List.append_nil, Nat.zero_ne_one, Nat.one_ne_zero, Nat.reduceBEq, Bool.not_true, Bool.not_false, Nat.succ_ne_zero, reduceCtorEq, get_live, listHas_nil, listHas_cons, loadA_iptr_one, loadA_iptr, lenA_str, lenA_nil, lenA_islice, lenA_mslice, append_one, fillA, replicateCells, putCells, AVal.storable, AVal.cells, List.length_cons, List.length_nil, Nat.reduceLeDiff, Nat.le_refl, Nat.reduceLT, Int.reduceLT, Int.reduceLE, Int.reduceEq, eq_self, newRowA, fold_bytes, Option.bind_eq_bind, Option.bind_some, Option.pure_def, List.getElem?_cons_zero, List.getElem?_cons_succ, St.new, St.setRow, List.append_assoc, List.length_append, row_off, row_off0, row_zero, row_succ, set_off, set_off0, get_off, get_off0, List.set_cons_zero, List.set_cons_succ, loadA_at_one, loadA_at, storeR_at, List.drop_zero, List.drop_succ_cons, List.take_zero, List.take_succ_cons, List.take_nil, List.drop_nil, Int.reduceBNe, Int.reduceBEq, bne_self_eq_false, Int.toNat_natCast, Nat.mul_one, bne_ft, bne_tf, bne_ff, bne_tt, b5, calls_small.cl, new_calls.cl, g1, g2, g3, g4, g5, g6, Bool.true_eq_false, Int.le_refl, hb, c1, c2, c3, (calls_Parse_noop _ _ _ _ _ X (by omega) (by omega) _ vX).cl, (calls_Parse_bad _ _ _ _ _ Y rY _ (.inr vY)).cl, k1, k2, cmdV, eqE, Bool.bne_false]
    exact ret_plain (st := ⟨[], []⟩) (vs := [.bool true]) rfl rfl ⟨by simp, by simp⟩ (by rfl)
end Go.Shadow.T17
