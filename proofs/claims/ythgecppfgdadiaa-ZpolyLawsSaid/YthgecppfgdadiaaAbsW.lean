/-
  The equations of the walk, in bundles.
-/
import Derived.Test.YthgecppfgdadiaaAbsP
namespace Go.AL
set_option linter.defProp false

/-! ### The equations of the walk, in bundles -/

def wk0 := And.intro @AW_skip (And.intro @AW_region (And.intro @AW_drawn (And.intro @AW_seq (And.intro @AW_cond (And.intro @ACond_tt (And.intro @ACond_ff (And.intro @AW_block (And.intro @AW_loop (And.intro @AW_exit (And.intro @AW_scope (And.intro @AW_label (And.intro @AW_ret (And.intro @SeqC_normal (And.intro @SeqC_exit (And.intro @SeqC_ret (And.intro @SeqQ_normal (And.intro @SeqQ_exit (And.intro @SeqQ_ret (And.intro @BlockQ_normal (And.intro @BlockQ_exit (And.intro @BlockQ_ret (And.intro @ScopeQ_normal (And.intro @ScopeQ_exit (And.intro @ScopeQ_ret (And.intro @LoopQ_normal (And.intro @LoopQ_exit (And.intro @LoopQ_ret (And.intro @PlainQ_at (@OrdQ_at)))))))))))))))))))))))))))))

def wk1 := And.intro @RetC_ret (And.intro @RetC_normal (And.intro @AOps_nil (And.intro @AOps_move (And.intro @AOps_assign (And.intro @AOps_pick (And.intro @AOps_alloc (And.intro @AOps_box (And.intro @AOps_build (And.intro @AOps_buildSlice (And.intro @AOps_load (And.intro @AOps_store (And.intro @AOps_nilCheck (And.intro @AOps_binOp (And.intro @AOps_unOp (And.intro @AOps_convert (And.intro @AOps_makeSlice (And.intro @AOps_slice (And.intro @AOps_fieldAddr (And.intro @AOps_indexAddr (And.intro @AOps_extract (And.intro @AOps_builtin (And.intro @AOps_call (And.intro @AOps_guard (And.intro @AGuard_tt (And.intro @AGuard_ff (And.intro @AGuard_tf (And.intro @AGuard_ft (And.intro @AGuard_undef (@AStep_true)))))))))))))))))))))))))))))

def wk2 := And.intro @AStep_ok (And.intro @int_beq (And.intro @int_bne (And.intro @range_1 (And.intro @range_2 (And.intro @range_3 (And.intro @range_4 (And.intro @splice_one (And.intro @lims_set (And.intro @lims_app (And.intro @lims_snoc (And.intro @lims_take (And.intro @lims_drop (And.intro @lims_rep (And.intro @lims_rows (And.intro @lims_nil (And.intro @lay_int (And.intro @prow_len (And.intro @prow_drop0 (And.intro @prow_drop1 (And.intro @prow_get0 (And.intro @prow_get1 (And.intro @prow_take (And.intro @prow_zero (And.intro @prow_splice (And.intro @raws_len (And.intro @raws_at (And.intro @raws_set (And.intro @raws_snoc (@raws_app)))))))))))))))))))))))))))))

def wk3 := And.intro @raws_nil (And.intro @raws_rep (And.intro @raws_rows (And.intro @raws_take (And.intro @raws_drop (And.intro @canon_getD (And.intro @canon_set (And.intro @canon_snoc (And.intro @pv_len (And.intro @canon_snd (And.intro @canon_fst (And.intro @lims_len (And.intro @lims_at (And.intro @updo_some (And.intro @updo_none (And.intro @upd_at (And.intro @updH_at (And.intro @ev_tmp (And.intro @ev_const (And.intro @cst_int (And.intro @cst_bool (And.intro @cst_nil (And.intro @initF_at (And.intro @initH_at (And.intro @CV_av_iv (And.intro @CV_av_agg (And.intro @stamp_blk (And.intro @stamp_none (And.intro @frz_blk (@frz_none)))))))))))))))))))))))))))))

def wk4 := And.intro @cast_0 (And.intro @cast_1 (@wrap_i64))

end Go.AL
