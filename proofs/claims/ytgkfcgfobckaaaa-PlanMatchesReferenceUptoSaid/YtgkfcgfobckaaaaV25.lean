/-
  The twenty-fifth text of the program logic: the evaluator's rows as one set for the simplifier.
  Conditions: none; it speaks of every program.
-/
import Derived.Test.YtgkfcgfobckaaaaV24
namespace Go.Proofs.YtgkfcgfobckaaaaV
open Go

attribute [go_sem ↓] E_load F_load E_move F_move E_assign F_assign E_pick F_pick E_nilCheck F_nilCheck E_binOp F_binOp
attribute [go_sem ↓] E_unOp F_unOp E_convert F_convert E_makeInterface F_makeInterface E_makeFunc F_makeFunc E_slice F_slice E_fieldAddr F_fieldAddr
attribute [go_sem ↓] E_field F_field E_indexAddr F_indexAddr E_index F_index E_extract F_extract E_build F_build E_buildSlice F_buildSlice
attribute [go_sem ↓] E_len F_len E_cap F_cap E_min F_min E_max F_max gi_0 gi_1 gi_2 gi_3
attribute [go_sem ↓] gi_4 gi_5 gi_6 gi_7 gi_8 gi_9 gi_10 gi_11 gi_12 gi_13 gi_14 gi_15
attribute [go_sem ↓] gi_16 gi_17 gi_18 gi_19 gi_20 gi_21 gi_22 gi_23 gi_24 gi_25 gi_26 gi_27
attribute [go_sem ↓] gi_28 gi_29 gi_30 gi_31 gi_32 gi_33 gi_34 gi_35 gi_36 gi_37 gi_38 gi_39
attribute [go_sem ↓] gi_40 gi_41 gi_42 gi_43 gi_44 gi_45 gi_46 gi_47 gi_48 gi_49 gi_50 gi_51
attribute [go_sem ↓] gi_52 gi_53 gi_54 gi_55 gi_56 gi_57 gi_58 gi_59 gi_60 gi_61 gi_62 gi_63
attribute [go_sem ↓] gi_appc gi_appn gi_more E_append B_append E_alloc E_box E_store E_call F_call E_makeSlice E_copy
attribute [go_sem ↓] vwq_skip vwq_label vwq_seq vwq_block vwq_scope vwq_exit vwq_goto vwq_ret vwq_region vwq_regionT vwq_draw vwq_range
attribute [go_sem ↓] vwq_cond then_normal then_exit then_goto then_ret then_panic scoped_normal scoped_exit scoped_ret scoped_panic block_normal block_exit
attribute [go_sem ↓] block_goto block_ret block_panic fins_ret fins_normal evu_nil evr_nil evr_cons vguard_lit pkQ_none pkQ_normal pkQ_panic
attribute [go_sem] D_load H_load D_move H_move D_assign H_assign D_pick H_pick D_nilCheck H_nilCheck D_binOp H_binOp
attribute [go_sem] D_unOp H_unOp D_convert H_convert D_makeInterface H_makeInterface D_makeFunc H_makeFunc D_slice H_slice D_fieldAddr H_fieldAddr
attribute [go_sem] D_field H_field D_indexAddr H_indexAddr D_index H_index D_extract H_extract D_build H_build D_buildSlice H_buildSlice
attribute [go_sem] D_len H_len D_cap H_cap D_min H_min D_max H_max D_call D_alloc H_call D_append
attribute [go_sem] D_store upd_at bg_at blk_at upd_bg upd_nx upd_new pkS_nil pkS_cons anyS_at nrm_upd nrm_any
attribute [go_sem] newK_nil start_at rw_tmp rw_const rw_func ew_def ow_def aw_def wn_int wn_bool wn_str wn_sl
attribute [go_sem] wn_so wn_agg wn_tup wn_pb wn_pf wn_nilp wn_clo wn_nilfunc wn_iface wn_nilif wn_nilmap wn_any
attribute [go_sem] wn_when stripT_int stripT_bool stripT_str stripT_sl stripT_so stripT_agg stripT_tup stripT_pb stripT_pf stripT_nilp stripT_clo
attribute [go_sem] stripT_nilfunc stripT_iface stripT_nilif stripT_nilmap stripT_any stripT_true stripT_false const_int const_bool const_slice const_nilp const_nilfunc
attribute [go_sem] const_nilif const_nilmap const_agg const1_int const1_bool const1_slice const1_nilp hasL_nil hasL_cons strip_int strip_bool strip_str
attribute [go_sem] strip_sl strip_so strip_agg strip_tup strip_pb strip_pf strip_nilp strip_clo strip_nilfunc strip_iface strip_nilif strip_nilmap
attribute [go_sem] strip_when ok_int ok_bool ok_str ok_sl ok_so ok_agg ok_tup ok_pb ok_pf ok_nilp ok_clo
attribute [go_sem] ok_nilfunc ok_iface ok_nilif ok_nilmap ok_when Ko_some Ko_none Kd_some Kd_none wK_some wS_true wS_false
attribute [go_sem] gdO_some gdV_bool gdV_when rdAdd_nil appK appE srcOf_sl srcOf_str mkd_nil mkd_dec mK_true mK_false
attribute [go_sem] neL_nil neL_cons cut0_none cut0_live cut0_cons cut0_lo cut0_hi cut0_nil stK stD mkK cpK
attribute [go_sem] alK_some cd_true cd_false resD_one resD_nil resD_two resD_three resD_four vpick veqop litNil vconv
attribute [go_sem] vslice ibnd vfaddr vfield viaddr vindex vext vbuild vfill vlit vlen vcap
attribute [go_sem] vmm vnil vload vloadAt vsrc D.whole splice cells_int one_int solid_int er_int er1_int
attribute [go_sem] cells_bool one_bool solid_bool er_bool er1_bool cells_str one_str solid_str er_str er1_str cells_sl one_sl
attribute [go_sem] solid_sl er1_sl er_sl cells_so one_so solid_so er_so er1_so cells_agg one_agg solid_agg er_agg
attribute [go_sem] er1_agg cells_tup one_tup er1_tup cells_pb one_pb solid_pb er_pb er1_pb cells_pf one_pf solid_pf
attribute [go_sem] er_pf er1_pf cells_nilp one_nilp solid_nilp er_nilp er1_nilp cells_clo one_clo solid_clo er_clo er1_clo
attribute [go_sem] cells_nilfunc one_nilfunc solid_nilfunc er_nilfunc er1_nilfunc cells_iface one_iface solid_iface er_iface er1_iface cells_nilif one_nilif
attribute [go_sem] solid_nilif er_nilif er1_nilif cells_nilmap one_nilmap solid_nilmap er_nilmap er1_nilmap range_0 range_1 range_2 range_3
attribute [go_sem] range_4 range_5 range_6 range_7 range_8 range_9 range_10 range_11 range_12 range_13 range_14 range_15
attribute [go_sem] range_16 range_17 range_18 range_19 range_20 range_21 range_22 range_23 range_24 wrap_u8 wrap_u16 wrap_u32
attribute [go_sem] wrap_u64 wrap_i8 wrap_i16 wrap_i32 wrap_i64 isObj_int isObj_bool isObj_str isObj_sl isObj_so isObj_agg isObj_tup
attribute [go_sem] isObj_pb isObj_pf isObj_nilp isObj_clo isObj_nilfunc isObj_iface isObj_nilif isObj_nilmap or_dec and_dec not_dec cond_tt
attribute [go_sem] cond_ff cond_tf cond_ft beq_f beq_t imp_same dec_f dec_t vun_not vun_neg isObj_nil isObj_cons2
attribute [go_sem] set_at nil_at tup_er all_nil all_cons vs_eql vs_neq vs_lss vs_leq vs_gtr vs_geq vs_add
attribute [go_sem] sel_true sel_false sel_bool sel_int const_strl const1_strl fdiv_pow vb_add vb_sub vb_mul vb_quo vb_rem
attribute [go_sem] vb_and vb_or vb_xor vb_andNot vb_eql vb_neq vb_lss vb_leq vb_gtr vb_geq vb_shl vb_shr
attribute [go_sem] vb_str vb_agg vb_bool vb_nn vb_bn vb_fn vb_ii vb_in vb_cn vb_nc ival_int mem_self
attribute [go_sem] ne_cons mem_one mem_none gone_self gone_full tokOk_full tokOk_live List.getD_cons_zero List.getD_cons_succ List.getD_nil List.map_cons List.map_nil
attribute [go_sem] List.append_nil List.nil_append List.cons_append Option.map_some Option.map_none Option.toList_some Option.toList_none and_true and_self true_implies false_implies implies_true
attribute [go_sem] if_true if_false ite_true ite_false Bool.false_eq_true Bool.true_eq_false Bool.or_true Bool.or_false Bool.true_or Bool.false_or List.length_cons List.length_nil
attribute [go_sem] List.drop_zero List.drop_succ_cons List.take_zero List.take_succ_cons Bool.not_true Bool.not_false eq_self Int.toNat_natCast decide_true decide_false Bool.and_true Bool.true_and
attribute [go_sem] Bool.and_false Bool.false_and cond_true cond_false or_true true_or or_false false_or and_false false_and not_true_eq_false not_false_eq_true
attribute [go_sem] Nat.sub_zero Option.getD_some Int.cast_ofNat_Int true_and

end Go.Proofs.YtgkfcgfobckaaaaV
