/- A framework of the hand for programs over the model: abstract values, an interpreter, that it is sound. Own work. -/
import Derived.Lib.LaidTab
import Derived.Test.YtfdipcpmfoidoaaDoorCAw5
/- All equations that an evaluation uses, in one bundle. Own work. -/
namespace Go.Aw
open Go
set_option maxRecDepth 100000
theorem ivc : type_of% @ivb /\ type_of% @telb /\ type_of% @row_telE /\ type_of% @row_tel0 /\ type_of% @orN.eq_1 /\ type_of% @stCall_fn /\ type_of% @stNo.eq_1 /\ type_of% @stNo.eq_2 /\ type_of% @noV.eq_1 /\ type_of% @noA.eq_1 /\ type_of% @noA.eq_2 /\ type_of% @vcopy.eq_1 /\ type_of% @vcopy.eq_2 /\ type_of% @isCp.eq_1 /\ type_of% @isCp.eq_2 /\ type_of% @isCp.eq_3 /\ type_of% @isCp.eq_4 /\ type_of% @avOf.eq_1 /\ type_of% @xF_P /\ type_of% @xF_G /\ type_of% @xF_S /\ type_of% @xF_A /\ type_of% @xF_f /\ type_of% @xF_ps /\ type_of% @xF_cx /\ type_of% @xF_ret /\ type_of% @xF_normal /\ type_of% @xF_exit /\ type_of% @xL_P /\ type_of% @xL_G /\ type_of% @xL_S /\ type_of% @xL_A /\ type_of% @xL_f /\ type_of% @xL_ps /\ type_of% @xL_cx /\ type_of% @xL_ret /\ type_of% @xL_normal /\ type_of% @xL_exit /\ type_of% @canR_some /\ type_of% @cxE_P /\ type_of% @cxE_G /\ type_of% @cxE_n /\ type_of% @frzM.eq_1 /\ type_of% @frzM.eq_2 /\ type_of% @frzM.frzO.eq_1 /\ type_of% @frzM.frzO.eq_2 /\ type_of% @frzM.frzP.eq_1 /\ type_of% @frzM.frzP.eq_2 /\ type_of% @frzW.eq_1 /\ type_of% @frzW.eq_2 /\ type_of% @frzW.eq_3 /\ type_of% @rowsN.eq_1 /\ type_of% @rowsN.eq_2 /\ type_of% @kidsN.eq_1 /\ type_of% @kidsN.eq_2 /\ type_of% @frzL.eq_1 /\ type_of% @frzL.eq_2 /\ type_of% @frzL.frzO.eq_1 /\ type_of% @frzL.frzO.eq_2 /\ type_of% @frzL.frzP.eq_1 /\ type_of% @frzL.frzP.eq_2 /\ type_of% @frzA.eq_1 /\ type_of% @frzH.eq_1 /\ type_of% @fixV.fixG.eq_1 /\ type_of% @fixV.fixQ.eq_1 /\ type_of% @fixV.fixQ.eq_2 /\ type_of% @fixV.fixR.eq_1 /\ type_of% @fixA.eq_1 /\ type_of% @fixA.eq_2 /\ type_of% @fixA.fixS.eq_1 /\ type_of% @fixA.fixI.eq_1 /\ type_of% @fixV.fixU.eq_1 /\ type_of% @fixV.fixU.eq_2 /\ type_of% @fixV.fixT.eq_1 /\ type_of% @ltPs.eq_1 /\ type_of% @ltPs.eq_2 /\ type_of% @nmS.eq_1 /\ type_of% @nmS.eq_2 /\ type_of% @obsOf.eq_1 /\ type_of% @obsOf.eq_2 /\ type_of% @obs0.eq_1 /\ type_of% @obs0.eq_2 /\ type_of% @reach.eq_1 /\ type_of% @reach.eq_2 /\ type_of% @reach.eq_3 /\ type_of% @nums.eq_1 /\ type_of% @nums.eq_2 /\ type_of% @swp.eq_1 /\ type_of% @swp.eq_2 /\ type_of% @tau.eq_1 /\ type_of% @tau.eq_2 /\ type_of% @frN.eq_1 /\ type_of% @frN.eq_2 /\ type_of% @surv.eq_1 /\ type_of% @freE.eq_1 /\ type_of% @freE.eq_2 /\ type_of% @mkHO.eq_1 /\ type_of% @dom.eq_1 /\ type_of% @stayA.eq_1 /\ type_of% @stay.eq_1 /\ type_of% @stay.eq_2 /\ type_of% @isArg.eq_1 /\ type_of% @isArg.eq_2 /\ type_of% @inOk.eq_1 /\ type_of% @psL.eq_1 /\ type_of% @psL.eq_2 /\ type_of% @modeF.eq_1 /\ type_of% @modeL.eq_1 /\ type_of% @resAs.eq_1 /\ type_of% @resAs.eq_2 /\ type_of% @resA.eq_1 /\ type_of% @resA.eq_2 /\ type_of% @pinsC.eq_1 /\ type_of% @pinsC.eq_2 /\ type_of% @HO.lost.eq_1 /\ type_of% @HO.bad.eq_1 /\ type_of% @HO.badG.eq_1 /\ type_of% @HO.badT.eq_1 /\ type_of% @dropAll.eq_1 /\ type_of% @dropAll.eq_2 /\ type_of% @hp_cons /\ type_of% @hp_nil /\ type_of% @newH_app /\ type_of% @rls_nil /\ type_of% @rls_cons /\ type_of% @ob_rl /\ type_of% @immB_eq /\ type_of% @ren.eq_1 /\ type_of% @ren.eq_2 /\ type_of% @ren.eq_3 /\ type_of% @ren.eq_4 /\ type_of% @ren.eq_5 /\ type_of% @ren.eq_6 /\ type_of% @ren.eq_7 /\ type_of% @ren.eq_8 /\ type_of% @ren.eq_9 /\ type_of% @ren.eq_10 /\ type_of% @ren.eq_11 /\ type_of% @ren.eq_12 /\ type_of% @ren.eq_13 /\ type_of% @ren.eq_14 /\ type_of% @ren.eq_15 /\ type_of% @ren.eq_16 /\ type_of% @ren.eq_17 /\ type_of% @ren.eq_18 /\ type_of% @ren.rens.eq_1 /\ type_of% @ren.rens.eq_2 /\ type_of% @renOb.eq_1 /\ type_of% @sub.eq_1 /\ type_of% @sub.eq_2 /\ type_of% @sub.eq_3 /\ type_of% @sub.eq_4 /\ type_of% @sub.eq_5 /\ type_of% @sub.eq_6 /\ type_of% @sub.eq_7 /\ type_of% @sub.eq_8 /\ type_of% @sub.eq_9 /\ type_of% @sub.eq_10 /\ type_of% @sub.eq_11 /\ type_of% @sub.eq_12 /\ type_of% @sub.eq_13 /\ type_of% @sub.eq_14 /\ type_of% @sub.eq_15 /\ type_of% @sub.eq_16 /\ type_of% @sub.eq_17 /\ type_of% @sub.eq_18 /\ type_of% @sub.subs.eq_1 /\ type_of% @sub.subs.eq_2 /\ type_of% @subOb.eq_1 /\ type_of% @kill.eq_1 /\ type_of% @argsH.eq_1 /\ type_of% @args0.eq_1 /\ type_of% @closedL.eq_1 /\ type_of% @Ob.refs.eq_1 /\ type_of% @wrapg.eq_1 /\ type_of% @wrapg.eq_2 /\ type_of% @opnds.eq_1 /\ type_of% @opnds.eq_2 /\ type_of% @opnds.eq_3 /\ type_of% @opnds.eq_4 /\ type_of% @opnds.eq_5 /\ type_of% @opnds.eq_6 /\ type_of% @opnds.eq_7 /\ type_of% @opnds.eq_8 /\ type_of% @opnds.eq_9 /\ type_of% @opnds.eq_10 /\ type_of% @opnds.eq_11 /\ type_of% @opnds.eq_12 /\ type_of% @opnds.eq_13 /\ type_of% @opnds.eq_14 /\ type_of% @opnds.eq_15 /\ type_of% @opnds.eq_16 /\ type_of% @opnds.eq_17 /\ type_of% @opnds.eq_18 /\ type_of% @opnds.eq_19 /\ type_of% @opnds.eq_20 /\ type_of% @opnds.eq_21 /\ type_of% @opnds.eq_22 /\ type_of% @opnds.eq_23 /\ type_of% @opnds.eq_24 /\ type_of% @outside.eq_1 /\ type_of% @headOut.eq_1 /\ type_of% @frL.eq_1 /\ type_of% @aev.eq_1 /\ type_of% @aev.eq_2 /\ type_of% @aev.eq_3 /\ type_of% @aev.eq_4 /\ type_of% @allB.eq_1 /\ type_of% @allB.eq_2 /\ type_of% @binv.eq_1 /\ type_of% @binv.eq_2 /\ type_of% @binv.eq_3 /\ type_of% @binv.eq_4 /\ type_of% @binv.eq_5 /\ type_of% @binv.eq_6 /\ type_of% @binv.eq_7 /\ type_of% @binv.eq_8 /\ type_of% @binv.eq_9 /\ type_of% @binv.eq_10 /\ type_of% @binv.eq_11 /\ type_of% @binv.eq_12 /\ type_of% @binv.eq_13 /\ type_of% @binv.eq_14 /\ type_of% @binv.eq_15 /\ type_of% @binv.eq_16 /\ type_of% @binv.eq_17 /\ type_of% @binv.eq_18 /\ type_of% @binv.eq_19 /\ type_of% @binv.eq_20 /\ type_of% @binv.eq_21 /\ type_of% @binv.eq_22 /\ type_of% @binv.eq_23 /\ type_of% @binv.eq_24 /\ type_of% @binv.eq_25 /\ type_of% @binv.eq_26 /\ type_of% @binv.eq_27 /\ type_of% @binv.eq_28 /\ type_of% @binv.eq_29 /\ type_of% @binv.eq_30 /\ type_of% @binv.eq_31 /\ type_of% @binv.eq_32 /\ type_of% @binv.eq_33 /\ type_of% @binv.eq_34 /\ type_of% @binv.eq_35 /\ type_of% @binv.eq_36 /\ type_of% @binv.eq_37 /\ type_of% @binv.eq_38 /\ type_of% @binv.eq_39 /\ type_of% @binv.eq_40 /\ type_of% @binv.eq_41 /\ type_of% @binv.eq_42 /\ type_of% @binv.eq_43 /\ type_of% @binv.eq_44 /\ type_of% @binv.eq_45 /\ type_of% @binv.eq_46 /\ type_of% @binv.eq_47 /\ type_of% @binv.eq_48 /\ type_of% @binv.eq_49 /\ type_of% @binv.eq_50 /\ type_of% @binv.eq_51 /\ type_of% @binv.eq_52 /\ type_of% @binA.eq_1 /\ type_of% @binA.eq_2 /\ type_of% @binA.eq_3 /\ type_of% @binA.eq_4 /\ type_of% @eqL.eq_1 /\ type_of% @eqL.eq_2 /\ type_of% @eqL.eq_3 /\ type_of% @eqL.eq_4 /\ type_of% @eqL.eq_5 /\ type_of% @eqAnd.eq_1 /\ type_of% @eqAnd.eq_2 /\ type_of% @vload.eq_1 /\ type_of% @cut.eq_1 /\ type_of% @cut.eq_2 /\ type_of% @fits.eq_1 /\ type_of% @fits.eq_2 /\ type_of% @vindexAddr.eq_1 /\ type_of% @vindexAddr.eq_2 /\ type_of% @vindex.eq_1 /\ type_of% @vindex.eq_2 /\ type_of% @vindex.eq_3 /\ type_of% @vindex.eq_4 /\ type_of% @bnd.eq_1 /\ type_of% @bnd.eq_2 /\ type_of% @vmin.eq_1 /\ type_of% @vmin.eq_2 /\ type_of% @vmin.eq_3 /\ type_of% @sstore.eq_1 /\ type_of% @sstore.eq_2 /\ type_of% @vstore.eq_1 /\ type_of% @vstore.eq_2 /\ type_of% @stcells.eq_1 /\ type_of% @putl.eq_1 /\ type_of% @putl.eq_2 /\ type_of% @put1.eq_1 /\ type_of% @put1.eq_2 /\ type_of% @aop.eq_1 /\ type_of% @aop.eq_2 /\ type_of% @aop.eq_3 /\ type_of% @aop.eq_4 /\ type_of% @aop.eq_5 /\ type_of% @fillE.eq_1 /\ type_of% @fillE.eq_2 /\ type_of% @vbuild.eq_1 /\ type_of% @fillS.eq_1 /\ type_of% @fillS.eq_2 /\ type_of% @setl.eq_1 /\ type_of% @setl.eq_2 /\ type_of% @spick.eq_1 /\ type_of% @vappend.eq_1 /\ type_of% @srcE.eq_1 /\ type_of% @srcE.eq_2 /\ type_of% @srcE.eq_3 /\ type_of% @srcE.eq_4 /\ type_of% @srcE.eq_5 /\ type_of% @srcE.eq_6 /\ type_of% @badOf.eq_1 /\ type_of% @badOf.eq_2 /\ type_of% @orcGet.eq_1 /\ type_of% @orcGet.eq_2 /\ type_of% @List.zip_cons_cons.{0,0} /\ type_of% @List.zip_nil_left.{0,0} /\ type_of% @List.isEmpty_nil.{0} /\ type_of% @List.isEmpty_cons.{0} /\ type_of% @List.reverse_cons.{0} /\ type_of% @List.reverse_nil.{0} /\ type_of% @List.append_assoc.{0} /\ type_of% @List.filter_cons.{0} /\ type_of% @List.filter_nil.{0} /\ type_of% @Option.getD_some.{0} /\ type_of% @Option.getD_none.{0} /\ type_of% @Option.isSome_some.{0} /\ type_of% @Option.isSome_none.{0} /\ type_of% @bne_self_eq_false.{0} /\ type_of% @gt_iff_lt.{0} /\ type_of% @ge_iff_le.{0} /\ type_of% @Int.natCast_add /\ type_of% @Int.cast_ofNat_Int /\ type_of% @List.append_eq.{0} /\ type_of% @beq_self_eq_true.{0} /\ type_of% @AV.flat.flats.eq_1 /\ type_of% @AV.flat.flats.eq_2 /\ type_of% @ldQ_some /\ type_of% @ldQ_g /\ type_of% @flatO_some /\ type_of% @apQ_some /\ type_of% @apQ_g /\ type_of% @apQ_none /\ type_of% @apL_cons /\ type_of% @apV_sl /\ type_of% @apV_nil /\ type_of% @flatV.eq_1 /\ type_of% @flatV.eq_2 /\ type_of% @flatV.eq_3 /\ type_of% @flatV.eq_4 /\ type_of% @flatV.eq_5 /\ type_of% @flatV.eq_6 /\ type_of% @flatV.eq_7 /\ type_of% @flatV.eq_8 /\ type_of% @flatV.eq_9 /\ type_of% @flatV.eq_10 /\ type_of% @flatV.fls.eq_1 /\ type_of% @flatV.fls.eq_2 :=
 ⟨@ivb, @telb, @row_telE, @row_tel0, @orN.eq_1, @stCall_fn, @stNo.eq_1, @stNo.eq_2, @noV.eq_1, @noA.eq_1, @noA.eq_2, @vcopy.eq_1, @vcopy.eq_2, @isCp.eq_1, @isCp.eq_2, @isCp.eq_3, @isCp.eq_4, @avOf.eq_1, @xF_P, @xF_G, @xF_S, @xF_A, @xF_f, @xF_ps, @xF_cx, @xF_ret, @xF_normal, @xF_exit, @xL_P, @xL_G, @xL_S, @xL_A, @xL_f, @xL_ps, @xL_cx, @xL_ret, @xL_normal, @xL_exit, @canR_some, @cxE_P, @cxE_G, @cxE_n, @frzM.eq_1, @frzM.eq_2, @frzM.frzO.eq_1, @frzM.frzO.eq_2, @frzM.frzP.eq_1, @frzM.frzP.eq_2, @frzW.eq_1, @frzW.eq_2, @frzW.eq_3, @rowsN.eq_1, @rowsN.eq_2, @kidsN.eq_1, @kidsN.eq_2, @frzL.eq_1, @frzL.eq_2, @frzL.frzO.eq_1, @frzL.frzO.eq_2, @frzL.frzP.eq_1, @frzL.frzP.eq_2, @frzA.eq_1, @frzH.eq_1, @fixV.fixG.eq_1, @fixV.fixQ.eq_1, @fixV.fixQ.eq_2, @fixV.fixR.eq_1, @fixA.eq_1, @fixA.eq_2, @fixA.fixS.eq_1, @fixA.fixI.eq_1, @fixV.fixU.eq_1, @fixV.fixU.eq_2, @fixV.fixT.eq_1, @ltPs.eq_1, @ltPs.eq_2, @nmS.eq_1, @nmS.eq_2, @obsOf.eq_1, @obsOf.eq_2, @obs0.eq_1, @obs0.eq_2, @reach.eq_1, @reach.eq_2, @reach.eq_3, @nums.eq_1, @nums.eq_2, @swp.eq_1, @swp.eq_2, @tau.eq_1, @tau.eq_2, @frN.eq_1, @frN.eq_2, @surv.eq_1, @freE.eq_1, @freE.eq_2, @mkHO.eq_1, @dom.eq_1, @stayA.eq_1, @stay.eq_1, @stay.eq_2, @isArg.eq_1, @isArg.eq_2, @inOk.eq_1, @psL.eq_1, @psL.eq_2, @modeF.eq_1, @modeL.eq_1, @resAs.eq_1, @resAs.eq_2, @resA.eq_1, @resA.eq_2, @pinsC.eq_1, @pinsC.eq_2, @HO.lost.eq_1, @HO.bad.eq_1, @HO.badG.eq_1, @HO.badT.eq_1, @dropAll.eq_1, @dropAll.eq_2, @hp_cons, @hp_nil, @newH_app, @rls_nil, @rls_cons, @ob_rl, @immB_eq, @ren.eq_1, @ren.eq_2, @ren.eq_3, @ren.eq_4, @ren.eq_5, @ren.eq_6, @ren.eq_7, @ren.eq_8, @ren.eq_9, @ren.eq_10, @ren.eq_11, @ren.eq_12, @ren.eq_13, @ren.eq_14, @ren.eq_15, @ren.eq_16, @ren.eq_17, @ren.eq_18, @ren.rens.eq_1, @ren.rens.eq_2, @renOb.eq_1, @sub.eq_1, @sub.eq_2, @sub.eq_3, @sub.eq_4, @sub.eq_5, @sub.eq_6, @sub.eq_7, @sub.eq_8, @sub.eq_9, @sub.eq_10, @sub.eq_11, @sub.eq_12, @sub.eq_13, @sub.eq_14, @sub.eq_15, @sub.eq_16, @sub.eq_17, @sub.eq_18, @sub.subs.eq_1, @sub.subs.eq_2, @subOb.eq_1, @kill.eq_1, @argsH.eq_1, @args0.eq_1, @closedL.eq_1, @Ob.refs.eq_1, @wrapg.eq_1, @wrapg.eq_2, @opnds.eq_1, @opnds.eq_2, @opnds.eq_3, @opnds.eq_4, @opnds.eq_5, @opnds.eq_6, @opnds.eq_7, @opnds.eq_8, @opnds.eq_9, @opnds.eq_10, @opnds.eq_11, @opnds.eq_12, @opnds.eq_13, @opnds.eq_14, @opnds.eq_15, @opnds.eq_16, @opnds.eq_17, @opnds.eq_18, @opnds.eq_19, @opnds.eq_20, @opnds.eq_21, @opnds.eq_22, @opnds.eq_23, @opnds.eq_24, @outside.eq_1, @headOut.eq_1, @frL.eq_1, @aev.eq_1, @aev.eq_2, @aev.eq_3, @aev.eq_4, @allB.eq_1, @allB.eq_2, @binv.eq_1, @binv.eq_2, @binv.eq_3, @binv.eq_4, @binv.eq_5, @binv.eq_6, @binv.eq_7, @binv.eq_8, @binv.eq_9, @binv.eq_10, @binv.eq_11, @binv.eq_12, @binv.eq_13, @binv.eq_14, @binv.eq_15, @binv.eq_16, @binv.eq_17, @binv.eq_18, @binv.eq_19, @binv.eq_20, @binv.eq_21, @binv.eq_22, @binv.eq_23, @binv.eq_24, @binv.eq_25, @binv.eq_26, @binv.eq_27, @binv.eq_28, @binv.eq_29, @binv.eq_30, @binv.eq_31, @binv.eq_32, @binv.eq_33, @binv.eq_34, @binv.eq_35, @binv.eq_36, @binv.eq_37, @binv.eq_38, @binv.eq_39, @binv.eq_40, @binv.eq_41, @binv.eq_42, @binv.eq_43, @binv.eq_44, @binv.eq_45, @binv.eq_46, @binv.eq_47, @binv.eq_48, @binv.eq_49, @binv.eq_50, @binv.eq_51, @binv.eq_52, @binA.eq_1, @binA.eq_2, @binA.eq_3, @binA.eq_4, @eqL.eq_1, @eqL.eq_2, @eqL.eq_3, @eqL.eq_4, @eqL.eq_5, @eqAnd.eq_1, @eqAnd.eq_2, @vload.eq_1, @cut.eq_1, @cut.eq_2, @fits.eq_1, @fits.eq_2, @vindexAddr.eq_1, @vindexAddr.eq_2, @vindex.eq_1, @vindex.eq_2, @vindex.eq_3, @vindex.eq_4, @bnd.eq_1, @bnd.eq_2, @vmin.eq_1, @vmin.eq_2, @vmin.eq_3, @sstore.eq_1, @sstore.eq_2, @vstore.eq_1, @vstore.eq_2, @stcells.eq_1, @putl.eq_1, @putl.eq_2, @put1.eq_1, @put1.eq_2, @aop.eq_1, @aop.eq_2, @aop.eq_3, @aop.eq_4, @aop.eq_5, @fillE.eq_1, @fillE.eq_2, @vbuild.eq_1, @fillS.eq_1, @fillS.eq_2, @setl.eq_1, @setl.eq_2, @spick.eq_1, @vappend.eq_1, @srcE.eq_1, @srcE.eq_2, @srcE.eq_3, @srcE.eq_4, @srcE.eq_5, @srcE.eq_6, @badOf.eq_1, @badOf.eq_2, @orcGet.eq_1, @orcGet.eq_2, @List.zip_cons_cons.{0,0}, @List.zip_nil_left.{0,0}, @List.isEmpty_nil.{0}, @List.isEmpty_cons.{0}, @List.reverse_cons.{0}, @List.reverse_nil.{0}, @List.append_assoc.{0}, @List.filter_cons.{0}, @List.filter_nil.{0}, @Option.getD_some.{0}, @Option.getD_none.{0}, @Option.isSome_some.{0}, @Option.isSome_none.{0}, @bne_self_eq_false.{0}, @gt_iff_lt.{0}, @ge_iff_le.{0}, @Int.natCast_add, @Int.cast_ofNat_Int, @List.append_eq.{0}, @beq_self_eq_true.{0}, @AV.flat.flats.eq_1, @AV.flat.flats.eq_2, @ldQ_some, @ldQ_g, @flatO_some, @apQ_some, @apQ_g, @apQ_none, @apL_cons, @apV_sl, @apV_nil, @flatV.eq_1, @flatV.eq_2, @flatV.eq_3, @flatV.eq_4, @flatV.eq_5, @flatV.eq_6, @flatV.eq_7, @flatV.eq_8, @flatV.eq_9, @flatV.eq_10, @flatV.fls.eq_1, @flatV.fls.eq_2⟩
end Go.Aw

/- Equations for ranges over functions. Own work. -/
namespace Go.Aw
open Go
section
variable {R : Type} {x : Xe R} {n : Nat} {k : List Fr} {s : St}
theorem ex_range {g : Operand} {ps : Array Tmp} {a b : Code} : ex x (n + 1) (.c (.rangeFunc g ps a b)) k s = gRange x (ex x n) (keyOf (.rangeFunc g ps a b)) k g s (x.A.keep x.f (keyOf (.rangeFunc g ps a b))) := (rfl)
theorem gOT_prog {go : Go' R} {l : List Oper} {fr : List Nat} : gOT go l k s fr .prog = go (.o (some fr) l l) k s := (rfl)
theorem gOT_leaf {go : Go' R} {l : List Oper} {fr is : List Nat} : gOT go l k s fr (.leaf is) = go (.o (some fr) l (pick l is)) k s := (rfl)
theorem gOT_node {go : Go' R} {l : List Oper} {fr : List Nat} {i j : Nat} {a b : OT} : gOT go l k s fr (.node i j a b) = bothP (gOT go l k s fr a) (gOT go l k s fr b) := (rfl)
theorem pick_nil {l : List Oper} : pick l [] = [] := rfl
def pick1 (_l r : List Oper) : Option Oper -> List Oper
 | some o => o :: r
 | none => r
theorem pick1_some {l r : List Oper} {o : Oper} : pick1 l r (some o) = o :: r := rfl
theorem pick_cons {l : List Oper} {i : Nat} {is : List Nat} : pick l (i :: is) = pick1 l (pick l is) l[i]? := by
 simp only [pick, List.filterMap_cons]
 cases l[i]? <;> rfl
theorem gRange_some {go : Go' R} {key : Nat} {keep : List Tmp} {g : Operand} : gRange x go key k g s (some keep) = gR1 x go key k keep g (frzR s (reach 500 s.H (AV.rl.rls [stripV (aev x.cx s.ρ g)]) [])) := (rfl)
theorem gR1_some {go : Go' R} {key : Nat} {keep : List Tmp} {g : Operand} {φ : Prop} : gR1 x go key k keep g (some (s, φ)) = andP (φ /\ allB x.cx s.ρ [g] = true) (gR2 x go key k keep s (stripV (aev x.cx s.ρ g))) := (rfl)
theorem gR2_fn {go : Go' R} {key : Nat} {keep : List Tmp} {q : FuncId} {cap : List AV} : gR2 x go key k keep s (.fn (.func q) [] cap) = if AV.pure.pures cap = true then gR3 x go key k keep s (x.A.seq q cap) else none := (rfl)
theorem gR3_some {go : Go' R} {key : Nat} {keep : List Tmp} {xs : List AV} {φ : Prop} : gR3 x go key k keep s (some (xs, φ)) = andP φ (gR4 x go key k keep xs (canV 60000 (modeL (x.A.frl x.f key)) (x.A.fix x.f key) x.ps (keep.map s.ρ) s.H)) := (rfl)
theorem gR4_some {go : Go' R} {key : Nat} {keep : List Tmp} {xs vals : List AV} {l : HL} {φ : Prop} : gR4 x go key k keep xs (some ((vals, l), φ)) = gR5 x go k keep φ (x.S.L x.f key (.tup xs :: vals) l) := (rfl)
theorem gR5_normal {go : Go' R} {keep : List Tmp} {vals : List AV} {l : HL} {φ ψ : Prop} : gR5 x go k keep φ (some ((.normal, vals, l), ψ)) = andP (φ /\ ψ) (go (.c .skip) k (St.mk' (keep.zip vals) l)) := (rfl)
theorem gR5_exit {go : Go' R} {keep : List Tmp} {id : Nat} {vals : List AV} {l : HL} {φ ψ : Prop} : gR5 x go k keep φ (some ((.exit id, vals, l), ψ)) = andP (φ /\ ψ) (gExit x go id (St.mk' (keep.zip vals) l) (unw id k)) := (rfl)
theorem gR5_ret {go : Go' R} {keep : List Tmp} {vals : List AV} {l : HL} {φ ψ : Prop} : gR5 x go k keep φ (some ((.ret, vals, l), ψ)) = andP (φ /\ ψ) (x.K .ret (St.mk' (keep.zip vals) l)) := (rfl)
theorem gR5_ite {go : Go' R} {keep : List Tmp} {φ : Prop} {c : Prop} [Decidable c] {a b : Option ((Exit × List AV × HL) × Prop)} : gR5 x go k keep φ (if c then a else b) = if c then gR5 x go k keep φ a else gR5 x go k keep φ b := by split <;> rfl
end
section
variable {P : Program} {G : Nat -> AV} {A : An} {S : Sig} {f key n : Nat} {b : Code} {keep : List Tmp} {rest : List AV} {l : HL}
def xR (P : Program) (G : Nat -> AV) (A : An) (S : Sig) (f : FuncId) (key n : Nat) (keep : List Tmp) (rest : List AV) (l : HL) : Xe (Exit × List AV × HL) := ⟨cxE P G n, S, A, f, psL l, rngK A S f key keep (psL l) rest⟩
def xA (P : Program) (G : Nat -> AV) (A : An) (S : Sig) (f : FuncId) (key n : Nat) (b : Code) (keep : List Tmp) (rest : List AV) (l : HL) : Xe (Exit × List AV × HL) := ⟨cxE P G n, S, A, f, psL l, asgK P G A S f key n b keep (psL l) rest⟩
theorem xR_P : (xR P G A S f key n keep rest l).cx.P = P := rfl
theorem xR_G : (xR P G A S f key n keep rest l).cx.G = G := rfl
theorem xR_S : (xR P G A S f key n keep rest l).S = S := rfl
theorem xR_A : (xR P G A S f key n keep rest l).A = A := rfl
theorem xR_f : (xR P G A S f key n keep rest l).f = f := rfl
theorem xR_ps : (xR P G A S f key n keep rest l).ps = psL l := rfl
theorem xR_cx : (xR P G A S f key n keep rest l).cx = cxE P G n := rfl
theorem xR_ret {s : St} : (xR P G A S f key n keep rest l).K .ret s = lk2 .ret (canV 60000 (modeL (A.frl f key)) (A.fix f key) (psL l) (keep.map s.ρ) s.H) := rfl
theorem xR_normal {s : St} : (xR P G A S f key n keep rest l).K .normal s = lkR S f key rest (canV 60000 (modeL (A.frl f key)) (A.fix f key) (psL l) (keep.map s.ρ) s.H) := rfl
theorem xR_exit {s : St} {id : Nat} : (xR P G A S f key n keep rest l).K (.exit id) s = lk2 (.exit id) (canV 60000 (modeL (A.frl f key)) (A.fix f key) (psL l) (keep.map s.ρ) s.H) := rfl
theorem lkR_some {vals : List AV} {φ : Prop} : lkR S f key rest (some ((vals, l), φ)) = andP φ (S.L f key (.tup rest :: vals) l) := (rfl)
theorem xA_P : (xA P G A S f key n b keep rest l).cx.P = P := rfl
theorem xA_G : (xA P G A S f key n b keep rest l).cx.G = G := rfl
theorem xA_S : (xA P G A S f key n b keep rest l).S = S := rfl
theorem xA_A : (xA P G A S f key n b keep rest l).A = A := rfl
theorem xA_f : (xA P G A S f key n b keep rest l).f = f := rfl
theorem xA_ps : (xA P G A S f key n b keep rest l).ps = psL l := rfl
theorem xA_cx : (xA P G A S f key n b keep rest l).cx = cxE P G n := rfl
theorem xA_normal {s : St} : (xA P G A S f key n b keep rest l).K .normal s = ex (xR P G A S f key n keep rest l) 1000000 (.c b) [] s := (rfl)
theorem ev_rg0 {fn : Func} {c a : Code} {g : Operand} {ps : Array Tmp} (A : An) (G : Nat -> AV) (f key n : Nat) (keep : List Tmp) (hok : A.ok f = true) (hf : P.funcs[f]? = some fn) (hb : fn.body = some c) (hn : fn.ntmps = n) (hl : findL key (loopsOf c) = some (.rangeFunc g ps a b)) (hk : A.keep f key = some keep) (v : List AV) (l : HL) :
  (ev P G A).L f key (.tup [] :: v) l = some ((.normal, v, l), True) := by
 have hbf : bodyF P A f = some (n, c, fn.results.toList) := by simp only [bodyF, if_pos hok, hf, hb, hn]
 have hbl : bodyL P A f key = some (n, .rangeFunc g ps a b, keep) := by simp only [bodyL, hbf, hl, hk]
 rw [ev_Lof hbl]
 rfl
def goX1 (P : Program) (G : Nat -> AV) (A : An) (S : Sig) (f : FuncId) (key n : Nat) (ps : List Tmp) (a b : Code) (keep : List Tmp) (rest xs v : List AV) (l : HL) (c : Bool) : Option ((Exit × List AV × HL) × Prop) := match c with
 | true => ex (xA P G A S f key n b keep rest l) 1000000 (.c a) [] (St.mk' (ps.zip xs ++ keep.zip v) l)
 | false => none
theorem goX1_true {ps : List Tmp} {a : Code} {xs v : List AV} : goX1 P G A S f key n ps a b keep rest xs v l true = ex (xA P G A S f key n b keep rest l) 1000000 (.c a) [] (St.mk' (ps.zip xs ++ keep.zip v) l) := (rfl)
theorem ev_rg1 {fn : Func} {c a : Code} {g : Operand} {ps : Array Tmp} (A : An) (G : Nat -> AV) (f key n : Nat) (keep : List Tmp) (hok : A.ok f = true) (hf : P.funcs[f]? = some fn) (hb : fn.body = some c) (hn : fn.ntmps = n) (hl : findL key (loopsOf c) = some (.rangeFunc g ps a b)) (hk : A.keep f key = some keep) (xs rest v : List AV) (l : HL) :
  (ev P G A).L f key (.tup (.tup xs :: rest) :: v) l = goX1 P G A (ev P G A) f key n ps.toList a b keep rest xs v l (xs.length == ps.toList.length) := by
 have hbf : bodyF P A f = some (n, c, fn.results.toList) := by simp only [bodyF, if_pos hok, hf, hb, hn]
 have hbl : bodyL P A f key = some (n, .rangeFunc g ps a b, keep) := by simp only [bodyL, hbf, hl, hk]
 rw [ev_Lof hbl]
 show goR1 _ _ _ _ _ _ _ _ _ _ _ _ _ _ _ = _
 unfold goR1
 by_cases h : xs.length = ps.toList.length
 ·rw [if_pos h, h, beq_self_eq_true]
  rfl
 ·rw [if_neg h, beq_eq_false_iff_ne.2 h]
  rfl
end
theorem vclear_sl {P : Program} {H : Hp} {t : TypeId} {o lo len : Nat} : vclear P H t (.sl o lo len) = (match H o, tSliceElem P t with
  | some ob, some e => match tZero P e with
   | some zs => if eok P e zs = true then some (upd H o (some { ob with es := ob.es.take lo ++ (List.replicate len (mkE P e zs) ++ ob.es.drop (lo + len)) }), .tup [], tSz P e = some ob.sz /\ ∀ y ∈ ob.es, ∀ z ∈ [mkE P e zs], putl y 0 z.cells = z) else none
   | none => none
  | _, _ => none) := (rfl)
theorem rgb : type_of% @stepC_clear /\ type_of% @vclear_sl /\ type_of% @gRf_nil /\ type_of% @gRf_cons /\ type_of% @gRf1_some /\ type_of% @fz2_nil /\ type_of% @fz2_cons /\ type_of% @gLz_lazy /\ type_of% @gOT_prog /\ type_of% @gOT_leaf /\ type_of% @gOT_node /\ type_of% @pick_nil /\ type_of% @pick_cons /\ type_of% @pick1_some /\ type_of% @List.getElem?_cons_zero.{0} /\ type_of% @List.getElem?_cons_succ.{0} /\ type_of% @ex_range /\ type_of% @gRange_some /\ type_of% @gR1_some /\ type_of% @gR2_fn /\ type_of% @gR3_some /\ type_of% @gR4_some /\ type_of% @gR5_normal /\ type_of% @gR5_exit /\ type_of% @gR5_ret /\ type_of% @gR5_ite /\
  type_of% @xR_P /\ type_of% @xR_G /\ type_of% @xR_S /\ type_of% @xR_A /\ type_of% @xR_f /\ type_of% @xR_ps /\ type_of% @xR_cx /\ type_of% @xR_ret /\ type_of% @xR_normal /\ type_of% @xR_exit /\ type_of% @lkR_some /\
  type_of% @xA_P /\ type_of% @xA_G /\ type_of% @xA_S /\ type_of% @xA_A /\ type_of% @xA_f /\ type_of% @xA_ps /\ type_of% @xA_cx /\ type_of% @xA_normal /\ type_of% @goX1_true :=
 ⟨@stepC_clear, @vclear_sl, @gRf_nil, @gRf_cons, @gRf1_some, @fz2_nil, @fz2_cons, @gLz_lazy, @gOT_prog, @gOT_leaf, @gOT_node, @pick_nil, @pick_cons, @pick1_some, @List.getElem?_cons_zero.{0}, @List.getElem?_cons_succ.{0}, @ex_range, @gRange_some, @gR1_some, @gR2_fn, @gR3_some, @gR4_some, @gR5_normal, @gR5_exit, @gR5_ret, @gR5_ite, @xR_P, @xR_G, @xR_S, @xR_A, @xR_f, @xR_ps, @xR_cx, @xR_ret, @xR_normal, @xR_exit, @lkR_some,
  @xA_P, @xA_G, @xA_S, @xA_A, @xA_f, @xA_ps, @xA_cx, @xA_normal, @goX1_true⟩
end Go.Aw

/- Maps: the interpreter's equations; maps with numbers as keys. Own work. -/
namespace Go.Aw
open Go
def vlk2 (k : AV) (ok : Bool) (z : AV) : Option Ob -> Option (AV × Prop)
 | some ob => some (mlk ok (mfind ob.es k) z, True)
 | none => none
def vlk1 (H : Hp) (o c' : Nat) (k : AV) (ok : Bool) : Option (Nat × AV) -> Option (AV × Prop)
 | some (c, z) => if c' = c /\ keyC k = some c then vlk2 k ok z (H o) else none
 | none => none
def vlk0 (k : AV) (ok : Bool) : Option (Nat × AV) -> Option (AV × Prop)
 | some (c, z) => if keyC k = some c then some (mlk ok none z, True) else none
 | none => none
def vmp2 (H : Hp) (o : Nat) (k v : AV) : Option Ob -> Option (Hp × Prop)
 | some ob => some (upd H o (some ⟨ob.box, ob.sz, mput ob.es k v⟩), True)
 | none => none
def vmp1 (H : Hp) (o c' : Nat) (k v : AV) : Option (Nat × AV) -> Option (Hp × Prop)
 | some (c, _) => if c' = c /\ keyC k = some c then vmp2 H o k v (H o) else none
 | none => none
def smp1 (cx : Cx) (o : Oper) (l : List Operand) (s : St) : Option (Hp × Prop) -> Option (St × Prop)
 | some (H', φ) => some (putv { s with H := H' } o.dst .junk, φ /\ allB cx s.ρ l = true)
 | none => none
theorem vlook_mp {P : Program} {H : Hp} {t : TypeId} {o c' : Nat} {k : AV} {ok : Bool} : vlook P H t (.mp o c') k ok = vlk1 H o c' k ok (tMap P t) := by
 unfold vlook vlk1
 cases tMap P t with
 | none => rfl
 | some q => obtain ⟨c, z⟩ := q; simp only; split <;> first | rfl | (cases H o <;> rfl)
theorem vlook_nilm {P : Program} {H : Hp} {t : TypeId} {k : AV} {ok : Bool} : vlook P H t .nilm k ok = vlk0 k ok (tMap P t) := by
 unfold vlook vlk0
 cases tMap P t with
 | none => rfl
 | some q => obtain ⟨c, z⟩ := q; rfl
theorem vlk1_some {H : Hp} {o c' c : Nat} {k z : AV} {ok : Bool} : vlk1 H o c' k ok (some (c, z)) = if c' = c /\ keyC k = some c then vlk2 k ok z (H o) else none := rfl
theorem vlk0_some {c : Nat} {k z : AV} {ok : Bool} : vlk0 k ok (some (c, z)) = if keyC k = some c then some (mlk ok none z, True) else none := rfl
theorem vlk2_some {k z : AV} {ok b : Bool} {sz : Nat} {es : List AV} : vlk2 k ok z (some ⟨b, sz, es⟩) = some (mlk ok (mfind es k) z, True) := rfl
theorem vmput_mp {P : Program} {H : Hp} {t : TypeId} {o c' : Nat} {k v : AV} : vmput P H t (.mp o c') k v = vmp1 H o c' k v (tMap P t) := by
 unfold vmput vmp1
 cases tMap P t with
 | none => rfl
 | some q => obtain ⟨c, z⟩ := q; simp only; split <;> first | rfl | (cases H o <;> rfl)
theorem vmp1_some {H : Hp} {o c' c : Nat} {k v z : AV} : vmp1 H o c' k v (some (c, z)) = if c' = c /\ keyC k = some c then vmp2 H o k v (H o) else none := rfl
theorem vmp2_some {H : Hp} {o : Nat} {k v : AV} {b : Bool} {sz : Nat} {es : List AV} : vmp2 H o k v (some ⟨b, sz, es⟩) = some (upd H o (some ⟨b, sz, mput es k v⟩), True) := rfl
theorem smput_true {cx : Cx} {o : Oper} {t : TypeId} {x k v : Operand} {s : St} : smput cx true o t x k v s = smp1 cx o [x, k, v] s (vmput cx.P s.H t (stripV (aev cx s.ρ x)) (stripV (aev cx s.ρ k)) (stripV (aev cx s.ρ v))) := by
 unfold smput smp1
 cases vmput cx.P s.H t (stripV (aev cx s.ρ x)) (stripV (aev cx s.ρ k)) (stripV (aev cx s.ρ v)) with
 | none => rfl
 | some q => rfl
theorem smput_false {cx : Cx} {o : Oper} {t : TypeId} {x k v : Operand} {s : St} : smput cx false o t x k v s = some (putv s o.dst .junk, True) := rfl
theorem smp1_some {cx : Cx} {o : Oper} {l : List Operand} {s : St} {H' : Hp} {φ : Prop} : smp1 cx o l s (some (H', φ)) = some (putv { s with H := H' } o.dst .junk, φ /\ allB cx s.ρ l = true) := rfl
theorem mlk_true {r : Option AV} {z : AV} : mlk true r z = .tup [r.getD z, .bool r.isSome] := rfl
theorem mlk_false {r : Option AV} {z : AV} : mlk false r z = r.getD z := rfl
def lkI {β : Type} : List (Int × β) -> Int -> Option β
 | [], _ => none
 | (a, b) :: r, n => if n = a then some b else lkI r n
def ptI {β : Type} : List (Int × β) -> Int -> β -> List (Int × β)
 | [], n, b => [(n, b)]
 | (a, c) :: r, n, b => if n = a then (a, b) :: r else (a, c) :: ptI r n b
def prI {β : Type} (k : IntKind) (g : β -> AV) (p : Int × β) : AV := .tup [.int k p.1, g p.2]
theorem mfind_I {β : Type} {k k' : IntKind} {g : β -> AV} {n : Int} : ∀ {m : List (Int × β)}, mfind (m.map (prI k g)) (.int k' n) = (lkI m n).map g
 | [] => rfl
 | (a, b) :: r => by
  simp only [List.map_cons, prI, mfind, keyEq, lkI, beq_iff_eq]
  split
  ·rfl
  ·exact mfind_I (m := r)
theorem mput_I {β : Type} {k k' : IntKind} {g : β -> AV} {n : Int} {b : β} (h : k' = k) : ∀ {m : List (Int × β)}, mput (m.map (prI k g)) (.int k' n) (g b) = (ptI m n b).map (prI k g)
 | [] => by subst h; rfl
 | (a, c) :: r => by
  simp only [List.map_cons, prI, mput, keyEq, ptI, beq_iff_eq]
  split
  ·rfl
  ·have := mput_I (g := g) (n := n) (b := b) h (m := r)
   simp only [List.map_cons, prI]
   rw [<- this]
theorem lkI_pt {β : Type} {n n' : Int} {b : β} : ∀ {m : List (Int × β)}, lkI (ptI m n b) n' = if n' = n then some b else lkI m n'
 | [] => rfl
 | (a, c) :: r => by
  simp only [ptI]
  split
  ·rename_i h
   subst h
   simp only [lkI]
   split <;> rfl
  ·rename_i h
   simp only [lkI, lkI_pt (m := r)]
   split
   ·rename_i h2
    subst h2
    rw [if_neg (fun e => h e.symm)]
   ·rfl
instance rf_prI {β : Type} {k : IntKind} {g : β -> AV} [h : RowF g] : RowF (prI k g) := ⟨fun x => by simp [prI, AV.pure, AV.pure.pures, h.pure], fun _ => rfl⟩
theorem mlk_I {β : Type} {g : β -> AV} {r : Option β} {z : β} : (r.map g).getD (g z) = g (r.getD z) := by cases r <;> rfl
theorem binv_junk {P : Program} {t : TypeId} {k : IntKind} {n : Int} : binv P .eql t .junk (.int k n) = some (.bool false, False) := rfl
theorem vmin_4 {mn : Bool} {k : IntKind} {a : Int} {x y z : AV} {r : List AV} : vmin mn (.int k a :: x :: y :: z :: r) = mxO k (mxL mn k a (x :: y :: z :: r)) := by
 unfold vmin
 split
 ·rename_i h; simp at h
 ·rename_i h; simp at h
 ·rename_i h; simp at h; obtain ⟨⟨rfl, rfl⟩, rfl, rfl, rfl, rfl⟩ := h; rfl
 ·rename_i h; exact absurd rfl (h _ _ _ _ _ _)
theorem mxL_nil {mn : Bool} {k : IntKind} {a : Int} : mxL mn k a [] = some a := rfl
theorem mxL_cons {mn : Bool} {k : IntKind} {a b : Int} {r : List AV} : mxL mn k a (.int k b :: r) = mxL mn k (mx2 mn a b) r := by simp only [mxL, if_true]
theorem mxO_some {k : IntKind} {v : Int} : mxO k (some v) = some (.int k v, True) := rfl
theorem mx2_le {a b n : Int} : mx2 false a b ≤ n ↔ a ≤ n /\ b ≤ n := by
 unfold mx2
 simp only [Bool.false_eq_true, if_false]
 split <;> omega
set_option linter.unusedSimpArgs false in
theorem mpb : (∀ n : Nat, (0 ≤ n) = True) /\ type_of% @vmin_4 /\ type_of% @mxL_nil /\ type_of% @mxL_cons /\ type_of% @mxO_some /\ type_of% @binv_junk /\ type_of% @ex_lookup /\ type_of% @ex_mapUpdate /\ type_of% @ex_makeMap /\ type_of% @vlook_mp /\ type_of% @vlook_nilm /\ type_of% @vlk1_some /\ type_of% @vlk0_some /\ type_of% @vlk2_some /\ type_of% @vmput_mp /\ type_of% @vmp1_some /\ type_of% @vmp2_some /\ type_of% @smput_true /\ type_of% @smput_false /\ type_of% @smp1_some /\ type_of% @mlk_true /\ type_of% @mlk_false /\
  (∀ k n, keyC (.int k n) = some (ikc k + 2)) /\ (∀ s, keyC (.str s) = some 0) /\ (∀ b, keyC (.bool b) = some 1) /\ (ikc .i64 = 3) /\ (ikc .i32 = 2) /\ (ikc .u32 = 6) /\ (ikc .u64 = 7) /\ (ikc .u8 = 4) /\ (∀ n : Nat, (n ≤ n) = True) /\ type_of% @List.length_map.{0,0} /\
  (∀ t, opnds (.alloc t) = []) /\ type_of% @opnds.eq_25 /\ type_of% @opnds.eq_26 /\ type_of% @ren.eq_19 /\ type_of% @ren.eq_20 /\ type_of% @sub.eq_19 /\ type_of% @sub.eq_20 /\ type_of% @flatV.eq_11 /\ type_of% @flatV.eq_12 /\ type_of% @Option.toList_none.{0} /\ type_of% @Option.toList_some.{0} :=
 ⟨fun n => eq_true (Nat.zero_le n), @vmin_4, @mxL_nil, @mxL_cons, @mxO_some, @binv_junk, @ex_lookup, @ex_mapUpdate, @ex_makeMap, @vlook_mp, @vlook_nilm, @vlk1_some, @vlk0_some, @vlk2_some, @vmput_mp, @vmp1_some, @vmp2_some, @smput_true, @smput_false, @smp1_some, @mlk_true, @mlk_false, fun _ _ => rfl, fun _ => rfl, fun _ => rfl, rfl, rfl, rfl, rfl, rfl, fun n => eq_true (Nat.le_refl n), @List.length_map, fun _ => rfl, @opnds.eq_25, @opnds.eq_26, @ren.eq_19, @ren.eq_20, @sub.eq_19, @sub.eq_20, @flatV.eq_11, @flatV.eq_12, @Option.toList_none, @Option.toList_some⟩
end Go.Aw

/- A law's contract where a table is told. Own work. -/
namespace Go.Aw
open Go Go.WideShapes Go.ChangeShapes Go.RowKit
theorem ev_callsG {P : Program} {G : Nat -> AV} {A : An} (hE : EvOk P G A) {f : FuncId} {avs : List AV} {l' : HL} (h : (ev P G A).F f avs [] = some ((.bool true, l'), True)) {W : World} (hG : ∀ g, RV ⟨noμ, oldB W⟩ noH W (G g) (.pointer (some ⟨g, 0, none⟩))) {vs : Array Value} (hsz : vs.size = avs.length)
  (hv : ∀ (i : Nat) (x : AV) (v : Value), avs[i]? = some x -> vs[i]? = some v -> RV ⟨noμ, oldB W⟩ noH W x v) : Calls P f vs W fun e W' => e = .returned (.bool true) /\ Below W.heap.size W W' := by
 obtain ⟨_, hc⟩ := (ev_sound hE h trivial).hc
 have := hc W ⟨noμ, oldB W⟩ vs (fun b hb => hb) hG hsz hv (fun o ob h => by cases h) (fun o o' ob ob' x x' h => by cases h)
 refine this.mono fun e W' ⟨u, κ', he, g1, g2, g3, g4, g5, g6, g7, g8, g9, _⟩ => ?_
 refine ⟨by rw [he, RV.bool_inv g4], ⟨g5, g6, g7, g8, fun k hk => g9 k hk fun ⟨o, ob, x, h, _⟩ => by cases h⟩⟩
theorem law_contractG {H : Type} {enc : TypeId × Value -> H} {P : Program} {G : Nat -> AV} {A : An} (hE : EvOk P G A) (hlo : laidOutB P = true) {f : FuncId} {fn : Func} {s : ChangeSpec} {l : List TypeId} (hs : suppB P l = true) {ts : List TypeId} (hts : fn.params.toList = ts)
  (hin : ts.all l.contains = true) (hrd : ts.all (fun t => P.readableRec t && decide (t < P.types.size)) = true) {tb : TypeId} (hres : fn.resultTypes = #[tb]) (htb : P.underlying tb = some .bool) (hvars : s.vars = []) {fresh : Bool}
  {W : World} {base : Nat} {args : Array Value} {ds gs : List (DataW H)} {before : List MemPlace} (hG : ∀ g, RV ⟨noμ, oldB W⟩ noH W (G g) (.pointer (some ⟨g, 0, none⟩)))
  (hval : ∀ (j : Nat) t v, fn.params[j]? = some t -> args[j]? = some v -> Value.okWide P W .any base t v)
  (hW : DataW.Whole enc P fn.params.toList s.vars false W args.toList ds gs before) (hsz : (DataW.weightsEach P (fn.params.toList ++ s.plain.varTypes P) (ds ++ gs)).all (· ≤ reachBytes) = true) (hspec : ∀ ds : List (DataW H), ds.length = ts.length -> (s.fn H ds).results = [.lit (.bool true)] /\ (s.fn H ds).args = ds /\ (s.fn H ds).vars = [])
  (law : ∀ nx : List (Nat × List AV), nx.length = ts.length -> (∀ (j : Nat) t y, ts[j]? = some t -> nx[j]? = some y -> typed P y.1 t y.2) -> ∃ l', (ev P G A).F f ((ts.zip nx).map fun p => argA P p.1 p.2.2) [] = some ((.bool true, l'), True)) :
  Calls P f args W fun e W' => ∃ v, e = .returned v /\ s.post enc P fn false fresh false false W args v W' := by
 have hW0 := hW
 obtain ⟨p, q, hA, hV, rfl, hfz, hnd⟩ := hW
 rw [hvars] at hV
 have hgs : gs = [] /\ q = [] := by
  cases gs with
  | nil => exact ⟨rfl, by simpa [DataW.TrodVars] using hV⟩
  | cons g gs => exact absurd hV (by simp [DataW.TrodVars])
 obtain ⟨rfl, rfl⟩ := hgs
 rw [hts] at hA
 have hspec := hspec (ds ++ []) (by rw [List.append_nil]; exact trodAll_len hA)
 rw [List.append_nil] at hspec
 have hsz' : ∀ m ∈ DataW.weightsEach P ts ds, m ≤ reachBytes := fun m hm => by
  have hv0 : s.plain.varTypes P = [] := by unfold DataSpec.varTypes ChangeSpec.plain; simp [hvars]
  rw [hts, hv0, List.append_nil, List.append_nil] at hsz
  simpa using List.all_eq_true.1 hsz m hm
 obtain ⟨nx, e1, e2, e3, e4⟩ := args_rv hs (fun t ht => List.all_eq_true.1 hin t ht) hsz' (fun j t v ht hv => hval j t v (by rw [<- Array.getElem?_toList, hts]; exact ht) (by simpa using hv)) hA
 obtain ⟨l', hl'⟩ := law nx e1 e3
 have hlt := DataW.TrodAll.lt hA
 refine (ev_callsG hE hl' (W := W) hG (vs := args) (by simp [e1]; simpa using e2) (fun i x v hx hv => ?_)).mono fun e W' ⟨he, hb⟩ => ?_
 ·rw [List.getElem?_map] at hx
  obtain ⟨y, hy, rfl⟩ := Option.map_eq_some_iff.1 hx
  obtain ⟨h1, h2⟩ := List.getElem?_zip_eq_some.1 hy
  exact e4 i y.1 y.2 v h1 h2 (by simpa using hv)
 ·refine ⟨_, he, ds, [], p ++ [], [], p, [], hW0, ?_, ?_, ?_, ?_, fun h => by cases h⟩
  ·rw [hres, List.append_nil, hspec.1]
   exact trodAll_mk1 ⟨1, by simp [DataW.trod, Value.cells, htb]⟩
  ·rw [List.append_nil, hspec.2.1, hts]
   exact trodAll_stays hlo hb (fun t ht => by have := List.all_eq_true.1 hrd t ht; simpa using this) hA hlt
  ·rw [hvars, List.append_nil, hspec.2.2]; exact rfl
  ·refine ⟨hb.os, hb.output, fun i hi => ?_⟩
   rw [hb.block i hi]
   cases hh : W.heap[i]? with
   | none => trivial
   | some o => cases o <;> simp
end Go.Aw

/- Structs whose cells are a mapped list; copies of such rows. Own work. -/
namespace Go.Aw
open Go
class CellF {α : Type} (f : α -> AV) : Prop extends RowF f where
 one : ∀ x, (f x).cells = [f x]
 flat : ∀ x, (f x).flat = true
 isImm : ∀ x, (f x).isImm = true
instance cf_int {k : IntKind} : CellF (AV.int k) := { rf_int with one := fun _ => rfl, flat := fun _ => rfl, isImm := fun _ => rfl }
instance cf_bool : CellF AV.bool := { rf_bool with one := fun _ => rfl, flat := fun _ => rfl, isImm := fun _ => rfl }
section
variable {α β : Type} {f : α -> AV} {g : β -> AV} {l : List α} {l' : List β}
end
end Go.Aw

/- A datum that lies in a variable, as abstract values. Own work. -/
namespace Go.Aw
open Go Go.WideShapes Go.ChangeShapes Go.RowKit
def oneA (P : Program) (e : TypeId) (xs : List AV) : AV := match P.underlying e with
 | some (.struct _) | some (.array _ _) => .agg xs
 | _ => xs.getD 0 .junk
def datA {H : Type} (P : Program) : Nat -> TypeId -> DataW H -> Option (List AV)
 | 0, _, _ => none
 | k + 1, t, d => match P.underlying t with
  | some .bool => match d with
   | .lit (.bool b) => some [.bool b]
   | _ => none
  | some (.int i) => match d with
   | .lit (.int _ m) => some [.int i m]
   | _ => none
  | some (.slice e) => match d with
   | .nil => some [.ro (P.cellsOf e) []]
   | .slice ds _ => (ds.mapM (datA P k e)).map fun yss => [.ro (P.cellsOf e) (yss.map (oneA P e))]
   | _ => none
  | some (.struct fs) => match d with
   | .agg ds => ((fs.toList.zip ds).mapM fun p => datA P k p.1.type p.2).map List.flatten
   | _ => none
  | some (.array _ e) => match d with
   | .agg ds => (ds.mapM (datA P k e)).map List.flatten
   | _ => none
  | _ => none
variable {H : Type} {enc : TypeId × Value -> H} {P : Program} {w : World}
theorem pieces {R : AV -> Value -> Prop} {cs : List Value} : ∀ (fs : List Field) (yss : List (List AV)) (o : Nat), contig P o fs cs.length = true -> yss.length = fs.length ->
  (∀ (i : Nat) (f : Field) (ys : List AV), fs[i]? = some f -> yss[i]? = some ys -> PWL R ys ((cs.drop f.offset).take (P.cellsOf f.type))) -> o ≤ cs.length -> PWL R yss.flatten (cs.drop o)
 | [], yss, o, hc, hl, _, ho => by
  simp only [contig, beq_iff_eq] at hc
  obtain rfl : yss = [] := List.eq_nil_of_length_eq_zero hl
  rw [List.drop_of_length_le (by omega)]
  exact PWL.nil
 | f :: fs, [], o, hc, hl, _, ho => by simp at hl
 | f :: fs, ys :: yss, o, hc, hl, h, ho => by
  have hc0 := hc
  simp only [contig, Bool.and_eq_true, beq_iff_eq] at hc
  have h2 := h 0 f ys rfl rfl
  have h3 := (contig_le hc0).2 f (by simp)
  have k2 := pieces fs yss (o + P.cellsOf f.type) hc.2 (by simpa using hl) (fun i g zs hg hz => h (i + 1) g zs (by simpa using hg) (by simpa using hz)) (by rw [hc.1] at h3; exact h3)
  have e : cs.drop o = (cs.drop o).take (P.cellsOf f.type) ++ cs.drop (o + P.cellsOf f.type) := by
   rw [<- List.drop_drop, List.take_append_drop]
  rw [e, List.flatten_cons]
  rw [hc.1] at h2
  exact h2.app k2
theorem trod_dat {l : List TypeId} (hs : suppB P l = true) {base : Nat} {sp : Nat -> Bool} {held : Bool} : ∀ (n k : Nat) (t : TypeId) (cs : List Value) (y : DataW H × List MemPlace) (xs : List AV), l.contains t = true -> datA P k t y.1 = some xs -> DataW.trod enc P w base sp held n t cs = some y ->
  PWL (RI (oldB w) w) xs cs /\ cs.length = P.cellsOf t := by
 intro n
 induction n with
 | zero => intro k t cs y xs _ _ h; cases h
 | succ n ih =>
  intro k t cs y xs ht hd h
  have hst := List.all_eq_true.1 hs t (List.contains_iff_mem.1 ht)
  cases k with
  | zero => cases hd
  | succ k =>
  unfold datA at hd
  cases hu : P.underlying t with
  | none => rw [hu] at hst; cases hst
  | some u =>
   rw [hu] at hst hd
   cases u with
   | bool =>
    obtain ⟨b, rfl, rfl⟩ := DataW.trod_bool hu h
    cases hd
    exact ⟨PWL.one (.bool b), by simp only [beq_iff_eq] at hst; exact hst.symm⟩
   | int i =>
    obtain ⟨m, rfl, rfl, hw⟩ := DataW.trod_int hu h
    cases hd
    exact ⟨PWL.one (.int i m), by simp only [beq_iff_eq] at hst; exact hst.symm⟩
   | string => cases hd
   | slice e =>
    simp only [Bool.and_eq_true, beq_iff_eq, decide_eq_true_eq] at hst
    obtain ⟨⟨⟨he, h1⟩, hpos⟩, hone⟩ := hst
    rcases DataW.trod_slice hu h with ⟨rfl, rfl⟩ | ⟨a, len, cap, elems, rest, m, hm, rfl, rfl, _, hlc, hcm, hlen, hel, _⟩
    ·cases hd
     exact ⟨PWL.one (.ro _ [] none 0 0 0 (fun _ _ => undef) (fun h => absurd h (by simp)) (by simp) (by simp) (by simp) (by simp)), by simp [h1]⟩
    ·cases hm
     simp only [Option.map_eq_some_iff] at hd
     obtain ⟨yss, hyss, rfl⟩ := hd
     obtain ⟨e1, e2⟩ := mapM_get' hyss
     simp only [List.length_map, hlen] at e1
     have hex : ∀ (i : Nat) (z : AV), (yss.map (oneA P e))[i]? = some z -> z.cells.length = P.cellsOf e /\ ∃ ci, w.cells? base (a.add (i * P.cellsOf e)) (P.cellsOf e) = some ci /\ PWL (RI (oldB w) w) z.cells ci := fun i z hz => by
      rw [List.getElem?_map] at hz
      obtain ⟨ys, hys, rfl⟩ := Option.map_eq_some_iff.1 hz
      have hi : i < len := by have := (List.getElem?_eq_some_iff.1 hys).1; omega
      have hb := hel i hi
      have hel' : elems[i]? = some elems[i] := List.getElem?_eq_getElem (by omega)
      rw [hel'] at hb
      obtain ⟨ci, k1, k2⟩ := Option.bind_eq_some_iff.1 hb
      have hdi := e2 i _ ys (by rw [List.getElem?_map, hel']; rfl) hys
      obtain ⟨m2, m3⟩ := ih k e ci _ ys he hdi k2
      have hlx : ys.length = P.cellsOf e := m2.1.trans m3
      have hc : (oneA P e ys).cells = ys := by
       unfold oneA
       cases hue : P.underlying e with
       | none =>
        have := List.all_eq_true.1 hs e (List.contains_iff_mem.1 he)
        rw [hue] at this; cases this
       | some ue =>
        rw [hue] at hone
        cases ue with
        | struct fs => rfl
        | array q e' => rfl
        | _ =>
         simp only [beq_iff_eq] at hone
         obtain ⟨x, rfl⟩ : ∃ x, ys = [x] := by
          match ys, hlx.trans hone with
          | [x], _ => exact ⟨x, rfl⟩
         have hx := m2.1
         match ci, hx with
         | [v], _ =>
          have hr := m2.2 0 x v rfl rfl
          cases hr <;> rfl
      exact ⟨by rw [hc]; exact hlx, ci, k1, by rw [hc]; exact m2⟩
     have el : (yss.map (oneA P e)).length = len := by rw [List.length_map, e1]
     generalize yss.map (oneA P e) = es at hex el ⊢
     have hcell : ∀ (i : Nat) (e' : AV) (j : Nat) (x : AV), es[i]? = some e' -> e'.cells[j]? = some x -> ∃ v, w.cell? ((a.add (i * P.cellsOf e)).add j) = some v /\ RI (oldB w) w x v := fun i e' j x hi hj => by
      obtain ⟨_, ci, k1, k2⟩ := hex i e' hi
      have hlt := (List.getElem?_eq_some_iff.1 hj).1
      rw [k2.1] at hlt
      exact ⟨ci[j], (cells_of k1).2 j _ (List.getElem?_eq_getElem hlt), k2.2 j x _ hj (List.getElem?_eq_getElem hlt)⟩
     have hadd : ∀ i j v, w.cell? ((a.add (i * P.cellsOf e)).add j) = some v -> w.cell? ⟨a.block, a.off + i * P.cellsOf e + j, none⟩ = some v := fun i j v hv => by
      have hsp := (cell_spot hv).1
      have e : (a.add (i * P.cellsOf e)).add j = ⟨a.block, a.off + i * P.cellsOf e + j, none⟩ := by
       rw [<- addr_add hsp]
      rwa [e] at hv
     have hspot : 0 < es.length -> a.spot = none /\ a.block < w.heap.size := fun hp => by
      have hi : es[0]? = some es[0] := List.getElem?_eq_getElem hp
      obtain ⟨hcl, _⟩ := hex 0 _ hi
      have hj : (es[0]).cells[0]? = some ((es[0]).cells[0]'(by omega)) := List.getElem?_eq_getElem (by omega)
      obtain ⟨v, hv, _⟩ := hcell 0 _ 0 _ hi hj
      rw [Nat.zero_mul] at hv
      exact cell_spot hv
     refine ⟨PWL.one ?_, by simp [h1]⟩
     rw [<- el]
     refine .ro _ es (some a) cap a.block a.off (fun i j => (w.cell? ⟨a.block, a.off + i * P.cellsOf e + j, none⟩).getD undef) (fun hp => ⟨?_, (hspot hp).2⟩) (by omega) (fun i e' hi => (hex i e' hi).1) (fun i e' j x hi hj => ?_) (fun i e' j x hi hj => ?_)
     ·obtain ⟨ab, ao, asp⟩ := a
      have := (hspot hp).1
      simp only at this
      rw [this]
     ·obtain ⟨v, hv, _⟩ := hcell i e' j x hi hj
      simp only [hadd i j v hv, Option.getD_some]
     ·obtain ⟨v, hv, hr⟩ := hcell i e' j x hi hj
      simp only [hadd i j v hv, Option.getD_some]
      exact hr
   | struct fs =>
    simp only [Bool.and_eq_true, List.all_eq_true] at hst
    obtain ⟨hin, hcg⟩ := hst
    obtain ⟨zs, m, hm, rfl, hlen, hxl, hx⟩ := DataW.trod_struct hu h
    cases hm
    simp only [Option.map_eq_some_iff] at hd
    obtain ⟨yss, hyss, rfl⟩ := hd
    obtain ⟨e1, e2⟩ := mapM_get' hyss
    rw [<- hlen] at hcg
    have := pieces (R := RI (oldB w) w) (cs := cs) fs.toList yss 0 hcg (by rw [e1]; simp; omega) (fun i f ys hf hy => by
     have hf' : fs[i]? = some f := by simpa using hf
     have hi : i < zs.length := by rw [hxl]; exact (Array.getElem?_eq_some_iff.1 hf').1
     have hb := hx i f hf'
     rw [List.getElem?_eq_getElem hi] at hb
     have hdi := e2 i (f, (zs[i]).1) ys (List.getElem?_zip_eq_some.2 ⟨hf, by rw [List.getElem?_map, List.getElem?_eq_getElem hi]; rfl⟩) hy
     exact (ih k f.type _ _ ys (hin f (List.mem_of_getElem? hf)) hdi hb).1) (Nat.zero_le _)
    exact ⟨by simpa using this, hlen⟩
   | array q e =>
    simp only [Bool.and_eq_true, beq_iff_eq] at hst
    obtain ⟨zs, m, hm, rfl, hlen, hxl, hx⟩ := DataW.trod_array hu h
    cases hm
    simp only [Option.map_eq_some_iff] at hd
    obtain ⟨yss, hyss, rfl⟩ := hd
    obtain ⟨e1, e2⟩ := mapM_get' hyss
    simp only [List.length_map, hxl] at e1
    have key : ∀ j, j ≤ q -> PWL (RI (oldB w) w) (yss.take j).flatten (cs.take (j * P.cellsOf e)) := fun j => by
     induction j with
     | zero => intro _; simpa using PWL.nil
     | succ j ihj =>
      intro hj
      have a3 := ihj (by omega)
      have hb := hx j (by omega)
      have hz : zs[j]? = some zs[j] := List.getElem?_eq_getElem (by omega)
      rw [hz] at hb
      have hy : yss[j]? = some yss[j] := List.getElem?_eq_getElem (by omega)
      have hdi := e2 j _ _ (by rw [List.getElem?_map, hz]; rfl) hy
      obtain ⟨m2, _⟩ := ih k e _ _ _ hst.1 hdi hb
      have h1 : cs.take ((j + 1) * P.cellsOf e) = cs.take (j * P.cellsOf e) ++ (cs.drop (j * P.cellsOf e)).take (P.cellsOf e) := by
       rw [Nat.succ_mul, List.take_add]
      have h2 : yss.take (j + 1) = yss.take j ++ [yss[j]] := by rw [List.take_add_one, hy]; rfl
      rw [h1, h2, List.flatten_append]
      simpa using a3.app m2
    have a3 := key q (Nat.le_refl _)
    rw [List.take_of_length_le (by omega), List.take_of_length_le (by rw [hlen, <- hst.2]; exact Nat.le_refl _)] at a3
    exact ⟨a3, hlen⟩
   | _ => cases hst
theorem rop_laid {l : List TypeId} (hs : suppB P l = true) {name : String} {d : DataW Unit} {rest : List (String × DataW Unit)} {g : Nat} {t : TypeId} {W : World} {k : Nat} {xs : List AV} (hg : P.globalNamed name = some g) (hty : (P.globals[g]?).map (·.type) = some t) (ht : l.contains t = true)
  (hd : datA P k t d = some xs) (h0 : 0 < xs.length) (h : laidMet P ((name, d) :: rest) W) : RV ⟨noμ, oldB W⟩ noH W (.rop (.agg xs) 0) (.pointer (some ⟨g, 0, none⟩)) := by
 obtain ⟨ps, ⟨g', t', cs, fuel, p, q, hg', ht', hvar, hdt, _, _⟩, _⟩ := h
 obtain rfl := Option.some.inj (hg.symm.trans hg')
 obtain rfl := Option.some.inj (hty.symm.trans ht')
 obtain ⟨h2, h3⟩ := trod_dat hs fuel k t cs.toList _ xs ht hd hdt
 have hcell : ∀ (j : Nat) (x : AV), xs[j]? = some x -> ∃ v, W.cell? ⟨g, j, none⟩ = some v /\ RI (oldB W) W x v := fun j x hj => by
  have hlt : j < cs.toList.length := by rw [<- h2.1]; exact (List.getElem?_eq_some_iff.1 hj).1
  have hc := World.var?_cell hg hvar j
  exact ⟨cs.toList[j], by rw [hc]; simp, h2.2 j x _ hj (List.getElem?_eq_getElem hlt)⟩
 have hb : oldB W g := by
  obtain ⟨v, hv, _⟩ := hcell 0 _ (List.getElem?_eq_getElem h0)
  exact (cell_spot hv).2
 refine .rop _ 0 g 0 (fun j => (W.cell? ⟨g, j, none⟩).getD undef) hb (fun j x hj => ?_) (fun j x hj => ?_)
 ·obtain ⟨v, hv, _⟩ := hcell j x hj
  rw [Nat.zero_add]
  simp only [hv, Option.getD_some]
 ·obtain ⟨v, hv, hr⟩ := hcell j x hj
  simp only [hv, Option.getD_some]
  exact hr
end Go.Aw

