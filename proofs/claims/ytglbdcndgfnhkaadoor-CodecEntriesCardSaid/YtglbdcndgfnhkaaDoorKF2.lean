/- Parts of the proof. -/
import Derived.Test.YtglbdcndgfnhkaaDoorKF1
import Derived.Test.YtglbdcndgfnhkaaDoorKX
section
set_option linter.unusedVariables false
set_option maxRecDepth 100000
set_option maxHeartbeats 1000000
namespace Go.Vm.Tryd
open Go Go.Vm
/-- slices.pdqsortCmpFunc[mailcoach/api.Line] -/
def h89 : Hint := (.seq .nil (.seq .nil (.block (.loop [1, 2, 3, 10, 11] [] [] (some []) (.blockJ [1, 2, 3, 10, 11] [] [] (some []) (.seq .nil (.seq (.seq .nil (.cond (.seq .nil .nil) .nil)) (.seq (.seq .nil (.cond (.seq .nil .nil) .nil)) (.seq (.seq .nil (.condJ [3] [] [] none (.seq .nil .nil) .nil)) (.seq .nil (.seq (.seq .nil (.condJ [13, 14] [] [] none (.seq .nil (.seq .nil .nil)) .nil)) (.seq (.seq .nil (.condJ [] [] [] (some []) (.seq .nil (.cond .nil .nil)) .nil)) (.seq (.seq (.draw [0, 1, 2, 3, 4, 5, 6, 7, 8, 9, 10, 11, 12, 13, 14, 15, 16]) (.cond (.seq .nil (.seq .nil .nil)) .nil)) (.seq .nil (.seq .nil (.seq .nil (.seq .nil (.seq .nil (.condJ [1, 2, 10] [] [] none (.seq .nil (.seq .nil .nil)) (.seq .nil (.seq .nil .nil)))))))))))))))))))))
abbrev T89 (F92 F93 F94 F95 F96 F97 F98 F99 : List Value → M Value) : FT := [(92, F92), (93, F93), (94, F94), (95, F95), (96, F96), (97, F97), (98, F98), (99, F99)]
noncomputable abbrev GT89 : FT := T89 f92 f93 f94 f95 f96 f97 f98 f99
theorem GT89_sum : Summs Go.Proofs.Tryd.prog GT89 := summs_cons f92_sum (summs_cons f93_sum (summs_cons f94_sum (summs_cons f95_sum (summs_cons f96_sum (summs_cons f97_sum (summs_cons f98_sum (summs_cons f99_sum (summs_nil))))))))
def b89_p0 (F92 F93 F94 F95 F96 F97 F98 F99 : List Value → M Value) (a0 : Value) (vs_1 : List Value) (vs_19 : List Value) (a4 : Value) (t23_2 : Value) (vs_10 : List Value) : M J :=
    M.bind (F99 [a0, (nth vs_1 0), (nth vs_1 1), (nth vs_19 0), a4]) fun t111_44 =>
    M.bind (extr 0 t111_44) fun t112_45 =>
    M.bind (extr 1 t111_44) fun t113_46 =>
    M.bind (bin (.cell .int) .sub t112_45 (nth vs_1 0)) fun t117_47 =>
    M.bind (bin (.cell .int) .sub (nth vs_1 1) t112_45) fun t120_48 =>
    M.bind (bin (.cell .int) .quo t23_2 (Go.Value.int Go.IntKind.i64 8)) fun t122_49 =>
    M.bind (bin (.cell .int) .lss t117_47 t120_48) fun t125_50 =>
    M.bind (condM t125_50 (
    M.bind (bin (.cell .int) .geq t117_47 t122_49) fun t128_51 =>
    M.bind (M.stuckF [a0, (nth vs_1 0), t112_45, (nth vs_10 0), a4]) fun t134_52 =>
    M.bind (bin (.cell .int) .add t112_45 (Go.Value.int Go.IntKind.i64 1)) fun t136_53 =>
    M.pure (.norm [t136_53, (nth vs_1 1), t128_51])) (
    M.bind (bin (.cell .int) .geq t120_48 t122_49) fun t139_54 =>
    M.bind (bin (.cell .int) .add t112_45 (Go.Value.int Go.IntKind.i64 1)) fun t142_55 =>
    M.bind (M.stuckF [a0, t142_55, (nth vs_1 1), (nth vs_10 0), a4]) fun t146_56 =>
    M.pure (.norm [(nth vs_1 0), t112_45, t139_54]))) (onJ (fun vs_57 =>
    M.pure (.norm [(nth vs_57 0), (nth vs_57 1), (nth vs_10 0), (nth vs_57 2), t113_46])) (fun _ _ => M.stuck) (fun _ => M.stuck))
def b89_p1 (F92 F93 F94 F95 F96 F97 F98 F99 : List Value → M Value) (vs_1 : List Value) (a4 : Value) (a0 : Value) (vs_19 : List Value) (vs_10 : List Value) (t23_2 : Value) (vs_26 : List Value) : M J :=
    M.bind (bumpC 0) fun b_27 =>
    M.bind (bin (.cell .int) .gtr (nth vs_1 0) (Go.Value.int Go.IntKind.i64 0)) fun t82_28 =>
    M.bind (guardM true t82_28 (M.pure a4)) fun t84_29 =>
    M.bind (guardM true t82_28 (M.pure a0)) fun t85_30 =>
    M.bind (guardM true t82_28 (M.pure (nth vs_1 0))) fun t86_31 =>
    M.bind (guardM true t82_28 (bin (.cell .int) .sub t86_31 (Go.Value.int Go.IntKind.i64 1))) fun t87_32 =>
    M.bind (guardM true t82_28 (idxSl 5 t85_30 t87_32)) fun t88_33 =>
    M.bind (guardM true t82_28 (ldN 5 t88_33)) fun t89_34 =>
    M.bind (guardM true t82_28 (M.pure a0)) fun t90_35 =>
    M.bind (guardM true t82_28 (M.pure (nth vs_19 0))) fun t91_36 =>
    M.bind (guardM true t82_28 (idxSl 5 t90_35 t91_36)) fun t92_37 =>
    M.bind (guardM true t82_28 (ldN 5 t92_37)) fun t93_38 =>
    M.bind (guardM true t82_28 (callV (T89 F92 F93 F94 F95 F96 F97 F98 F99) t84_29 [t89_34, t93_38])) fun t94_39 =>
    M.bind (guardM true t82_28 (bin (.cell .int) .lss t94_39 (Go.Value.int Go.IntKind.i64 0))) fun t95_40 =>
    M.bind (guardM true t82_28 (un .not t95_40)) fun t96_41 =>
    M.bind (pick t82_28 t96_41 (Go.Value.bool false)) fun t97_42 =>
    condM t97_42 (
    M.bind (F98 [a0, (nth vs_1 0), (nth vs_1 1), (nth vs_19 0), a4]) fun t103_43 =>
    M.pure (.norm [t103_43, (nth vs_1 1), (nth vs_10 0), (nth vs_1 3), (nth vs_1 4)])) (
    b89_p0 F92 F93 F94 F95 F96 F97 F98 F99 a0 vs_1 vs_19 a4 t23_2 vs_10)
def b89_p2 (F92 F93 F94 F95 F96 F97 F98 F99 : List Value → M Value) (vs_1 : List Value) (a0 : Value) (a4 : Value) (vs_10 : List Value) (t23_2 : Value) (vs_19 : List Value) : M J :=
    M.bind (guardM true (nth vs_1 3) (M.pure (nth vs_1 4))) fun t70_20 =>
    M.bind (pick (nth vs_1 3) t70_20 (Go.Value.bool false)) fun t71_21 =>
    M.bind (guardM true t71_21 (M.pure (nth vs_19 1))) fun t73_22 =>
    M.bind (guardM true t71_21 (bin (.cell .int) .eql t73_22 (Go.Value.int Go.IntKind.i64 1))) fun t74_23 =>
    M.bind (pick t71_21 t74_23 (Go.Value.bool false)) fun t75_24 =>
    M.bind (condM t75_24 (
    M.bind (F97 [a0, (nth vs_1 0), (nth vs_1 1), a4]) fun t80_25 =>
    condM t80_25 (
    M.pure (.ret [])) (
    M.pure (.norm []))) (
    M.pure (.norm []))) (onJ (b89_p1 F92 F93 F94 F95 F96 F97 F98 F99 vs_1 a4 a0 vs_19 vs_10 t23_2) (fun _ _ => M.stuck) (fun vs_26 =>
    M.pure (.ret [])))
def b89_p3 (F92 F93 F94 F95 F96 F97 F98 F99 : List Value → M Value) (a0 : Value) (vs_1 : List Value) (a4 : Value) (t23_2 : Value) (vs_10 : List Value) : M J :=
    M.bind (F95 [a0, (nth vs_1 0), (nth vs_1 1), a4]) fun t52_11 =>
    M.bind (extr 0 t52_11) fun t53_12 =>
    M.bind (extr 1 t52_11) fun t54_13 =>
    M.bind (bin (.cell .int) .eql t54_13 (Go.Value.int Go.IntKind.i64 2)) fun t56_14 =>
    M.bind (condM t56_14 (
    M.bind (F96 [a0, (nth vs_1 0), (nth vs_1 1), a4]) fun t61_15 =>
    M.bind (bin (.cell .int) .sub (nth vs_1 1) (Go.Value.int Go.IntKind.i64 1)) fun t63_16 =>
    M.bind (bin (.cell .int) .sub t53_12 (nth vs_1 0)) fun t66_17 =>
    M.bind (bin (.cell .int) .sub t63_16 t66_17) fun t67_18 =>
    M.pure (.norm [t67_18, (Go.Value.int Go.IntKind.i64 1)])) (
    M.pure (.norm [t53_12, t54_13]))) (onJ (b89_p2 F92 F93 F94 F95 F96 F97 F98 F99 vs_1 a0 a4 vs_10 t23_2) (fun _ _ => M.stuck) (fun _ => M.stuck))
def b89_p4 (F92 F93 F94 F95 F96 F97 F98 F99 : List Value → M Value) (a0 : Value) (a4 : Value) (vs_1 : List Value) : M J :=
    M.bind (M.bind (bin (.cell .int) .sub (nth vs_1 1) (nth vs_1 0)) fun t23_2 =>
    M.bind (bin (.cell .int) .leq t23_2 (Go.Value.int Go.IntKind.i64 12)) fun t25_3 =>
    condM t25_3 (
    M.bind (F92 [a0, (nth vs_1 0), (nth vs_1 1), a4]) fun t30_4 =>
    M.pure (.ret [])) (
    M.bind (bin (.cell .int) .eql (nth vs_1 2) (Go.Value.int Go.IntKind.i64 0)) fun t32_5 =>
    condM t32_5 (
    M.bind (F93 [a0, (nth vs_1 0), (nth vs_1 1), a4]) fun t37_6 =>
    M.pure (.ret [])) (
    M.bind (un .not (nth vs_1 3)) fun t39_7 =>
    M.bind (condM t39_7 (
    M.bind (F94 [a0, (nth vs_1 0), (nth vs_1 1), a4]) fun t44_8 =>
    M.bind (bin (.cell .int) .sub (nth vs_1 2) (Go.Value.int Go.IntKind.i64 1)) fun t46_9 =>
    M.pure (.norm [t46_9])) (
    M.pure (.norm [(nth vs_1 2)]))) (onJ (b89_p3 F92 F93 F94 F95 F96 F97 F98 F99 a0 vs_1 a4 t23_2) (fun _ _ => M.stuck) (fun _ => M.stuck))))) (onJ (fun vs_58 =>
    M.pure (.norm [(nth vs_58 0), (nth vs_58 1), (nth vs_58 2), (nth vs_58 3), (nth vs_58 4)])) (fun _ _ => M.stuck) (fun vs_58 =>
    M.pure (.ret [])))
def b89 (F92 F93 F94 F95 F96 F97 F98 F99 : List Value → M Value) : Value → Value → Value → Value → Value → M Value := fun a0 a1 a2 a3 a4 =>

    M.bind (loopM (b89_p4 F92 F93 F94 F95 F96 F97 F98 F99 a0 a4) [a1, a2, a3, (Go.Value.bool true), (Go.Value.bool true)]) (onJ (fun _ => M.stuck) (fun _ _ => M.stuck) (fun vs_59 =>
    M.pure (.tuple #[])))
noncomputable def k89 : Value → Value → Value → Value → Value → M Value := b89 f92 f93 f94 f95 f96 f97 f98 f99
noncomputable def f89 : List Value → M Value := ar5 k89
theorem b89_eq (F92 F93 F94 F95 F96 F97 F98 F99 : List Value → M Value) (a0 a1 a2 a3 a4 : Value) : b89 F92 F93 F94 F95 F96 F97 F98 F99 a0 a1 a2 a3 a4 = execFn TTab (T89 F92 F93 F94 F95 F96 F97 F98 F99) Go.Proofs.Tryd.f89 h89 [a0, a1, a2, a3, a4] := by kernel_rfl
theorem k89_eq (a0 a1 a2 a3 a4 : Value) : k89 a0 a1 a2 a3 a4 = execFn TTab GT89 Go.Proofs.Tryd.f89 h89 [a0, a1, a2, a3, a4] := b89_eq f92 f93 f94 f95 f96 f97 f98 f99 a0 a1 a2 a3 a4
theorem f89_sum : Summ Go.Proofs.Tryd.prog 89 f89 := summ_of_exec tok GT89_sum (draw_sound tok GT89_sum mixed) Go.Proofs.Tryd.func89 (by kernel_rfl) rfl h89 (ar5_eq k89_eq)
/-- slices.SortFunc[[]mailcoach/api.Line,mailcoach/api.Line] -/
def h82 : Hint := (.seq .nil .nil)
abbrev T82 (F89 F90 : List Value → M Value) : FT := [(89, F89), (90, F90)]
noncomputable abbrev GT82 : FT := T82 f89 f90
theorem GT82_sum : Summs Go.Proofs.Tryd.prog GT82 := summs_cons f89_sum (summs_cons f90_sum (summs_nil))
def b82 (F89 F90 : List Value → M Value) : Value → Value → M Value := fun a0 a1 =>

    M.bind (lenSl a0) fun t6_1 =>
    M.bind (bump 1) fun b_2 =>
    M.bind (cvInt .u64 t6_1) fun t10_3 =>
    M.bind (F90 [t10_3]) fun t11_4 =>
    M.bind (F89 [a0, (Go.Value.int Go.IntKind.i64 0), t6_1, t11_4, a1]) fun t13_5 =>
    M.pure (.tuple #[])
noncomputable def k82 : Value → Value → M Value := b82 f89 f90
noncomputable def f82 : List Value → M Value := ar2 k82
theorem b82_eq (F89 F90 : List Value → M Value) (a0 a1 : Value) : b82 F89 F90 a0 a1 = execFn TTab (T82 F89 F90) Go.Proofs.Tryd.f82 h82 [a0, a1] := by kernel_rfl
theorem k82_eq (a0 a1 : Value) : k82 a0 a1 = execFn TTab GT82 Go.Proofs.Tryd.f82 h82 [a0, a1] := b82_eq f89 f90 a0 a1
theorem f82_sum : Summ Go.Proofs.Tryd.prog 82 f82 := summ_of_exec tok GT82_sum (draw_sound tok GT82_sum mixed) Go.Proofs.Tryd.func82 (by kernel_rfl) rfl h82 (ar2_eq k82_eq)
/-- slices.SortedFunc[mailcoach/api.Line] -/
def h71 : Hint := (.seq .nil (.seq .nil (.seq .nil (.seq .nil .nil))))
abbrev T71 (F81 F82 : List Value → M Value) : FT := [(81, F81), (82, F82)]
noncomputable abbrev GT71 : FT := T71 f81 f82
theorem GT71_sum : Summs Go.Proofs.Tryd.prog GT71 := summs_cons f81_sum (summs_cons f82_sum (summs_nil))
def b71 (F81 F82 : List Value → M Value) : Value → Value → M Value := fun a0 a1 =>

    M.bind (F81 [a0]) fun t7_1 =>
    M.bind (F82 [t7_1, a1]) fun t10_2 =>
    M.pure t7_1
noncomputable def k71 : Value → Value → M Value := b71 f81 f82
noncomputable def f71 : List Value → M Value := ar2 k71
theorem b71_eq (F81 F82 : List Value → M Value) (a0 a1 : Value) : b71 F81 F82 a0 a1 = execFn TTab (T71 F81 F82) Go.Proofs.Tryd.f71 h71 [a0, a1] := by kernel_rfl
theorem k71_eq (a0 a1 : Value) : k71 a0 a1 = execFn TTab GT71 Go.Proofs.Tryd.f71 h71 [a0, a1] := b71_eq f81 f82 a0 a1
theorem f71_sum : Summ Go.Proofs.Tryd.prog 71 f71 := summ_of_exec tok GT71_sum (draw_sound tok GT71_sum mixed) Go.Proofs.Tryd.func71 (by kernel_rfl) rfl h71 (ar2_eq k71_eq)
/-- maps.Values[map[string]mailcoach/api.Line,string,mailcoach/api.Line] -/
def h72 : Hint := (.seq .nil (.seq .nil .nil))
abbrev T72 : FT := []
noncomputable abbrev GT72 : FT := T72 
theorem GT72_sum : Summs Go.Proofs.Tryd.prog GT72 := summs_nil
def b72 : Value → M Value := fun a0 =>

    M.bind (bump 1) fun b_1 =>
    M.bind (newCells b_1 (Value.cells a0).toList 145) fun t1_2 =>
    M.bind (M.pure (.func (Go.Fn.func 83) #[] #[t1_2])) fun t3_3 =>
    M.pure t3_3
noncomputable def k72 : Value → M Value := b72 
noncomputable def f72 : List Value → M Value := ar1 k72
theorem b72_eq (a0 : Value) : b72  a0 = execFn TTab (T72 ) Go.Proofs.Tryd.f72 h72 [a0] := by kernel_rfl
theorem k72_eq (a0 : Value) : k72 a0 = execFn TTab GT72 Go.Proofs.Tryd.f72 h72 [a0] := b72_eq  a0
theorem f72_sum : Summ Go.Proofs.Tryd.prog 72 f72 := summ_of_exec tok GT72_sum (draw_sound tok GT72_sum mixed) Go.Proofs.Tryd.func72 (by kernel_rfl) rfl h72 (ar1_eq k72_eq)
/-- cmp.isNaN[string] -/
def h84 : Hint := (.seq .nil (.seq .nil .nil))
abbrev T84 : FT := []
noncomputable abbrev GT84 : FT := T84 
theorem GT84_sum : Summs Go.Proofs.Tryd.prog GT84 := summs_nil
def b84 : Value → M Value := fun a0 =>

    M.bind (bin (.cell .str) .neq a0 a0) fun t5_1 =>
    M.pure t5_1
noncomputable def k84 : Value → M Value := b84 
noncomputable def f84 : List Value → M Value := ar1 k84
theorem b84_eq (a0 : Value) : b84  a0 = execFn TTab (T84 ) Go.Proofs.Tryd.f84 h84 [a0] := by kernel_rfl
theorem k84_eq (a0 : Value) : k84 a0 = execFn TTab GT84 Go.Proofs.Tryd.f84 h84 [a0] := b84_eq  a0
theorem f84_sum : Summ Go.Proofs.Tryd.prog 84 f84 := summ_of_exec tok GT84_sum (draw_sound tok GT84_sum mixed) Go.Proofs.Tryd.func84 (by kernel_rfl) rfl h84 (ar1_eq k84_eq)
/-- cmp.Compare[string] -/
def h74 : Hint := (.seq .nil (.seq .nil (.seq .nil (.seq (.seq .nil (.cond (.seq (.seq .nil (.cond (.seq .nil .nil) .nil)) (.seq .nil .nil)) .nil)) (.seq (.seq .nil (.cond (.seq .nil .nil) .nil)) (.seq (.seq .nil (.cond (.seq .nil .nil) .nil)) (.seq (.seq .nil (.cond (.seq .nil .nil) .nil)) (.seq .nil .nil))))))))
abbrev T74 (F84 : List Value → M Value) : FT := [(84, F84)]
noncomputable abbrev GT74 : FT := T74 f84
theorem GT74_sum : Summs Go.Proofs.Tryd.prog GT74 := summs_cons f84_sum (summs_nil)
def b74 (F84 : List Value → M Value) : Value → Value → M Value := fun a0 a1 =>

    M.bind (F84 [a0]) fun t8_1 =>
    M.bind (F84 [a1]) fun t10_2 =>
    condM t8_1 (
    condM t10_2 (
    M.pure (Go.Value.int Go.IntKind.i64 0)) (
    M.pure (Go.Value.int Go.IntKind.i64 (-1)))) (
    condM t10_2 (
    M.pure (Go.Value.int Go.IntKind.i64 1)) (
    M.bind (bin (.cell .str) .lss a0 a1) fun t16_3 =>
    condM t16_3 (
    M.pure (Go.Value.int Go.IntKind.i64 (-1))) (
    M.bind (bin (.cell .str) .gtr a0 a1) fun t19_4 =>
    condM t19_4 (
    M.pure (Go.Value.int Go.IntKind.i64 1)) (
    M.pure (Go.Value.int Go.IntKind.i64 0)))))
noncomputable def k74 : Value → Value → M Value := b74 f84
noncomputable def f74 : List Value → M Value := ar2 k74
theorem b74_eq (F84 : List Value → M Value) (a0 a1 : Value) : b74 F84 a0 a1 = execFn TTab (T74 F84) Go.Proofs.Tryd.f74 h74 [a0, a1] := by kernel_rfl
theorem k74_eq (a0 a1 : Value) : k74 a0 a1 = execFn TTab GT74 Go.Proofs.Tryd.f74 h74 [a0, a1] := b74_eq f84 a0 a1
theorem f74_sum : Summ Go.Proofs.Tryd.prog 74 f74 := summ_of_exec tok GT74_sum (draw_sound tok GT74_sum mixed) Go.Proofs.Tryd.func74 (by kernel_rfl) rfl h74 (ar2_eq k74_eq)
/-- (*mailcoach/dedup.Table).All$1 -/
def h73 : Hint := (.seq .nil (.seq .nil .nil))
abbrev T73 (F74 : List Value → M Value) : FT := [(74, F74)]
noncomputable abbrev GT73 : FT := T73 f74
theorem GT73_sum : Summs Go.Proofs.Tryd.prog GT73 := summs_cons f74_sum (summs_nil)
def b73 (F74 : List Value → M Value) : Value → Value → M Value := fun a0 a1 =>

    M.bind (bump 2) fun b_1 =>
    M.bind (newCells b_1 (Value.cells a0).toList 93) fun t2_2 =>
    M.bind (newCells (b_1 + 1) (Value.cells a1).toList 93) fun t3_3 =>
    M.bind (addOff 0 t2_2) fun t5_4 =>
    M.bind (ld1 t5_4) fun t6_5 =>
    M.bind (addOff 0 t3_3) fun t7_6 =>
    M.bind (ld1 t7_6) fun t8_7 =>
    M.bind (F74 [t6_5, t8_7]) fun t9_8 =>
    M.pure t9_8
noncomputable def k73 : Value → Value → M Value := b73 f74
noncomputable def f73 : List Value → M Value := ar2 k73
theorem b73_eq (F74 : List Value → M Value) (a0 a1 : Value) : b73 F74 a0 a1 = execFn TTab (T73 F74) Go.Proofs.Tryd.f73 h73 [a0, a1] := by kernel_rfl
theorem k73_eq (a0 a1 : Value) : k73 a0 a1 = execFn TTab GT73 Go.Proofs.Tryd.f73 h73 [a0, a1] := b73_eq f74 a0 a1
theorem f73_sum : Summ Go.Proofs.Tryd.prog 73 f73 := summ_of_exec tok GT73_sum (draw_sound tok GT73_sum mixed) Go.Proofs.Tryd.func73 (by kernel_rfl) rfl h73 (ar2_eq k73_eq)
/-- (*mailcoach/dedup.Table).All -/
def h49 : Hint := (.seq .nil (.seq (.seq .nil (.cond (.seq .nil .nil) .nil)) (.seq .nil .nil)))
abbrev T49 (F71 F72 F73 : List Value → M Value) : FT := [(71, F71), (72, F72), (73, F73)]
noncomputable abbrev GT49 : FT := T49 f71 f72 f73
theorem GT49_sum : Summs Go.Proofs.Tryd.prog GT49 := summs_cons f71_sum (summs_cons f72_sum (summs_cons f73_sum (summs_nil)))
def b49 (F71 F72 F73 : List Value → M Value) : Value → M Value := fun a0 =>

    M.bind (bin .ptr .eql a0 (Go.Value.pointer none)) fun t4_1 =>
    condM t4_1 (
    M.pure (Go.Value.slice none 0 0)) (
    M.bind (nilChk a0) fun t6_2 =>
    M.bind (addOff 0 t6_2) fun t7_3 =>
    M.bind (ld1 t7_3) fun t8_4 =>
    M.bind (F72 [t8_4]) fun t9_5 =>
    M.bind (F71 [t9_5, (.func (.func 73) #[] #[])]) fun t10_6 =>
    M.pure t10_6)
noncomputable def k49 : Value → M Value := b49 f71 f72 f73
noncomputable def f49 : List Value → M Value := ar1 k49
theorem b49_eq (F71 F72 F73 : List Value → M Value) (a0 : Value) : b49 F71 F72 F73 a0 = execFn TTab (T49 F71 F72 F73) Go.Proofs.Tryd.f49 h49 [a0] := by kernel_rfl
theorem k49_eq (a0 : Value) : k49 a0 = execFn TTab GT49 Go.Proofs.Tryd.f49 h49 [a0] := b49_eq f71 f72 f73 a0
theorem f49_sum : Summ Go.Proofs.Tryd.prog 49 f49 := summ_of_exec tok GT49_sum (draw_sound tok GT49_sum mixed) Go.Proofs.Tryd.func49 (by kernel_rfl) rfl h49 (ar1_eq k49_eq)
/-- (*mailcoach/dedup.Table).Write -/
def h43 : Hint := (.seq .nil (.seq (.seq .nil (.block (.loop [4, 12] [0] [4] none (.seq .nil (.seq (.cond .nil .nil) (.seq (.block (.seq .nil (.seq .nil (.condJ [4] [] [] none .nil .nil)))) .nil)))))) (.seq .nil (.seq .nil (.block (.loop [31] [2] [] none (.seq .nil (.seq (.cond .nil .nil) (.seq (.block (.seq .nil (.seq .nil (.seq .nil (.seq .nil .nil))))) .nil)))))))))
abbrev T43 (F20 F21 F40 F49 : List Value → M Value) : FT := [(20, F20), (21, F21), (40, F40), (49, F49)]
noncomputable abbrev GT43 : FT := T43 f20 f21 f40 f49
theorem GT43_sum : Summs Go.Proofs.Tryd.prog GT43 := summs_cons f20_sum (summs_cons f21_sum (summs_cons f40_sum (summs_cons f49_sum (summs_nil))))
def b43_p0 (F20 F21 F40 F49 : List Value → M Value) (t10_1 : Value) (vs_3 : List Value) : M J :=
    M.bind (bump 1) fun b_5 =>
    M.bind (idxSl 5 t10_1 (nth vs_3 1)) fun t14_6 =>
    M.bind (ldN 5 t14_6) fun t15_7 =>
    M.bind (newCells b_5 [.string ⟨#[]⟩, .int .u64 0, .int .u64 0, .int .u64 0, .int .u64 0] 93) fun t6_8 =>
    M.bind (stN 5 t6_8 t15_7) fun tu_9 =>
    M.bind (addOff 2 t6_8) fun t16_10 =>
    M.bind (ld1 t16_10) fun t17_11 =>
    M.bind (bin (.cell .int) .gtr t17_11 (Go.Value.int Go.IntKind.u64 0)) fun t18_12 =>
    M.bind (condM t18_12 (
    M.bind (bump 2) fun b_13 =>
    M.bind (ldN 5 t6_8) fun t20_14 =>
    M.bind (mkLitSl b_13 93 [.string ⟨#[]⟩, .int .u64 0, .int .u64 0, .int .u64 0, .int .u64 0] 1 [(0, 5, t20_14)]) fun t21_15 =>
    M.bind (app (b_13 + 1) 93 5 48 (nth vs_3 0) t21_15) fun t22_16 =>
    M.pure (.norm [t22_16])) (
    M.pure (.norm [(nth vs_3 0)]))) (onJ (fun vs_17 =>
    M.bind (bin (.cell .int) .add (nth vs_3 1) (Go.Value.int Go.IntKind.i64 1)) fun t23_18 =>
    M.pure (.norm [(nth vs_17 0), t23_18])) (fun _ _ => M.stuck) (fun _ => M.stuck))
def b43_p1 (F20 F21 F40 F49 : List Value → M Value) (t11_2 : Value) (t10_1 : Value) (vs_3 : List Value) : M J :=
    M.bind (bin (.cell .int) .lss (nth vs_3 1) t11_2) fun t13_4 =>
    condM t13_4 (
    b43_p0 F20 F21 F40 F49 t10_1 vs_3) (
    M.pure (.exit 0 [(nth vs_3 0)]))
def b43_p2 (F20 F21 F40 F49 : List Value → M Value) (vs_19 : List Value) (vs_25 : List Value) (a1 : Value) : M J :=
    M.bind (bump 1) fun b_27 =>
    M.bind (idxSl 5 (nth vs_19 0) (nth vs_25 0)) fun t33_28 =>
    M.bind (ldN 5 t33_28) fun t34_29 =>
    M.bind (newCells b_27 [.string ⟨#[]⟩, .int .u64 0, .int .u64 0, .int .u64 0, .int .u64 0] 93) fun t8_30 =>
    M.bind (stN 5 t8_30 t34_29) fun tu_31 =>
    M.bind (addOff 0 t8_30) fun t36_32 =>
    M.bind (ld1 t36_32) fun t37_33 =>
    M.bind (F20 [a1, t37_33]) fun t38_34 =>
    M.bind (addOff 2 t8_30) fun t40_35 =>
    M.bind (ld1 t40_35) fun t41_36 =>
    M.bind (F21 [a1, t41_36]) fun t42_37 =>
    M.bind (addOff 3 t8_30) fun t44_38 =>
    M.bind (addOff 0 t44_38) fun t45_39 =>
    M.bind (ld1 t45_39) fun t46_40 =>
    M.bind (F21 [a1, t46_40]) fun t47_41 =>
    M.bind (addOff 3 t8_30) fun t49_42 =>
    M.bind (addOff 1 t49_42) fun t50_43 =>
    M.bind (ld1 t50_43) fun t51_44 =>
    M.bind (F21 [a1, t51_44]) fun t52_45 =>
    M.bind (bin (.cell .int) .add (nth vs_25 0) (Go.Value.int Go.IntKind.i64 1)) fun t53_46 =>
    M.pure (.norm [t53_46])
def b43_p3 (F20 F21 F40 F49 : List Value → M Value) (t30_24 : Value) (vs_19 : List Value) (a1 : Value) (vs_25 : List Value) : M J :=
    M.bind (bin (.cell .int) .lss (nth vs_25 0) t30_24) fun t32_26 =>
    condM t32_26 (
    b43_p2 F20 F21 F40 F49 vs_19 vs_25 a1) (
    M.pure (.exit 2 []))
def b43 (F20 F21 F40 F49 : List Value → M Value) : Value → Value → M Value := fun a0 a1 =>

    M.bind (F49 [a0]) fun t10_1 =>
    M.bind (lenSl t10_1) fun t11_2 =>
    M.bind (loopM (b43_p1 F20 F21 F40 F49 t11_2 t10_1) [(Go.Value.slice none 0 0), (Go.Value.int Go.IntKind.i64 0)]) (onJ (fun _ => M.stuck) (fun id_19 vs_19 =>
    cond (Nat.beq id_19 0) (
    M.bind (bump 1) fun b_20 =>
    M.bind (lenSl (nth vs_19 0)) fun t26_21 =>
    M.bind (cvInt .u8 t26_21) fun t27_22 =>
    M.bind (F40 [a1, t27_22]) fun t28_23 =>
    M.bind (lenSl (nth vs_19 0)) fun t30_24 =>
    M.bind (loopM (b43_p3 F20 F21 F40 F49 t30_24 vs_19 a1) [(Go.Value.int Go.IntKind.i64 0)]) (onJ (fun _ => M.stuck) (fun id_47 vs_47 =>
    cond (Nat.beq id_47 2) (
    M.pure (.tuple #[])) (M.stuck)) (fun _ => M.stuck))) (M.stuck)) (fun _ => M.stuck))
noncomputable def k43 : Value → Value → M Value := b43 f20 f21 f40 f49
noncomputable def f43 : List Value → M Value := ar2 k43
theorem b43_eq (F20 F21 F40 F49 : List Value → M Value) (a0 a1 : Value) : b43 F20 F21 F40 F49 a0 a1 = execFn TTab (T43 F20 F21 F40 F49) Go.Proofs.Tryd.f43 h43 [a0, a1] := by kernel_rfl
theorem k43_eq (a0 a1 : Value) : k43 a0 a1 = execFn TTab GT43 Go.Proofs.Tryd.f43 h43 [a0, a1] := b43_eq f20 f21 f40 f49 a0 a1
theorem f43_sum : Summ Go.Proofs.Tryd.prog 43 f43 := summ_of_exec tok GT43_sum (draw_sound tok GT43_sum mixed) Go.Proofs.Tryd.func43 (by kernel_rfl) rfl h43 (ar2_eq k43_eq)
/-- mailcoach/codec.Encode -/
def h15 : Hint := (.seq .nil (.seq .nil (.seq (.seq .nil (.cond (.seq .nil .nil) .nil)) (.seq .nil (.seq .nil (.seq .nil (.seq (.seq .nil (.block (.loop [43] [0] [] none (.seq .nil (.seq (.cond .nil .nil) (.seq (.block (.seq .nil (.seq .nil (.seq .nil .nil)))) .nil)))))) (.seq .nil (.seq (.seq .nil (.block (.loop [70] [2] [] none (.seq .nil (.seq (.cond .nil .nil) (.seq (.block (.seq .nil (.seq .nil (.seq .nil .nil)))) .nil)))))) (.seq .nil (.seq (.seq .nil (.seq .nil (.cond (.seq .nil .nil) .nil))) (.seq .nil .nil))))))))))))
abbrev T15 (F20 F21 F23 F37 F38 F39 F40 F41 F42 F43 : List Value → M Value) : FT := [(20, F20), (21, F21), (23, F23), (37, F37), (38, F38), (39, F39), (40, F40), (41, F41), (42, F42), (43, F43)]
noncomputable abbrev GT15 : FT := T15 f20 f21 f23 f37 f38 f39 f40 f41 f42 f43
theorem GT15_sum : Summs Go.Proofs.Tryd.prog GT15 := summs_cons f20_sum (summs_cons f21_sum (summs_cons f23_sum (summs_cons f37_sum (summs_cons f38_sum (summs_cons f39_sum (summs_cons f40_sum (summs_cons f41_sum (summs_cons f42_sum (summs_cons f43_sum (summs_nil))))))))))
def b15_p0 (F20 F21 F23 F37 F38 F39 F40 F41 F42 F43 : List Value → M Value) (t41_30 : Value) (vs_32 : List Value) (t26_15 : Value) : M J :=
    M.bind (bump 1) fun b_34 =>
    M.bind (idxSl 3 t41_30 (nth vs_32 0)) fun t45_35 =>
    M.bind (ldN 3 t45_35) fun t46_36 =>
    M.bind (newCells b_34 [.int .u64 0, .bool false, .int .u64 0] 96) fun t8_37 =>
    M.bind (stN 3 t8_37 t46_36) fun tu_38 =>
    M.bind (addOff 0 t8_37) fun t48_39 =>
    M.bind (ld1 t48_39) fun t49_40 =>
    M.bind (F21 [t26_15, t49_40]) fun t50_41 =>
    M.bind (addOff 1 t8_37) fun t52_42 =>
    M.bind (ld1 t52_42) fun t53_43 =>
    M.bind (F41 [t53_43]) fun t54_44 =>
    M.bind (F40 [t26_15, t54_44]) fun t55_45 =>
    M.bind (addOff 2 t8_37) fun t57_46 =>
    M.bind (ld1 t57_46) fun t58_47 =>
    M.bind (F21 [t26_15, t58_47]) fun t59_48 =>
    M.bind (bin (.cell .int) .add (nth vs_32 0) (Go.Value.int Go.IntKind.i64 1)) fun t60_49 =>
    M.pure (.norm [t60_49])
def b15_p1 (F20 F21 F23 F37 F38 F39 F40 F41 F42 F43 : List Value → M Value) (t42_31 : Value) (t41_30 : Value) (t26_15 : Value) (vs_32 : List Value) : M J :=
    M.bind (bin (.cell .int) .lss (nth vs_32 0) t42_31) fun t44_33 =>
    condM t44_33 (
    b15_p0 F20 F21 F23 F37 F38 F39 F40 F41 F42 F43 t41_30 vs_32 t26_15) (
    M.pure (.exit 0 []))
def b15_p2 (F20 F21 F23 F37 F38 F39 F40 F41 F42 F43 : List Value → M Value) (t68_58 : Value) (vs_60 : List Value) (t26_15 : Value) : M J :=
    M.bind (bump 1) fun b_62 =>
    M.bind (idxSl 5 t68_58 (nth vs_60 0)) fun t72_63 =>
    M.bind (ldN 5 t72_63) fun t73_64 =>
    M.bind (newCells b_62 [.string ⟨#[]⟩, .int .u8 0, .int .u64 0, .int .u64 0, .slice none 0 0] 88) fun t10_65 =>
    M.bind (stN 5 t10_65 t73_64) fun tu_66 =>
    M.bind (addOff 0 t10_65) fun t75_67 =>
    M.bind (ld1 t75_67) fun t76_68 =>
    M.bind (F20 [t26_15, t76_68]) fun t77_69 =>
    M.bind (addOff 1 t10_65) fun t79_70 =>
    M.bind (ld1 t79_70) fun t80_71 =>
    M.bind (F40 [t26_15, t80_71]) fun t81_72 =>
    M.bind (addOff 2 t10_65) fun t83_73 =>
    M.bind (ldN 3 t83_73) fun t84_74 =>
    M.bind (F42 [t26_15, t84_74]) fun t85_75 =>
    M.bind (bin (.cell .int) .add (nth vs_60 0) (Go.Value.int Go.IntKind.i64 1)) fun t86_76 =>
    M.pure (.norm [t86_76])
def b15_p3 (F20 F21 F23 F37 F38 F39 F40 F41 F42 F43 : List Value → M Value) (t69_59 : Value) (t68_58 : Value) (t26_15 : Value) (vs_60 : List Value) : M J :=
    M.bind (bin (.cell .int) .lss (nth vs_60 0) t69_59) fun t71_61 =>
    condM t71_61 (
    b15_p2 F20 F21 F23 F37 F38 F39 F40 F41 F42 F43 t68_58 vs_60 t26_15) (
    M.pure (.exit 2 []))
def b15_p4 (F20 F21 F23 F37 F38 F39 F40 F41 F42 F43 : List Value → M Value) (t1_2 : Value) (t26_15 : Value) (t16_6 : Value) : M Value :=
    M.bind (bump 1) fun b_51 =>
    M.bind (addOff 3 t1_2) fun t62_52 =>
    M.bind (ld1 t62_52) fun t63_53 =>
    M.bind (lenSl t63_53) fun t64_54 =>
    M.bind (cvInt .u8 t64_54) fun t65_55 =>
    M.bind (F40 [t26_15, t65_55]) fun t66_56 =>
    M.bind (addOff 3 t1_2) fun t67_57 =>
    M.bind (ld1 t67_57) fun t68_58 =>
    M.bind (lenSl t68_58) fun t69_59 =>
    M.bind (loopM (b15_p3 F20 F21 F23 F37 F38 F39 F40 F41 F42 F43 t69_59 t68_58 t26_15) [(Go.Value.int Go.IntKind.i64 0)]) (onJ (fun _ => M.stuck) (fun id_77 vs_77 =>
    cond (Nat.beq id_77 2) (
    M.bind (F43 [t16_6, t26_15]) fun t89_78 =>
    M.bind (F23 [t26_15]) fun t91_79 =>
    M.bind (lenSl t91_79) fun t93_80 =>
    M.bind (bin (.cell .int) .leq t93_80 (Go.Value.int Go.IntKind.i64 3840)) fun t94_81 =>
    condM t94_81 (
    M.pure (.tuple #[t91_79, (Go.Value.int Go.IntKind.i64 0)])) (
    M.pure (.tuple #[(Go.Value.slice none 0 0), (Go.Value.int Go.IntKind.i64 3)]))) (M.stuck)) (fun _ => M.stuck))
def b15_p5 (F20 F21 F23 F37 F38 F39 F40 F41 F42 F43 : List Value → M Value) (t1_2 : Value) (t16_6 : Value) : M Value :=
    M.bind (bump 1) fun b_13 =>
    M.bind (mkAgg [.slice none 0 0] []) fun t25_14 =>
    M.bind (newCells b_13 (Value.cells t25_14).toList 66) fun t26_15 =>
    M.bind (bump 1) fun b_16 =>
    M.bind (addOff 0 t1_2) fun t28_17 =>
    M.bind (ld1 t28_17) fun t29_18 =>
    M.bind (addOff 1 t1_2) fun t30_19 =>
    M.bind (ld1 t30_19) fun t31_20 =>
    M.bind (mkLitSl b_16 22 [.int .u64 0] 2 [(0, 1, t29_18), (1, 1, t31_20)]) fun t32_21 =>
    M.bind (F39 [t26_15, t32_21]) fun t33_22 =>
    M.bind (bump 1) fun b_23 =>
    M.bind (addOff 2 t1_2) fun t35_24 =>
    M.bind (ld1 t35_24) fun t36_25 =>
    M.bind (lenSl t36_25) fun t37_26 =>
    M.bind (cvInt .u8 t37_26) fun t38_27 =>
    M.bind (F40 [t26_15, t38_27]) fun t39_28 =>
    M.bind (addOff 2 t1_2) fun t40_29 =>
    M.bind (ld1 t40_29) fun t41_30 =>
    M.bind (lenSl t41_30) fun t42_31 =>
    M.bind (loopM (b15_p1 F20 F21 F23 F37 F38 F39 F40 F41 F42 F43 t42_31 t41_30 t26_15) [(Go.Value.int Go.IntKind.i64 0)]) (onJ (fun _ => M.stuck) (fun id_50 vs_50 =>
    cond (Nat.beq id_50 0) (
    b15_p4 F20 F21 F23 F37 F38 F39 F40 F41 F42 F43 t1_2 t26_15 t16_6) (M.stuck)) (fun _ => M.stuck))
def b15 (F20 F21 F23 F37 F38 F39 F40 F41 F42 F43 : List Value → M Value) : Value → M Value := fun a0 =>

    M.bind (bump 1) fun b_1 =>
    M.bind (newCells b_1 (Value.cells a0).toList 43) fun t1_2 =>
    M.bind (addOff 4 t1_2) fun t13_3 =>
    M.bind (ld1 t13_3) fun t14_4 =>
    M.bind (F37 [t14_4]) fun t15_5 =>
    M.bind (extr 0 t15_5) fun t16_6 =>
    M.bind (extr 1 t15_5) fun t17_7 =>
    M.bind (un .not t17_7) fun t19_8 =>
    M.bind (guardM false t19_8 (ldN 5 t1_2)) fun t21_9 =>
    M.bind (guardM false t19_8 (F38 [t21_9])) fun t22_10 =>
    M.bind (guardM false t19_8 (un .not t22_10)) fun t23_11 =>
    M.bind (pick t19_8 (Go.Value.bool true) t23_11) fun t24_12 =>
    condM t24_12 (
    M.pure (.tuple #[(Go.Value.slice none 0 0), (Go.Value.int Go.IntKind.i64 23)])) (
    b15_p5 F20 F21 F23 F37 F38 F39 F40 F41 F42 F43 t1_2 t16_6)
noncomputable def k15 : Value → M Value := b15 f20 f21 f23 f37 f38 f39 f40 f41 f42 f43
noncomputable def f15 : List Value → M Value := ar1 k15
theorem b15_eq (F20 F21 F23 F37 F38 F39 F40 F41 F42 F43 : List Value → M Value) (a0 : Value) : b15 F20 F21 F23 F37 F38 F39 F40 F41 F42 F43 a0 = execFn TTab (T15 F20 F21 F23 F37 F38 F39 F40 F41 F42 F43) Go.Proofs.Tryd.f15 h15 [a0] := by kernel_rfl
theorem k15_eq (a0 : Value) : k15 a0 = execFn TTab GT15 Go.Proofs.Tryd.f15 h15 [a0] := b15_eq f20 f21 f23 f37 f38 f39 f40 f41 f42 f43 a0
theorem f15_sum : Summ Go.Proofs.Tryd.prog 15 f15 := summ_of_exec tok GT15_sum (draw_sound tok GT15_sum mixed) Go.Proofs.Tryd.func15 (by kernel_rfl) rfl h15 (ar1_eq k15_eq)
/-- mailcoach/codec.numbers -/
def h54 : Hint := (.seq .nil (.seq (.draw [0, 1, 2, 3, 4, 5, 6, 7, 8, 9, 10, 11, 12, 13, 14, 15, 16, 17, 18, 19, 20, 21, 22, 23, 24]) .nil))
abbrev T54 : FT := []
noncomputable abbrev GT54 : FT := T54 
theorem GT54_sum : Summs Go.Proofs.Tryd.prog GT54 := summs_nil
def b54 : Value → M Value := fun a0 =>

    M.bind (bumpC 1) fun b_1 =>
    M.bind (nilChk a0) fun t4_2 =>
    M.bind (addOff 4 t4_2) fun t5_3 =>
    M.bind (nilChk a0) fun t7_4 =>
    M.bind (addOff 5 t7_4) fun t8_5 =>
    M.bind (nilChk a0) fun t10_6 =>
    M.bind (addOff 6 t10_6) fun t11_7 =>
    M.bind (nilChk a0) fun t13_8 =>
    M.bind (addOff 7 t13_8) fun t14_9 =>
    M.bind (nilChk a0) fun t16_10 =>
    M.bind (addOff 8 t16_10) fun t17_11 =>
    M.bind (nilChk a0) fun t19_12 =>
    M.bind (addOff 9 t19_12) fun t20_13 =>
    M.bind (addOff 0 t20_13) fun t21_14 =>
    M.bind (nilChk a0) fun t23_15 =>
    M.bind (addOff 9 t23_15) fun t24_16 =>
    M.bind (addOff 1 t24_16) fun t25_17 =>
    M.bind (mkLitSl b_1 118 [.pointer none] 7 [(0, 1, t5_3), (1, 1, t8_5), (2, 1, t11_7), (3, 1, t14_9), (4, 1, t17_11), (5, 1, t21_14), (6, 1, t25_17)]) fun t26_18 =>
    M.pure t26_18
noncomputable def k54 : Value → M Value := b54 
noncomputable def f54 : List Value → M Value := ar1 k54
theorem b54_eq (a0 : Value) : b54  a0 = execFn TTab (T54 ) Go.Proofs.Tryd.f54 h54 [a0] := by kernel_rfl
theorem k54_eq (a0 : Value) : k54 a0 = execFn TTab GT54 Go.Proofs.Tryd.f54 h54 [a0] := b54_eq  a0
theorem f54_sum : Summ Go.Proofs.Tryd.prog 54 f54 := summ_of_exec tok GT54_sum (draw_sound tok GT54_sum mixed) Go.Proofs.Tryd.func54 (by kernel_rfl) rfl h54 (ar1_eq k54_eq)
/-- mailcoach/codec.Tell -/
def h18 : Hint := (.seq .nil (.seq .nil (.seq .nil (.seq .nil (.seq .nil (.seq .nil (.seq .nil (.seq (.seq .nil (.block (.loop [37] [0] [] none (.seq .nil (.seq (.cond .nil .nil) (.seq (.block (.seq .nil .nil)) .nil)))))) (.seq (.seq .nil (.block (.loop [53] [2] [] none (.seq .nil (.seq (.cond .nil .nil) (.seq (.block (.seq .nil .nil)) .nil)))))) (.seq .nil (.seq .nil (.seq (.seq .nil (.block (.loop [74] [4] [] none (.seq .nil (.seq (.cond .nil .nil) (.seq (.block (.seq .nil (.seq .nil .nil))) .nil)))))) (.seq .nil (.block (.seq .nil (.cond (.seq .nil .nil) (.seq .nil (.cond (.seq .nil .nil) (.seq .nil .nil)))))))))))))))))))
abbrev T18 (F20 F21 F22 F23 F40 F41 F54 F55 : List Value → M Value) : FT := [(20, F20), (21, F21), (22, F22), (23, F23), (40, F40), (41, F41), (54, F54), (55, F55)]
noncomputable abbrev GT18 : FT := T18 f20 f21 f22 f23 f40 f41 f54 f55
theorem GT18_sum : Summs Go.Proofs.Tryd.prog GT18 := summs_cons f20_sum (summs_cons f21_sum (summs_cons f22_sum (summs_cons f23_sum (summs_cons f40_sum (summs_cons f41_sum (summs_cons f54_sum (summs_cons f55_sum (summs_nil))))))))
def b18_p0 (F20 F21 F22 F23 F40 F41 F54 F55 : List Value → M Value) (t36_23 : Value) (t35_22 : Value) (t16_6 : Value) (vs_24 : List Value) : M J :=
    M.bind (bin (.cell .int) .lss (nth vs_24 0) t36_23) fun t38_25 =>
    condM t38_25 (
    M.bind (idxSl 1 t35_22 (nth vs_24 0)) fun t39_26 =>
    M.bind (ld1 t39_26) fun t40_27 =>
    M.bind (nilChk t40_27) fun t43_28 =>
    M.bind (ld1 t43_28) fun t44_29 =>
    M.bind (callV (T18 F20 F21 F22 F23 F40 F41 F54 F55) t16_6 [t44_29]) fun t45_30 =>
    M.bind (bin (.cell .int) .add (nth vs_24 0) (Go.Value.int Go.IntKind.i64 1)) fun t46_31 =>
    M.pure (.norm [t46_31])) (
    M.pure (.exit 0 []))
def b18_p1 (F20 F21 F22 F23 F40 F41 F54 F55 : List Value → M Value) (t52_39 : Value) (t51_38 : Value) (t14_5 : Value) (vs_40 : List Value) : M J :=
    M.bind (bin (.cell .int) .lss (nth vs_40 0) t52_39) fun t54_41 =>
    condM t54_41 (
    M.bind (idxSl 1 t51_38 (nth vs_40 0)) fun t55_42 =>
    M.bind (ld1 t55_42) fun t56_43 =>
    M.bind (F20 [t14_5, t56_43]) fun t59_44 =>
    M.bind (bin (.cell .int) .add (nth vs_40 0) (Go.Value.int Go.IntKind.i64 1)) fun t60_45 =>
    M.pure (.norm [t60_45])) (
    M.pure (.exit 2 []))
def b18_p2 (F20 F21 F22 F23 F40 F41 F54 F55 : List Value → M Value) (t72_57 : Value) (vs_59 : List Value) (t16_6 : Value) (t14_5 : Value) : M J :=
    M.bind (bump 1) fun b_61 =>
    M.bind (idxSl 2 t72_57 (nth vs_59 0)) fun t76_62 =>
    M.bind (ldN 2 t76_62) fun t77_63 =>
    M.bind (newCells b_61 [.int .u64 0, .slice none 0 0] 58) fun t11_64 =>
    M.bind (stN 2 t11_64 t77_63) fun tu_65 =>
    M.bind (addOff 0 t11_64) fun t79_66 =>
    M.bind (ld1 t79_66) fun t80_67 =>
    M.bind (callV (T18 F20 F21 F22 F23 F40 F41 F54 F55) t16_6 [t80_67]) fun t81_68 =>
    M.bind (addOff 1 t11_64) fun t83_69 =>
    M.bind (ld1 t83_69) fun t84_70 =>
    M.bind (F22 [t14_5, t84_70]) fun t85_71 =>
    M.bind (bin (.cell .int) .add (nth vs_59 0) (Go.Value.int Go.IntKind.i64 1)) fun t86_72 =>
    M.pure (.norm [t86_72])
def b18_p3 (F20 F21 F22 F23 F40 F41 F54 F55 : List Value → M Value) (t73_58 : Value) (t72_57 : Value) (t16_6 : Value) (t14_5 : Value) (vs_59 : List Value) : M J :=
    M.bind (bin (.cell .int) .lss (nth vs_59 0) t73_58) fun t75_60 =>
    condM t75_60 (
    b18_p2 F20 F21 F22 F23 F40 F41 F54 F55 t72_57 vs_59 t16_6 t14_5) (
    M.pure (.exit 4 []))
def b18_p4 (F20 F21 F22 F23 F40 F41 F54 F55 : List Value → M Value) (t14_5 : Value) (t1_2 : Value) : M Value :=
    M.bind (F23 [t14_5]) fun t88_74 =>
    M.bind (addOff 3 t1_2) fun t91_75 =>
    M.bind (ld1 t91_75) fun t92_76 =>
    M.bind (bin (.cell .int) .lss t92_76 (Go.Value.int Go.IntKind.i64 0)) fun t93_77 =>
    M.bind (guardM false t93_77 (addOff 3 t1_2)) fun t95_78 =>
    M.bind (guardM false t93_77 (ld1 t95_78)) fun t96_79 =>
    M.bind (guardM false t93_77 (bin (.cell .int) .gtr t96_79 (Go.Value.int Go.IntKind.i64 255))) fun t97_80 =>
    M.bind (pick t93_77 (Go.Value.bool true) t97_80) fun t98_81 =>
    M.bind (guardM false t98_81 (addOff 14 t1_2)) fun t100_82 =>
    M.bind (guardM false t98_81 (ld1 t100_82)) fun t101_83 =>
    M.bind (guardM false t98_81 (lenSl t101_83)) fun t102_84 =>
    M.bind (guardM false t98_81 (bin (.cell .int) .gtr t102_84 (Go.Value.int Go.IntKind.i64 65535))) fun t103_85 =>
    M.bind (pick t98_81 (Go.Value.bool true) t103_85) fun t104_86 =>
    condM t104_86 (
    M.pure (.tuple #[(Go.Value.slice none 0 0), (Go.Value.int Go.IntKind.i64 2)])) (
    M.bind (lenSl t88_74) fun t107_87 =>
    M.bind (bin (.cell .int) .gtr t107_87 (Go.Value.int Go.IntKind.i64 4096)) fun t108_88 =>
    condM t108_88 (
    M.pure (.tuple #[(Go.Value.slice none 0 0), (Go.Value.int Go.IntKind.i64 3)])) (
    M.pure (.tuple #[t88_74, (Go.Value.int Go.IntKind.i64 0)])))
def b18_p5 (F20 F21 F22 F23 F40 F41 F54 F55 : List Value → M Value) (t1_2 : Value) (t14_5 : Value) (t16_6 : Value) : M Value :=
    M.bind (addOff 13 t1_2) fun t62_47 =>
    M.bind (ld1 t62_47) fun t63_48 =>
    M.bind (F22 [t14_5, t63_48]) fun t64_49 =>
    M.bind (bump 1) fun b_50 =>
    M.bind (addOff 14 t1_2) fun t66_51 =>
    M.bind (ld1 t66_51) fun t67_52 =>
    M.bind (lenSl t67_52) fun t68_53 =>
    M.bind (cvInt .u16 t68_53) fun t69_54 =>
    M.bind (F55 [t14_5, t69_54]) fun t70_55 =>
    M.bind (addOff 14 t1_2) fun t71_56 =>
    M.bind (ld1 t71_56) fun t72_57 =>
    M.bind (lenSl t72_57) fun t73_58 =>
    M.bind (loopM (b18_p3 F20 F21 F22 F23 F40 F41 F54 F55 t73_58 t72_57 t16_6 t14_5) [(Go.Value.int Go.IntKind.i64 0)]) (onJ (fun _ => M.stuck) (fun id_73 vs_73 =>
    cond (Nat.beq id_73 4) (
    b18_p4 F20 F21 F22 F23 F40 F41 F54 F55 t14_5 t1_2) (M.stuck)) (fun _ => M.stuck))
def b18 (F20 F21 F22 F23 F40 F41 F54 F55 : List Value → M Value) : Value → M Value := fun a0 =>

    M.bind (bump 1) fun b_1 =>
    M.bind (newCells b_1 (Value.cells a0).toList 56) fun t1_2 =>
    M.bind (bump 1) fun b_3 =>
    M.bind (mkAgg [.slice none 0 0] []) fun t13_4 =>
    M.bind (newCells b_3 (Value.cells t13_4).toList 66) fun t14_5 =>
    M.bind (M.pure (.func (Go.Fn.func 21) #[t14_5] #[])) fun t16_6 =>
    M.bind (addOff 0 t1_2) fun t18_7 =>
    M.bind (ld1 t18_7) fun t19_8 =>
    M.bind (F40 [t14_5, t19_8]) fun t20_9 =>
    M.bind (addOff 1 t1_2) fun t22_10 =>
    M.bind (ld1 t22_10) fun t23_11 =>
    M.bind (F40 [t14_5, t23_11]) fun t24_12 =>
    M.bind (addOff 2 t1_2) fun t26_13 =>
    M.bind (ld1 t26_13) fun t27_14 =>
    M.bind (F41 [t27_14]) fun t28_15 =>
    M.bind (F40 [t14_5, t28_15]) fun t29_16 =>
    M.bind (bump 1) fun b_17 =>
    M.bind (addOff 3 t1_2) fun t31_18 =>
    M.bind (ld1 t31_18) fun t32_19 =>
    M.bind (cvInt .u8 t32_19) fun t33_20 =>
    M.bind (F40 [t14_5, t33_20]) fun t34_21 =>
    M.bind (F54 [t1_2]) fun t35_22 =>
    M.bind (lenSl t35_22) fun t36_23 =>
    M.bind (loopM (b18_p0 F20 F21 F22 F23 F40 F41 F54 F55 t36_23 t35_22 t16_6) [(Go.Value.int Go.IntKind.i64 0)]) (onJ (fun _ => M.stuck) (fun id_32 vs_32 =>
    cond (Nat.beq id_32 0) (
    M.bind (bump 1) fun b_33 =>
    M.bind (addOff 11 t1_2) fun t47_34 =>
    M.bind (ld1 t47_34) fun t48_35 =>
    M.bind (addOff 12 t1_2) fun t49_36 =>
    M.bind (ld1 t49_36) fun t50_37 =>
    M.bind (mkLitSl b_33 9 [.string ⟨#[]⟩] 2 [(0, 1, t48_35), (1, 1, t50_37)]) fun t51_38 =>
    M.bind (lenSl t51_38) fun t52_39 =>
    M.bind (loopM (b18_p1 F20 F21 F22 F23 F40 F41 F54 F55 t52_39 t51_38 t14_5) [(Go.Value.int Go.IntKind.i64 0)]) (onJ (fun _ => M.stuck) (fun id_46 vs_46 =>
    cond (Nat.beq id_46 2) (
    b18_p5 F20 F21 F22 F23 F40 F41 F54 F55 t1_2 t14_5 t16_6) (M.stuck)) (fun _ => M.stuck))) (M.stuck)) (fun _ => M.stuck))
noncomputable def k18 : Value → M Value := b18 f20 f21 f22 f23 f40 f41 f54 f55
noncomputable def f18 : List Value → M Value := ar1 k18
theorem b18_eq (F20 F21 F22 F23 F40 F41 F54 F55 : List Value → M Value) (a0 : Value) : b18 F20 F21 F22 F23 F40 F41 F54 F55 a0 = execFn TTab (T18 F20 F21 F22 F23 F40 F41 F54 F55) Go.Proofs.Tryd.f18 h18 [a0] := by kernel_rfl
theorem k18_eq (a0 : Value) : k18 a0 = execFn TTab GT18 Go.Proofs.Tryd.f18 h18 [a0] := b18_eq f20 f21 f22 f23 f40 f41 f54 f55 a0
theorem f18_sum : Summ Go.Proofs.Tryd.prog 18 f18 := summ_of_exec tok GT18_sum (draw_sound tok GT18_sum mixed) Go.Proofs.Tryd.func18 (by kernel_rfl) rfl h18 (ar1_eq k18_eq)
/-- (*mailcoach/pack.Reader).take -/
def h63 : Hint := (.seq .nil (.seq (.seq .nil (.cond .nil .nil)) (.seq .nil (.seq .nil (.seq .nil .nil)))))
abbrev T63 : FT := []
noncomputable abbrev GT63 : FT := T63 
theorem GT63_sum : Summs Go.Proofs.Tryd.prog GT63 := summs_nil
def b63 : Value → Value → M Value := fun a0 a1 =>

    M.bind (bump 1) fun b_1 =>
    M.bind (nilChk a0) fun t8_2 =>
    M.bind (addOff 0 t8_2) fun t9_3 =>
    M.bind (ld1 t9_3) fun t10_4 =>
    M.bind (lenSl t10_4) fun t11_5 =>
    M.bind (cvInt .u64 t11_5) fun t12_6 =>
    M.bind (bin (.cell .int) .gtr a1 t12_6) fun t13_7 =>
    condM t13_7 (
    M.bind (mkAgg [.int .i64 0] [(0, 1, (Go.Value.int Go.IntKind.i64 4))]) fun t14_8 =>
    M.bind (mkIface 131 t14_8) fun t15_9 =>
    M.bind (throwV t15_9) fun tu_10 =>
    M.bind (nilChk a0) fun t17_11 =>
    M.bind (addOff 0 t17_11) fun t18_12 =>
    M.bind (ld1 t18_12) fun t19_13 =>
    M.bind (slSl 1 t19_13 none (some a1) none) fun t21_14 =>
    M.bind (nilChk a0) fun t24_15 =>
    M.bind (addOff 0 t24_15) fun t25_16 =>
    M.bind (ld1 t25_16) fun t26_17 =>
    M.bind (slSl 1 t26_17 (some a1) none none) fun t28_18 =>
    M.bind (nilChk a0) fun t29_19 =>
    M.bind (addOff 0 t29_19) fun t30_20 =>
    M.bind (st1 t30_20 t28_18) fun tu_21 =>
    M.pure t21_14) (
    M.bind (nilChk a0) fun t17_22 =>
    M.bind (addOff 0 t17_22) fun t18_23 =>
    M.bind (ld1 t18_23) fun t19_24 =>
    M.bind (slSl 1 t19_24 none (some a1) none) fun t21_25 =>
    M.bind (nilChk a0) fun t24_26 =>
    M.bind (addOff 0 t24_26) fun t25_27 =>
    M.bind (ld1 t25_27) fun t26_28 =>
    M.bind (slSl 1 t26_28 (some a1) none none) fun t28_29 =>
    M.bind (nilChk a0) fun t29_30 =>
    M.bind (addOff 0 t29_30) fun t30_31 =>
    M.bind (st1 t30_31 t28_29) fun tu_32 =>
    M.pure t21_25)
noncomputable def k63 : Value → Value → M Value := b63 
noncomputable def f63 : List Value → M Value := ar2 k63
theorem b63_eq (a0 a1 : Value) : b63  a0 a1 = execFn TTab (T63 ) Go.Proofs.Tryd.f63 h63 [a0, a1] := by kernel_rfl
theorem k63_eq (a0 a1 : Value) : k63 a0 a1 = execFn TTab GT63 Go.Proofs.Tryd.f63 h63 [a0, a1] := b63_eq  a0 a1
theorem f63_sum : Summ Go.Proofs.Tryd.prog 63 f63 := summ_of_exec tok GT63_sum (draw_sound tok GT63_sum mixed) Go.Proofs.Tryd.func63 (by kernel_rfl) rfl h63 (ar2_eq k63_eq)
/-- (*mailcoach/pack.Reader).number -/
def h62 : Hint := (.seq .nil (.seq .nil (.seq (.seq .nil (.block (.loop [5, 12] [0] [5] none (.seq .nil (.seq (.cond .nil .nil) (.seq (.block (.seq .nil .nil)) .nil)))))) (.seq .nil .nil))))
abbrev T62 (F63 : List Value → M Value) : FT := [(63, F63)]
noncomputable abbrev GT62 : FT := T62 f63
theorem GT62_sum : Summs Go.Proofs.Tryd.prog GT62 := summs_cons f63_sum (summs_nil)
def b62 (F63 : List Value → M Value) : Value → Value → M Value := fun a0 a1 =>

    M.bind (F63 [a0, a1]) fun t10_1 =>
    M.bind (lenSl t10_1) fun t11_2 =>
    M.bind (loopM (fun vs_3 =>
    M.bind (bin (.cell .int) .lss (nth vs_3 1) t11_2) fun t13_4 =>
    condM t13_4 (
    M.bind (idxSl 1 t10_1 (nth vs_3 1)) fun t14_5 =>
    M.bind (ld1 t14_5) fun t15_6 =>
    M.bind (bump 1) fun b_7 =>
    M.bind (bin (.cell .int) .shl (nth vs_3 0) (Go.Value.int Go.IntKind.u64 8)) fun t17_8 =>
    M.bind (cvInt .u64 t15_6) fun t19_9 =>
    M.bind (bin (.cell .int) .or t17_8 t19_9) fun t20_10 =>
    M.bind (bin (.cell .int) .add (nth vs_3 1) (Go.Value.int Go.IntKind.i64 1)) fun t21_11 =>
    M.pure (.norm [t20_10, t21_11])) (
    M.pure (.exit 0 [(nth vs_3 0)]))) [(Go.Value.int Go.IntKind.u64 0), (Go.Value.int Go.IntKind.i64 0)]) (onJ (fun _ => M.stuck) (fun id_12 vs_12 =>
    cond (Nat.beq id_12 0) (
    M.pure (nth vs_12 0)) (M.stuck)) (fun _ => M.stuck))
noncomputable def k62 : Value → Value → M Value := b62 f63
noncomputable def f62 : List Value → M Value := ar2 k62
theorem b62_eq (F63 : List Value → M Value) (a0 a1 : Value) : b62 F63 a0 a1 = execFn TTab (T62 F63) Go.Proofs.Tryd.f62 h62 [a0, a1] := by kernel_rfl
theorem k62_eq (a0 a1 : Value) : k62 a0 a1 = execFn TTab GT62 Go.Proofs.Tryd.f62 h62 [a0, a1] := b62_eq f63 a0 a1
theorem f62_sum : Summ Go.Proofs.Tryd.prog 62 f62 := summ_of_exec tok GT62_sum (draw_sound tok GT62_sum mixed) Go.Proofs.Tryd.func62 (by kernel_rfl) rfl h62 (ar2_eq k62_eq)
/-- (*mailcoach/pack.Reader).Bytes -/
def h30 : Hint := (.seq .nil (.seq .nil .nil))
abbrev T30 (F59 F62 F63 : List Value → M Value) : FT := [(59, F59), (62, F62), (63, F63)]
noncomputable abbrev GT30 : FT := T30 f59 f62 f63
theorem GT30_sum : Summs Go.Proofs.Tryd.prog GT30 := summs_cons f59_sum (summs_cons f62_sum (summs_cons f63_sum (summs_nil)))
def b30 (F59 F62 F63 : List Value → M Value) : Value → M Value := fun a0 =>

    M.bind (F62 [a0, (Go.Value.int Go.IntKind.u64 4)]) fun t5_1 =>
    M.bind (F63 [a0, t5_1]) fun t6_2 =>
    M.bind (F59 [t6_2]) fun t7_3 =>
    M.pure t7_3
noncomputable def k30 : Value → M Value := b30 f59 f62 f63
noncomputable def f30 : List Value → M Value := ar1 k30
theorem b30_eq (F59 F62 F63 : List Value → M Value) (a0 : Value) : b30 F59 F62 F63 a0 = execFn TTab (T30 F59 F62 F63) Go.Proofs.Tryd.f30 h30 [a0] := by kernel_rfl
theorem k30_eq (a0 : Value) : k30 a0 = execFn TTab GT30 Go.Proofs.Tryd.f30 h30 [a0] := b30_eq f59 f62 f63 a0
theorem f30_sum : Summ Go.Proofs.Tryd.prog 30 f30 := summ_of_exec tok GT30_sum (draw_sound tok GT30_sum mixed) Go.Proofs.Tryd.func30 (by kernel_rfl) rfl h30 (ar1_eq k30_eq)
/-- unicode/utf8.word[[]byte] -/
def h76 : Hint := (.seq .nil (.seq (.cond (.seq (.draw [0, 1, 2, 3, 4, 5, 6, 7, 8, 9, 10, 11, 12, 13, 14, 15, 16, 17, 18, 19, 20, 21, 22]) .nil) .nil) (.seq (.draw [0, 1, 2, 3, 4, 5, 6, 7, 8, 9, 10, 11, 12, 13, 14, 15, 16, 17, 18, 19, 20, 21, 22, 23, 24, 25, 26, 27, 28, 29, 30, 31, 32, 33, 34, 35, 36, 37, 38, 39, 40, 41, 42, 43, 44, 45, 46]) .nil)))
abbrev T76 : FT := []
noncomputable abbrev GT76 : FT := T76 
theorem GT76_sum : Summs Go.Proofs.Tryd.prog GT76 := summs_nil
def b76_p0 (a0 : Value) : M Value :=
    M.bind (bumpC 4) fun b_1 =>
    M.bind (idxSl 1 a0 (Go.Value.int Go.IntKind.i64 0)) fun t4_2 =>
    M.bind (ld1 t4_2) fun t5_3 =>
    M.bind (cvInt .u64 t5_3) fun t6_4 =>
    M.bind (idxSl 1 a0 (Go.Value.int Go.IntKind.i64 1)) fun t8_5 =>
    M.bind (ld1 t8_5) fun t9_6 =>
    M.bind (cvInt .u64 t9_6) fun t10_7 =>
    M.bind (bin (.cell .int) .shl t10_7 (Go.Value.int Go.IntKind.u64 8)) fun t11_8 =>
    M.bind (bin (.cell .int) .or t6_4 t11_8) fun t12_9 =>
    M.bind (idxSl 1 a0 (Go.Value.int Go.IntKind.i64 2)) fun t14_10 =>
    M.bind (ld1 t14_10) fun t15_11 =>
    M.bind (cvInt .u64 t15_11) fun t16_12 =>
    M.bind (bin (.cell .int) .shl t16_12 (Go.Value.int Go.IntKind.u64 16)) fun t17_13 =>
    M.bind (bin (.cell .int) .or t12_9 t17_13) fun t18_14 =>
    M.bind (idxSl 1 a0 (Go.Value.int Go.IntKind.i64 3)) fun t20_15 =>
    M.bind (ld1 t20_15) fun t21_16 =>
    M.bind (cvInt .u64 t21_16) fun t22_17 =>
    M.bind (bin (.cell .int) .shl t22_17 (Go.Value.int Go.IntKind.u64 24)) fun t23_18 =>
    M.bind (bin (.cell .int) .or t18_14 t23_18) fun t24_19 =>
    M.pure t24_19
def b76_p1 (a0 : Value) : M Value :=
    M.bind (bumpC 8) fun b_20 =>
    M.bind (idxSl 1 a0 (Go.Value.int Go.IntKind.i64 0)) fun t26_21 =>
    M.bind (ld1 t26_21) fun t27_22 =>
    M.bind (cvInt .u64 t27_22) fun t28_23 =>
    M.bind (idxSl 1 a0 (Go.Value.int Go.IntKind.i64 1)) fun t30_24 =>
    M.bind (ld1 t30_24) fun t31_25 =>
    M.bind (cvInt .u64 t31_25) fun t32_26 =>
    M.bind (bin (.cell .int) .shl t32_26 (Go.Value.int Go.IntKind.u64 8)) fun t33_27 =>
    M.bind (bin (.cell .int) .or t28_23 t33_27) fun t34_28 =>
    M.bind (idxSl 1 a0 (Go.Value.int Go.IntKind.i64 2)) fun t36_29 =>
    M.bind (ld1 t36_29) fun t37_30 =>
    M.bind (cvInt .u64 t37_30) fun t38_31 =>
    M.bind (bin (.cell .int) .shl t38_31 (Go.Value.int Go.IntKind.u64 16)) fun t39_32 =>
    M.bind (bin (.cell .int) .or t34_28 t39_32) fun t40_33 =>
    M.bind (idxSl 1 a0 (Go.Value.int Go.IntKind.i64 3)) fun t42_34 =>
    M.bind (ld1 t42_34) fun t43_35 =>
    M.bind (cvInt .u64 t43_35) fun t44_36 =>
    M.bind (bin (.cell .int) .shl t44_36 (Go.Value.int Go.IntKind.u64 24)) fun t45_37 =>
    M.bind (bin (.cell .int) .or t40_33 t45_37) fun t46_38 =>
    M.bind (idxSl 1 a0 (Go.Value.int Go.IntKind.i64 4)) fun t48_39 =>
    M.bind (ld1 t48_39) fun t49_40 =>
    M.bind (cvInt .u64 t49_40) fun t50_41 =>
    M.bind (bin (.cell .int) .shl t50_41 (Go.Value.int Go.IntKind.u64 32)) fun t51_42 =>
    M.bind (bin (.cell .int) .or t46_38 t51_42) fun t52_43 =>
    M.bind (idxSl 1 a0 (Go.Value.int Go.IntKind.i64 5)) fun t54_44 =>
    M.bind (ld1 t54_44) fun t55_45 =>
    M.bind (cvInt .u64 t55_45) fun t56_46 =>
    M.bind (bin (.cell .int) .shl t56_46 (Go.Value.int Go.IntKind.u64 40)) fun t57_47 =>
    M.bind (bin (.cell .int) .or t52_43 t57_47) fun t58_48 =>
    M.bind (idxSl 1 a0 (Go.Value.int Go.IntKind.i64 6)) fun t60_49 =>
    M.bind (ld1 t60_49) fun t61_50 =>
    M.bind (cvInt .u64 t61_50) fun t62_51 =>
    M.bind (bin (.cell .int) .shl t62_51 (Go.Value.int Go.IntKind.u64 48)) fun t63_52 =>
    M.bind (bin (.cell .int) .or t58_48 t63_52) fun t64_53 =>
    M.bind (idxSl 1 a0 (Go.Value.int Go.IntKind.i64 7)) fun t66_54 =>
    M.bind (ld1 t66_54) fun t67_55 =>
    M.bind (cvInt .u64 t67_55) fun t68_56 =>
    M.bind (bin (.cell .int) .shl t68_56 (Go.Value.int Go.IntKind.u64 56)) fun t69_57 =>
    M.bind (bin (.cell .int) .or t64_53 t69_57) fun t70_58 =>
    M.pure t70_58
def b76 : Value → M Value := fun a0 =>

    condM (Go.Value.bool false) (
    b76_p0 a0) (
    b76_p1 a0)
noncomputable def k76 : Value → M Value := b76 
noncomputable def f76 : List Value → M Value := ar1 k76
theorem b76_eq (a0 : Value) : b76  a0 = execFn TTab (T76 ) Go.Proofs.Tryd.f76 h76 [a0] := by kernel_rfl
theorem k76_eq (a0 : Value) : k76 a0 = execFn TTab GT76 Go.Proofs.Tryd.f76 h76 [a0] := b76_eq  a0
theorem f76_sum : Summ Go.Proofs.Tryd.prog 76 f76 := summ_of_exec tok GT76_sum (draw_sound tok GT76_sum mixed) Go.Proofs.Tryd.func76 (by kernel_rfl) rfl h76 (ar1_eq k76_eq)
/-- unicode/utf8.Valid -/
def h61 : Hint := (.seq .nil (.seq .nil (.seq (.block (.loop [0] [0] [] (some [2]) (.seq (.seq .nil (.cond .nil .nil)) (.blockJ [0] [] [] (some [2]) (.seq .nil (.seq (.seq .nil (.cond (.seq .nil (.seq (.seq .nil (.condJ [0] [] [] none (.seq .nil (.seq (.draw [0, 1, 2, 3, 4, 6, 7, 5, 8, 9, 10, 11, 12]) (.condJ [0] [] [] none (.seq .nil (.block (.loop [0] [2] [0] none (.seq (.seq (.draw [0, 1, 2, 3, 4, 6, 7, 10, 11, 13, 14, 5, 8, 9, 12, 15, 16, 17, 18, 19, 20]) (.cond .nil .nil)) (.block .nil))))) .nil))) .nil)) .nil)) .nil)) (.seq .nil (.seq .nil (.seq .nil (.seq .nil (.block (.seq .nil (.condJ [0] [] [] (some [2]) (.seq (.seq (.draw [0, 1, 2, 3, 4, 5, 6, 7, 8, 9, 10, 11, 12, 13, 14, 15, 16, 17, 18]) (.cond (.seq .nil .nil) .nil)) .nil) (.seq .nil (.condJ [0] [] [] (some [2]) (.seq (.seq (.draw [0, 1, 2, 3, 4, 5, 6, 7, 8, 9, 10, 11, 12, 13, 14, 15, 16, 17, 18, 19, 20, 21, 22, 23, 24, 25, 26, 27, 28, 29, 30]) (.cond (.seq .nil .nil) .nil)) .nil) (.seq .nil (.cond (.seq (.seq (.draw [0, 1, 2, 3, 4, 5, 6, 7, 8, 9, 10, 11, 12, 13, 14, 15, 16, 17, 18, 19, 20, 21, 22, 23, 24, 25, 26, 27, 28, 29, 30, 31, 32, 33, 34, 35, 36, 37, 38, 39, 40, 41, 42]) (.cond (.seq .nil .nil) .nil)) .nil) (.seq .nil .nil)))))))))))))))))) (.seq .nil .nil))))
abbrev T61 (F76 : List Value → M Value) : FT := [(76, F76)]
noncomputable abbrev GT61 : FT := T61 f76
theorem GT61_sum : Summs Go.Proofs.Tryd.prog GT61 := summs_cons f76_sum (summs_nil)
def b61_p0 (F76 : List Value → M Value) (vs_32 : List Value) : M J :=
    M.bind (bumpC 0) fun b_33 =>
    M.bind (lenSl (nth vs_32 0)) fun t50_34 =>
    M.bind (bin (.cell .int) .gtr t50_34 (Go.Value.int Go.IntKind.i64 32)) fun t51_35 =>
    M.bind (guardM true t51_35 (M.pure (nth vs_32 0))) fun t53_36 =>
    M.bind (guardM true t51_35 (M.pure (nth vs_32 0))) fun t55_37 =>
    M.bind (guardM true t51_35 (slSl 1 t55_37 (some (Go.Value.int Go.IntKind.i64 8)) none none)) fun t56_38 =>
    M.bind (guardM true t51_35 (M.pure (nth vs_32 0))) fun t59_39 =>
    M.bind (guardM true t51_35 (slSl 1 t59_39 (some (Go.Value.int Go.IntKind.i64 16)) none none)) fun t60_40 =>
    M.bind (guardM true t51_35 (M.pure (nth vs_32 0))) fun t62_41 =>
    M.bind (guardM true t51_35 (slSl 1 t62_41 (some (Go.Value.int Go.IntKind.i64 24)) none none)) fun t63_42 =>
    M.bind (guardM true t51_35 (F76 [t53_36])) fun t54_43 =>
    M.bind (guardM true t51_35 (F76 [t56_38])) fun t57_44 =>
    M.bind (guardM true t51_35 (bin (.cell .int) .or t54_43 t57_44)) fun t58_45 =>
    M.bind (guardM true t51_35 (F76 [t60_40])) fun t61_46 =>
    M.bind (guardM true t51_35 (F76 [t63_42])) fun t64_47 =>
    M.bind (guardM true t51_35 (bin (.cell .int) .or t61_46 t64_47)) fun t65_48 =>
    M.bind (guardM true t51_35 (bin (.cell .int) .or t58_45 t65_48)) fun t66_49 =>
    M.bind (guardM true t51_35 (bin (.cell .int) .and t66_49 (Go.Value.int Go.IntKind.u64 9259542123273814144))) fun t67_50 =>
    M.bind (guardM true t51_35 (bin (.cell .int) .eql t67_50 (Go.Value.int Go.IntKind.u64 0))) fun t68_51 =>
    M.bind (pick t51_35 t68_51 (Go.Value.bool false)) fun t69_52 =>
    condM t69_52 (
    M.bind (slSl 1 (nth vs_32 0) (some (Go.Value.int Go.IntKind.i64 32)) none none) fun t71_53 =>
    M.pure (.norm [t71_53])) (
    M.pure (.exit 2 [(nth vs_32 0)]))
def b61_p1 (F76 : List Value → M Value) (t22_10 : Value) : M J :=
    M.bind (slSl 1 t22_10 (some (Go.Value.int Go.IntKind.i64 8)) none none) fun t33_18 =>
    M.bind (bumpC 0) fun b_19 =>
    M.bind (lenSl t33_18) fun t35_20 =>
    M.bind (bin (.cell .int) .gtr t35_20 (Go.Value.int Go.IntKind.i64 16)) fun t36_21 =>
    M.bind (guardM true t36_21 (M.pure t33_18)) fun t38_22 =>
    M.bind (guardM true t36_21 (M.pure t33_18)) fun t40_23 =>
    M.bind (guardM true t36_21 (slSl 1 t40_23 (some (Go.Value.int Go.IntKind.i64 8)) none none)) fun t41_24 =>
    M.bind (guardM true t36_21 (F76 [t38_22])) fun t39_25 =>
    M.bind (guardM true t36_21 (F76 [t41_24])) fun t42_26 =>
    M.bind (guardM true t36_21 (bin (.cell .int) .or t39_25 t42_26)) fun t43_27 =>
    M.bind (guardM true t36_21 (bin (.cell .int) .and t43_27 (Go.Value.int Go.IntKind.u64 9259542123273814144))) fun t44_28 =>
    M.bind (guardM true t36_21 (bin (.cell .int) .eql t44_28 (Go.Value.int Go.IntKind.u64 0))) fun t45_29 =>
    M.bind (pick t36_21 t45_29 (Go.Value.bool false)) fun t46_30 =>
    M.bind (condM t46_30 (
    M.bind (slSl 1 t33_18 (some (Go.Value.int Go.IntKind.i64 16)) none none) fun t48_31 =>
    M.bind (loopM (b61_p0 F76 ) [t48_31]) (onJ (fun _ => M.stuck) (fun id_54 vs_54 =>
    cond (Nat.beq id_54 2) (
    M.pure (.norm [(nth vs_54 0)])) (M.stuck)) (fun _ => M.stuck))) (
    M.pure (.norm [t33_18]))) (onJ (fun vs_55 =>
    M.pure (.norm [(nth vs_55 0)])) (fun _ _ => M.stuck) (fun _ => M.stuck))
def b61_p2 (F76 : List Value → M Value) (vs_4 : List Value) : M J :=
    M.bind (slSl 1 (nth vs_4 0) (some (Go.Value.int Go.IntKind.i64 1)) none none) fun t22_10 =>
    M.bind (lenSl t22_10) fun t24_11 =>
    M.bind (bin (.cell .int) .gtr t24_11 (Go.Value.int Go.IntKind.i64 8)) fun t25_12 =>
    M.bind (guardM true t25_12 (M.pure t22_10)) fun t27_13 =>
    M.bind (guardM true t25_12 (F76 [t27_13])) fun t28_14 =>
    M.bind (guardM true t25_12 (bin (.cell .int) .and t28_14 (Go.Value.int Go.IntKind.u64 9259542123273814144))) fun t29_15 =>
    M.bind (guardM true t25_12 (bin (.cell .int) .eql t29_15 (Go.Value.int Go.IntKind.u64 0))) fun t30_16 =>
    M.bind (pick t25_12 t30_16 (Go.Value.bool false)) fun t31_17 =>
    M.bind (condM t31_17 (
    b61_p1 F76 t22_10) (
    M.pure (.norm [t22_10]))) (onJ (fun vs_56 =>
    M.pure (.norm [(nth vs_56 0)])) (fun _ _ => M.stuck) (fun _ => M.stuck))
def b61_p3 (F76 : List Value → M Value) (vs_4 : List Value) (t6_66 : Value) : M J :=
    M.bind (bumpC 0) fun b_69 =>
    M.bind (lenSl (nth vs_4 0)) fun t86_70 =>
    M.bind (bin (.cell .int) .lss t86_70 (Go.Value.int Go.IntKind.i64 2)) fun t87_71 =>
    M.bind (guardM false t87_71 (M.pure (nth vs_4 0))) fun t89_72 =>
    M.bind (guardM false t87_71 (idxSl 1 t89_72 (Go.Value.int Go.IntKind.i64 1))) fun t90_73 =>
    M.bind (guardM false t87_71 (ld1 t90_73)) fun t91_74 =>
    M.bind (guardM false t87_71 (addOff 0 t6_66)) fun t92_75 =>
    M.bind (guardM false t87_71 (ld1 t92_75)) fun t93_76 =>
    M.bind (guardM false t87_71 (bin (.cell .int) .lss t91_74 t93_76)) fun t94_77 =>
    M.bind (pick t87_71 (Go.Value.bool true) t94_77) fun t95_78 =>
    M.bind (guardM false t95_78 (addOff 1 t6_66)) fun t97_79 =>
    M.bind (guardM false t95_78 (ld1 t97_79)) fun t98_80 =>
    M.bind (guardM false t95_78 (M.pure (nth vs_4 0))) fun t99_81 =>
    M.bind (guardM false t95_78 (idxSl 1 t99_81 (Go.Value.int Go.IntKind.i64 1))) fun t100_82 =>
    M.bind (guardM false t95_78 (ld1 t100_82)) fun t101_83 =>
    M.bind (guardM false t95_78 (bin (.cell .int) .lss t98_80 t101_83)) fun t102_84 =>
    M.bind (pick t95_78 (Go.Value.bool true) t102_84) fun t103_85 =>
    condM t103_85 (
    M.pure (.ret [(Go.Value.bool false)])) (
    M.bind (slSl 1 (nth vs_4 0) (some (Go.Value.int Go.IntKind.i64 2)) none none) fun t105_86 =>
    M.pure (.norm [t105_86]))
def b61_p4 (F76 : List Value → M Value) (vs_4 : List Value) (t6_66 : Value) : M J :=
    M.bind (bumpC 0) fun b_88 =>
    M.bind (lenSl (nth vs_4 0)) fun t109_89 =>
    M.bind (bin (.cell .int) .lss t109_89 (Go.Value.int Go.IntKind.i64 3)) fun t110_90 =>
    M.bind (guardM false t110_90 (M.pure (nth vs_4 0))) fun t112_91 =>
    M.bind (guardM false t110_90 (idxSl 1 t112_91 (Go.Value.int Go.IntKind.i64 1))) fun t113_92 =>
    M.bind (guardM false t110_90 (ld1 t113_92)) fun t114_93 =>
    M.bind (guardM false t110_90 (addOff 0 t6_66)) fun t115_94 =>
    M.bind (guardM false t110_90 (ld1 t115_94)) fun t116_95 =>
    M.bind (guardM false t110_90 (bin (.cell .int) .lss t114_93 t116_95)) fun t117_96 =>
    M.bind (pick t110_90 (Go.Value.bool true) t117_96) fun t118_97 =>
    M.bind (guardM false t118_97 (addOff 1 t6_66)) fun t120_98 =>
    M.bind (guardM false t118_97 (ld1 t120_98)) fun t121_99 =>
    M.bind (guardM false t118_97 (M.pure (nth vs_4 0))) fun t122_100 =>
    M.bind (guardM false t118_97 (idxSl 1 t122_100 (Go.Value.int Go.IntKind.i64 1))) fun t123_101 =>
    M.bind (guardM false t118_97 (ld1 t123_101)) fun t124_102 =>
    M.bind (guardM false t118_97 (bin (.cell .int) .lss t121_99 t124_102)) fun t125_103 =>
    M.bind (pick t118_97 (Go.Value.bool true) t125_103) fun t126_104 =>
    M.bind (guardM false t126_104 (M.pure (nth vs_4 0))) fun t128_105 =>
    M.bind (guardM false t126_104 (idxSl 1 t128_105 (Go.Value.int Go.IntKind.i64 2))) fun t129_106 =>
    M.bind (guardM false t126_104 (ld1 t129_106)) fun t130_107 =>
    M.bind (guardM false t126_104 (bin (.cell .int) .lss t130_107 (Go.Value.int Go.IntKind.u8 128))) fun t131_108 =>
    M.bind (pick t126_104 (Go.Value.bool true) t131_108) fun t132_109 =>
    M.bind (guardM false t132_109 (M.pure (nth vs_4 0))) fun t134_110 =>
    M.bind (guardM false t132_109 (idxSl 1 t134_110 (Go.Value.int Go.IntKind.i64 2))) fun t135_111 =>
    M.bind (guardM false t132_109 (ld1 t135_111)) fun t136_112 =>
    M.bind (guardM false t132_109 (bin (.cell .int) .lss (Go.Value.int Go.IntKind.u8 191) t136_112)) fun t137_113 =>
    M.bind (pick t132_109 (Go.Value.bool true) t137_113) fun t138_114 =>
    condM t138_114 (
    M.pure (.ret [(Go.Value.bool false)])) (
    M.bind (slSl 1 (nth vs_4 0) (some (Go.Value.int Go.IntKind.i64 3)) none none) fun t140_115 =>
    M.pure (.norm [t140_115]))
def b61_p5 (F76 : List Value → M Value) (vs_4 : List Value) (t6_66 : Value) : M J :=
    M.bind (bumpC 0) fun b_117 =>
    M.bind (lenSl (nth vs_4 0)) fun t144_118 =>
    M.bind (bin (.cell .int) .lss t144_118 (Go.Value.int Go.IntKind.i64 4)) fun t145_119 =>
    M.bind (guardM false t145_119 (M.pure (nth vs_4 0))) fun t147_120 =>
    M.bind (guardM false t145_119 (idxSl 1 t147_120 (Go.Value.int Go.IntKind.i64 1))) fun t148_121 =>
    M.bind (guardM false t145_119 (ld1 t148_121)) fun t149_122 =>
    M.bind (guardM false t145_119 (addOff 0 t6_66)) fun t150_123 =>
    M.bind (guardM false t145_119 (ld1 t150_123)) fun t151_124 =>
    M.bind (guardM false t145_119 (bin (.cell .int) .lss t149_122 t151_124)) fun t152_125 =>
    M.bind (pick t145_119 (Go.Value.bool true) t152_125) fun t153_126 =>
    M.bind (guardM false t153_126 (addOff 1 t6_66)) fun t155_127 =>
    M.bind (guardM false t153_126 (ld1 t155_127)) fun t156_128 =>
    M.bind (guardM false t153_126 (M.pure (nth vs_4 0))) fun t157_129 =>
    M.bind (guardM false t153_126 (idxSl 1 t157_129 (Go.Value.int Go.IntKind.i64 1))) fun t158_130 =>
    M.bind (guardM false t153_126 (ld1 t158_130)) fun t159_131 =>
    M.bind (guardM false t153_126 (bin (.cell .int) .lss t156_128 t159_131)) fun t160_132 =>
    M.bind (pick t153_126 (Go.Value.bool true) t160_132) fun t161_133 =>
    M.bind (guardM false t161_133 (M.pure (nth vs_4 0))) fun t163_134 =>
    M.bind (guardM false t161_133 (idxSl 1 t163_134 (Go.Value.int Go.IntKind.i64 2))) fun t164_135 =>
    M.bind (guardM false t161_133 (ld1 t164_135)) fun t165_136 =>
    M.bind (guardM false t161_133 (bin (.cell .int) .lss t165_136 (Go.Value.int Go.IntKind.u8 128))) fun t166_137 =>
    M.bind (pick t161_133 (Go.Value.bool true) t166_137) fun t167_138 =>
    M.bind (guardM false t167_138 (M.pure (nth vs_4 0))) fun t169_139 =>
    M.bind (guardM false t167_138 (idxSl 1 t169_139 (Go.Value.int Go.IntKind.i64 2))) fun t170_140 =>
    M.bind (guardM false t167_138 (ld1 t170_140)) fun t171_141 =>
    M.bind (guardM false t167_138 (bin (.cell .int) .lss (Go.Value.int Go.IntKind.u8 191) t171_141)) fun t172_142 =>
    M.bind (pick t167_138 (Go.Value.bool true) t172_142) fun t173_143 =>
    M.bind (guardM false t173_143 (M.pure (nth vs_4 0))) fun t175_144 =>
    M.bind (guardM false t173_143 (idxSl 1 t175_144 (Go.Value.int Go.IntKind.i64 3))) fun t176_145 =>
    M.bind (guardM false t173_143 (ld1 t176_145)) fun t177_146 =>
    M.bind (guardM false t173_143 (bin (.cell .int) .lss t177_146 (Go.Value.int Go.IntKind.u8 128))) fun t178_147 =>
    M.bind (pick t173_143 (Go.Value.bool true) t178_147) fun t179_148 =>
    M.bind (guardM false t179_148 (M.pure (nth vs_4 0))) fun t181_149 =>
    M.bind (guardM false t179_148 (idxSl 1 t181_149 (Go.Value.int Go.IntKind.i64 3))) fun t182_150 =>
    M.bind (guardM false t179_148 (ld1 t182_150)) fun t183_151 =>
    M.bind (guardM false t179_148 (bin (.cell .int) .lss (Go.Value.int Go.IntKind.u8 191) t183_151)) fun t184_152 =>
    M.bind (pick t179_148 (Go.Value.bool true) t184_152) fun t185_153 =>
    condM t185_153 (
    M.pure (.ret [(Go.Value.bool false)])) (
    M.bind (slSl 1 (nth vs_4 0) (some (Go.Value.int Go.IntKind.i64 4)) none none) fun t187_154 =>
    M.pure (.norm [t187_154]))
def b61_p6 (F76 : List Value → M Value) (t18_8 : Value) (vs_4 : List Value) : M J :=
    M.bind (idxArr 1 256 (.pointer (some ⟨0, 0, none⟩)) t18_8) fun t73_57 =>
    M.bind (ld1 t73_57) fun t74_58 =>
    M.bind (bump 1) fun b_59 =>
    M.bind (bin (.cell .int) .and t74_58 (Go.Value.int Go.IntKind.u8 7)) fun t76_60 =>
    M.bind (cvInt .i64 t76_60) fun t77_61 =>
    M.bind (bump 1) fun b_62 =>
    M.bind (bin (.cell .int) .shr t74_58 (Go.Value.int Go.IntKind.u64 4)) fun t79_63 =>
    M.bind (idxArr 2 16 (.pointer (some ⟨1, 0, none⟩)) t79_63) fun t80_64 =>
    M.bind (ldN 2 t80_64) fun t81_65 =>
    M.bind (newCells b_62 [.int .u8 0, .int .u8 0] 159) fun t6_66 =>
    M.bind (stN 2 t6_66 t81_65) fun tu_67 =>
    M.bind (bin (.cell .int) .eql t77_61 (Go.Value.int Go.IntKind.i64 2)) fun t84_68 =>
    M.bind (condM t84_68 (
    b61_p3 F76 vs_4 t6_66) (
    M.bind (bin (.cell .int) .eql t77_61 (Go.Value.int Go.IntKind.i64 3)) fun t107_87 =>
    M.bind (condM t107_87 (
    b61_p4 F76 vs_4 t6_66) (
    M.bind (bin (.cell .int) .eql t77_61 (Go.Value.int Go.IntKind.i64 4)) fun t142_116 =>
    condM t142_116 (
    b61_p5 F76 vs_4 t6_66) (
    M.pure (.ret [(Go.Value.bool false)])))) (onJ (fun vs_155 =>
    M.pure (.norm [(nth vs_155 0)])) (fun _ _ => M.stuck) (fun vs_155 =>
    M.pure (.ret [(nth vs_155 0)]))))) (onJ (fun vs_156 =>
    M.pure (.norm [(nth vs_156 0)])) (fun _ _ => M.stuck) (fun vs_156 =>
    M.pure (.ret [(nth vs_156 0)])))
def b61_p7 (F76 : List Value → M Value) (vs_4 : List Value) : M J :=
    M.bind (lenSl (nth vs_4 0)) fun t14_5 =>
    M.bind (bin (.cell .int) .gtr t14_5 (Go.Value.int Go.IntKind.i64 0)) fun t15_6 =>
    condM t15_6 (
    M.bind (M.bind (idxSl 1 (nth vs_4 0) (Go.Value.int Go.IntKind.i64 0)) fun t17_7 =>
    M.bind (ld1 t17_7) fun t18_8 =>
    M.bind (bin (.cell .int) .lss t18_8 (Go.Value.int Go.IntKind.u8 128)) fun t20_9 =>
    condM t20_9 (
    b61_p2 F76 vs_4) (
    b61_p6 F76 t18_8 vs_4)) (onJ (fun vs_157 =>
    M.pure (.norm [(nth vs_157 0)])) (fun _ _ => M.stuck) (fun vs_157 =>
    M.pure (.ret [(nth vs_157 0)])))) (
    M.pure (.exit 0 []))
def b61 (F76 : List Value → M Value) : Value → M Value := fun a0 =>

    M.bind (lenSl a0) fun t9_1 =>
    M.bind (lenSl a0) fun t11_2 =>
    M.bind (slSl 1 a0 none (some t9_1) (some t11_2)) fun t12_3 =>
    M.bind (loopM (b61_p7 F76 ) [t12_3]) (onJ (fun _ => M.stuck) (fun id_158 vs_158 =>
    cond (Nat.beq id_158 0) (
    M.pure (Go.Value.bool true)) (M.stuck)) (fun vs_158 =>
    M.pure (nth vs_158 0)))
noncomputable def k61 : Value → M Value := b61 f76
noncomputable def f61 : List Value → M Value := ar1 k61
theorem b61_eq (F76 : List Value → M Value) (a0 : Value) : b61 F76 a0 = execFn TTab (T61 F76) Go.Proofs.Tryd.f61 h61 [a0] := by kernel_rfl
theorem k61_eq (a0 : Value) : k61 a0 = execFn TTab GT61 Go.Proofs.Tryd.f61 h61 [a0] := b61_eq f76 a0
theorem f61_sum : Summ Go.Proofs.Tryd.prog 61 f61 := summ_of_exec tok GT61_sum (draw_sound tok GT61_sum mixed) Go.Proofs.Tryd.func61 (by kernel_rfl) rfl h61 (ar1_eq k61_eq)
end Go.Vm.Tryd
end
