/- Parts of the proof. -/
import Derived.Test.YtglbdcndgfnhkaaDoorKF4
import Derived.Test.YtglbdcndgfnhkaaDoorKX
section
set_option linter.unusedVariables false
set_option maxRecDepth 100000
set_option maxHeartbeats 1000000
namespace Go.Vm.Tryd
open Go Go.Vm
/-- mailcoach/mailcoachref13.SameLedgers -/
def h51 : Hint := (.seq .nil (.seq (.seq .nil (.cond (.seq .nil .nil) .nil)) (.seq (.seq .nil (.block (.loop [5] [0] [] (some [4]) (.seq (.seq .nil (.cond .nil .nil)) (.seq (.block (.seq (.draw [0, 1, 2, 3, 4, 5, 6, 7, 8]) (.cond (.seq .nil .nil) .nil))) .nil))))) (.seq .nil .nil))))
abbrev T51 : FT := []
noncomputable abbrev GT51 : FT := T51 
theorem GT51_sum : Summs Go.Proofs.Tryd.prog GT51 := summs_nil
def b51_p0 (a0 : Value) (a1 : Value) (vs_4 : List Value) : M J :=
    M.bind (lenSl a0) fun t13_5 =>
    M.bind (bin (.cell .int) .lss (nth vs_4 0) t13_5) fun t14_6 =>
    condM t14_6 (
    M.bind (bumpC 0) fun b_7 =>
    M.bind (idxSl 3 a0 (nth vs_4 0)) fun t19_8 =>
    M.bind (ldN 3 t19_8) fun t20_9 =>
    M.bind (idxSl 3 a1 (nth vs_4 0)) fun t23_10 =>
    M.bind (ldN 3 t23_10) fun t24_11 =>
    M.bind (bin (.plain [.int, .bool, .int]) .neq t20_9 t24_11) fun t25_12 =>
    condM t25_12 (
    M.pure (.ret [(Go.Value.bool false)])) (
    M.bind (bin (.cell .int) .add (nth vs_4 0) (Go.Value.int Go.IntKind.i64 1)) fun t16_13 =>
    M.pure (.norm [t16_13]))) (
    M.pure (.exit 0 []))
def b51 : Value → Value → M Value := fun a0 a1 =>

    M.bind (lenSl a0) fun t7_1 =>
    M.bind (lenSl a1) fun t9_2 =>
    M.bind (bin (.cell .int) .neq t7_1 t9_2) fun t10_3 =>
    condM t10_3 (
    M.pure (Go.Value.bool false)) (
    M.bind (loopM (b51_p0 a0 a1) [(Go.Value.int Go.IntKind.i64 0)]) (onJ (fun _ => M.stuck) (fun id_14 vs_14 =>
    cond (Nat.beq id_14 0) (
    M.pure (Go.Value.bool true)) (M.stuck)) (fun vs_14 =>
    M.pure (nth vs_14 0))))
noncomputable def k51 : Value → Value → M Value := b51 
noncomputable def f51 : List Value → M Value := ar2 k51
theorem b51_eq (a0 a1 : Value) : b51  a0 a1 = execFn TTab (T51 ) Go.Proofs.Tryd.f51 h51 [a0, a1] := by kernel_rfl
theorem k51_eq (a0 a1 : Value) : k51 a0 a1 = execFn TTab GT51 Go.Proofs.Tryd.f51 h51 [a0, a1] := b51_eq  a0 a1
theorem f51_sum : Summ Go.Proofs.Tryd.prog 51 f51 := summ_of_exec tok GT51_sum (draw_sound tok GT51_sum mixed) Go.Proofs.Tryd.func51 (by kernel_rfl) rfl h51 (ar2_eq k51_eq)
/-- mailcoach/mailcoachref15.SameLines -/
def h52 : Hint := (.seq .nil (.seq (.seq .nil (.cond (.seq .nil .nil) .nil)) (.seq (.seq .nil (.block (.loop [5] [0] [] (some [4]) (.seq (.seq .nil (.cond .nil .nil)) (.seq (.block (.seq (.draw [0, 1, 2, 3, 4, 5, 6, 7, 8]) (.cond (.seq .nil .nil) .nil))) .nil))))) (.seq .nil .nil))))
abbrev T52 : FT := []
noncomputable abbrev GT52 : FT := T52 
theorem GT52_sum : Summs Go.Proofs.Tryd.prog GT52 := summs_nil
def b52_p0 (a0 : Value) (a1 : Value) (vs_4 : List Value) : M J :=
    M.bind (lenSl a0) fun t13_5 =>
    M.bind (bin (.cell .int) .lss (nth vs_4 0) t13_5) fun t14_6 =>
    condM t14_6 (
    M.bind (bumpC 0) fun b_7 =>
    M.bind (idxSl 5 a0 (nth vs_4 0)) fun t19_8 =>
    M.bind (ldN 5 t19_8) fun t20_9 =>
    M.bind (idxSl 5 a1 (nth vs_4 0)) fun t23_10 =>
    M.bind (ldN 5 t23_10) fun t24_11 =>
    M.bind (bin .none .neq t20_9 t24_11) fun t25_12 =>
    condM t25_12 (
    M.pure (.ret [(Go.Value.bool false)])) (
    M.bind (bin (.cell .int) .add (nth vs_4 0) (Go.Value.int Go.IntKind.i64 1)) fun t16_13 =>
    M.pure (.norm [t16_13]))) (
    M.pure (.exit 0 []))
def b52 : Value → Value → M Value := fun a0 a1 =>

    M.bind (lenSl a0) fun t7_1 =>
    M.bind (lenSl a1) fun t9_2 =>
    M.bind (bin (.cell .int) .neq t7_1 t9_2) fun t10_3 =>
    condM t10_3 (
    M.pure (Go.Value.bool false)) (
    M.bind (loopM (b52_p0 a0 a1) [(Go.Value.int Go.IntKind.i64 0)]) (onJ (fun _ => M.stuck) (fun id_14 vs_14 =>
    cond (Nat.beq id_14 0) (
    M.pure (Go.Value.bool true)) (M.stuck)) (fun vs_14 =>
    M.pure (nth vs_14 0))))
noncomputable def k52 : Value → Value → M Value := b52 
noncomputable def f52 : List Value → M Value := ar2 k52
theorem b52_eq (a0 a1 : Value) : b52  a0 a1 = execFn TTab (T52 ) Go.Proofs.Tryd.f52 h52 [a0, a1] := by kernel_rfl
theorem k52_eq (a0 a1 : Value) : k52 a0 a1 = execFn TTab GT52 Go.Proofs.Tryd.f52 h52 [a0, a1] := b52_eq  a0 a1
theorem f52_sum : Summ Go.Proofs.Tryd.prog 52 f52 := summ_of_exec tok GT52_sum (draw_sound tok GT52_sum mixed) Go.Proofs.Tryd.func52 (by kernel_rfl) rfl h52 (ar2_eq k52_eq)
/-- mailcoach/mailcoachref03.Same -/
def h75 : Hint := (.seq .nil (.seq (.seq .nil (.cond (.seq .nil .nil) .nil)) (.seq (.seq .nil (.block (.loop [5] [0] [] (some [4]) (.seq (.seq .nil (.cond .nil .nil)) (.seq (.block (.seq (.draw [0, 1, 2, 3, 4, 5, 6, 7, 8]) (.cond (.seq .nil .nil) .nil))) .nil))))) (.seq .nil .nil))))
abbrev T75 : FT := []
noncomputable abbrev GT75 : FT := T75 
theorem GT75_sum : Summs Go.Proofs.Tryd.prog GT75 := summs_nil
def b75_p0 (a0 : Value) (a1 : Value) (vs_4 : List Value) : M J :=
    M.bind (lenSl a0) fun t13_5 =>
    M.bind (bin (.cell .int) .lss (nth vs_4 0) t13_5) fun t14_6 =>
    condM t14_6 (
    M.bind (bumpC 0) fun b_7 =>
    M.bind (idxSl 2 a0 (nth vs_4 0)) fun t19_8 =>
    M.bind (ldN 2 t19_8) fun t20_9 =>
    M.bind (idxSl 2 a1 (nth vs_4 0)) fun t23_10 =>
    M.bind (ldN 2 t23_10) fun t24_11 =>
    M.bind (bin (.plain [.int, .int]) .neq t20_9 t24_11) fun t25_12 =>
    condM t25_12 (
    M.pure (.ret [(Go.Value.bool false)])) (
    M.bind (bin (.cell .int) .add (nth vs_4 0) (Go.Value.int Go.IntKind.i64 1)) fun t16_13 =>
    M.pure (.norm [t16_13]))) (
    M.pure (.exit 0 []))
def b75 : Value → Value → M Value := fun a0 a1 =>

    M.bind (lenSl a0) fun t7_1 =>
    M.bind (lenSl a1) fun t9_2 =>
    M.bind (bin (.cell .int) .neq t7_1 t9_2) fun t10_3 =>
    condM t10_3 (
    M.pure (Go.Value.bool false)) (
    M.bind (loopM (b75_p0 a0 a1) [(Go.Value.int Go.IntKind.i64 0)]) (onJ (fun _ => M.stuck) (fun id_14 vs_14 =>
    cond (Nat.beq id_14 0) (
    M.pure (Go.Value.bool true)) (M.stuck)) (fun vs_14 =>
    M.pure (nth vs_14 0))))
noncomputable def k75 : Value → Value → M Value := b75 
noncomputable def f75 : List Value → M Value := ar2 k75
theorem b75_eq (a0 a1 : Value) : b75  a0 a1 = execFn TTab (T75 ) Go.Proofs.Tryd.f75 h75 [a0, a1] := by kernel_rfl
theorem k75_eq (a0 a1 : Value) : k75 a0 a1 = execFn TTab GT75 Go.Proofs.Tryd.f75 h75 [a0, a1] := b75_eq  a0 a1
theorem f75_sum : Summ Go.Proofs.Tryd.prog 75 f75 := summ_of_exec tok GT75_sum (draw_sound tok GT75_sum mixed) Go.Proofs.Tryd.func75 (by kernel_rfl) rfl h75 (ar2_eq k75_eq)
/-- mailcoach/mailcoachref13.Same -/
def h53 : Hint := (.seq .nil (.seq (.seq .nil (.cond (.seq .nil .nil) .nil)) (.seq (.seq .nil (.block (.loop [5] [0] [] (some [4]) (.seq (.seq .nil (.cond .nil .nil)) (.seq (.block (.seq (.draw [0, 1, 2, 3, 4, 5, 6, 7, 8, 9, 10, 11, 12, 13, 14, 15, 16, 17, 18, 19, 20, 21, 22, 23, 24, 25, 26, 27, 28]) (.cond (.seq .nil .nil) .nil))) .nil))))) (.seq .nil .nil))))
abbrev T53 (F75 : List Value → M Value) : FT := [(75, F75)]
noncomputable abbrev GT53 : FT := T53 f75
theorem GT53_sum : Summs Go.Proofs.Tryd.prog GT53 := summs_cons f75_sum (summs_nil)
def b53_p0 (F75 : List Value → M Value) (t2_2 : Value) (vs_17 : List Value) (t3_3 : Value) : M J :=
    M.bind (bumpC 0) fun b_22 =>
    M.bind (addOff 2 t2_2) fun t27_23 =>
    M.bind (ld1 t27_23) fun t28_24 =>
    M.bind (idxSl 2 t28_24 (nth vs_17 0)) fun t30_25 =>
    M.bind (addOff 0 t30_25) fun t31_26 =>
    M.bind (ld1 t31_26) fun t32_27 =>
    M.bind (addOff 2 t3_3) fun t33_28 =>
    M.bind (ld1 t33_28) fun t34_29 =>
    M.bind (idxSl 2 t34_29 (nth vs_17 0)) fun t36_30 =>
    M.bind (addOff 0 t36_30) fun t37_31 =>
    M.bind (ld1 t37_31) fun t38_32 =>
    M.bind (bin (.cell .int) .neq t32_27 t38_32) fun t39_33 =>
    M.bind (guardM false t39_33 (addOff 2 t2_2)) fun t41_34 =>
    M.bind (guardM false t39_33 (ld1 t41_34)) fun t42_35 =>
    M.bind (guardM false t39_33 (M.pure (nth vs_17 0))) fun t43_36 =>
    M.bind (guardM false t39_33 (idxSl 2 t42_35 t43_36)) fun t44_37 =>
    M.bind (guardM false t39_33 (addOff 1 t44_37)) fun t45_38 =>
    M.bind (guardM false t39_33 (ld1 t45_38)) fun t46_39 =>
    M.bind (guardM false t39_33 (addOff 2 t3_3)) fun t47_40 =>
    M.bind (guardM false t39_33 (ld1 t47_40)) fun t48_41 =>
    M.bind (guardM false t39_33 (M.pure (nth vs_17 0))) fun t49_42 =>
    M.bind (guardM false t39_33 (idxSl 2 t48_41 t49_42)) fun t50_43 =>
    M.bind (guardM false t39_33 (addOff 1 t50_43)) fun t51_44 =>
    M.bind (guardM false t39_33 (ld1 t51_44)) fun t52_45 =>
    M.bind (guardM false t39_33 (F75 [t46_39, t52_45])) fun t53_46 =>
    M.bind (guardM false t39_33 (un .not t53_46)) fun t54_47 =>
    M.bind (pick t39_33 (Go.Value.bool true) t54_47) fun t55_48 =>
    condM t55_48 (
    M.pure (.ret [(Go.Value.bool false)])) (
    M.bind (bin (.cell .int) .add (nth vs_17 0) (Go.Value.int Go.IntKind.i64 1)) fun t26_49 =>
    M.pure (.norm [t26_49]))
def b53_p1 (F75 : List Value → M Value) (t2_2 : Value) (t3_3 : Value) (vs_17 : List Value) : M J :=
    M.bind (addOff 2 t2_2) fun t21_18 =>
    M.bind (ld1 t21_18) fun t22_19 =>
    M.bind (lenSl t22_19) fun t23_20 =>
    M.bind (bin (.cell .int) .lss (nth vs_17 0) t23_20) fun t24_21 =>
    condM t24_21 (
    b53_p0 F75 t2_2 vs_17 t3_3) (
    M.pure (.exit 0 []))
def b53 (F75 : List Value → M Value) : Value → Value → M Value := fun a0 a1 =>

    M.bind (bump 2) fun b_1 =>
    M.bind (newCells b_1 (Value.cells a0).toList 86) fun t2_2 =>
    M.bind (newCells (b_1 + 1) (Value.cells a1).toList 86) fun t3_3 =>
    M.bind (addOff 0 t2_2) fun t6_4 =>
    M.bind (ldN 2 t6_4) fun t7_5 =>
    M.bind (addOff 0 t3_3) fun t8_6 =>
    M.bind (ldN 2 t8_6) fun t9_7 =>
    M.bind (bin (.plain [.int, .int]) .neq t7_5 t9_7) fun t10_8 =>
    M.bind (guardM false t10_8 (addOff 2 t2_2)) fun t12_9 =>
    M.bind (guardM false t10_8 (ld1 t12_9)) fun t13_10 =>
    M.bind (guardM false t10_8 (lenSl t13_10)) fun t14_11 =>
    M.bind (guardM false t10_8 (addOff 2 t3_3)) fun t15_12 =>
    M.bind (guardM false t10_8 (ld1 t15_12)) fun t16_13 =>
    M.bind (guardM false t10_8 (lenSl t16_13)) fun t17_14 =>
    M.bind (guardM false t10_8 (bin (.cell .int) .neq t14_11 t17_14)) fun t18_15 =>
    M.bind (pick t10_8 (Go.Value.bool true) t18_15) fun t19_16 =>
    condM t19_16 (
    M.pure (Go.Value.bool false)) (
    M.bind (loopM (b53_p1 F75 t2_2 t3_3) [(Go.Value.int Go.IntKind.i64 0)]) (onJ (fun _ => M.stuck) (fun id_50 vs_50 =>
    cond (Nat.beq id_50 0) (
    M.pure (Go.Value.bool true)) (M.stuck)) (fun vs_50 =>
    M.pure (nth vs_50 0))))
noncomputable def k53 : Value → Value → M Value := b53 f75
noncomputable def f53 : List Value → M Value := ar2 k53
theorem b53_eq (F75 : List Value → M Value) (a0 a1 : Value) : b53 F75 a0 a1 = execFn TTab (T53 F75) Go.Proofs.Tryd.f53 h53 [a0, a1] := by kernel_rfl
theorem k53_eq (a0 a1 : Value) : k53 a0 a1 = execFn TTab GT53 Go.Proofs.Tryd.f53 h53 [a0, a1] := b53_eq f75 a0 a1
theorem f53_sum : Summ Go.Proofs.Tryd.prog 53 f53 := summ_of_exec tok GT53_sum (draw_sound tok GT53_sum mixed) Go.Proofs.Tryd.func53 (by kernel_rfl) rfl h53 (ar2_eq k53_eq)
/-- mailcoach/mailcoachref21.Same -/
def h17 : Hint := (.seq .nil (.seq (.seq .nil (.cond (.seq .nil .nil) .nil)) (.seq (.seq .nil (.block (.loop [5] [0] [] (some [4]) (.seq (.seq .nil (.cond .nil .nil)) (.seq (.block (.seq (.draw [0, 1, 2, 3, 4, 5, 6, 7, 8, 9, 10, 11, 12, 13, 14, 15, 16, 17, 18, 19, 20, 21, 22, 23, 24, 25, 26, 27, 28, 29, 30, 31, 32, 33, 34, 35, 36, 37, 38, 39, 40, 41, 42, 43]) (.cond (.seq .nil .nil) .nil))) .nil))))) (.seq .nil .nil))))
abbrev T17 (F51 F52 F53 : List Value → M Value) : FT := [(51, F51), (52, F52), (53, F53)]
noncomputable abbrev GT17 : FT := T17 f51 f52 f53
theorem GT17_sum : Summs Go.Proofs.Tryd.prog GT17 := summs_cons f51_sum (summs_cons f52_sum (summs_cons f53_sum (summs_nil)))
def b17_p0 (F51 F52 F53 : List Value → M Value) (t2_2 : Value) (vs_37 : List Value) (t3_3 : Value) : M J :=
    M.bind (bumpC 0) fun b_42 =>
    M.bind (addOff 3 t2_2) fun t50_43 =>
    M.bind (ld1 t50_43) fun t51_44 =>
    M.bind (idxSl 5 t51_44 (nth vs_37 0)) fun t53_45 =>
    M.bind (addOff 0 t53_45) fun t54_46 =>
    M.bind (ld1 t54_46) fun t55_47 =>
    M.bind (addOff 3 t3_3) fun t56_48 =>
    M.bind (ld1 t56_48) fun t57_49 =>
    M.bind (idxSl 5 t57_49 (nth vs_37 0)) fun t59_50 =>
    M.bind (addOff 0 t59_50) fun t60_51 =>
    M.bind (ld1 t60_51) fun t61_52 =>
    M.bind (bin (.cell .str) .neq t55_47 t61_52) fun t62_53 =>
    M.bind (guardM false t62_53 (addOff 3 t2_2)) fun t64_54 =>
    M.bind (guardM false t62_53 (ld1 t64_54)) fun t65_55 =>
    M.bind (guardM false t62_53 (M.pure (nth vs_37 0))) fun t66_56 =>
    M.bind (guardM false t62_53 (idxSl 5 t65_55 t66_56)) fun t67_57 =>
    M.bind (guardM false t62_53 (addOff 1 t67_57)) fun t68_58 =>
    M.bind (guardM false t62_53 (ld1 t68_58)) fun t69_59 =>
    M.bind (guardM false t62_53 (addOff 3 t3_3)) fun t70_60 =>
    M.bind (guardM false t62_53 (ld1 t70_60)) fun t71_61 =>
    M.bind (guardM false t62_53 (M.pure (nth vs_37 0))) fun t72_62 =>
    M.bind (guardM false t62_53 (idxSl 5 t71_61 t72_62)) fun t73_63 =>
    M.bind (guardM false t62_53 (addOff 1 t73_63)) fun t74_64 =>
    M.bind (guardM false t62_53 (ld1 t74_64)) fun t75_65 =>
    M.bind (guardM false t62_53 (bin (.cell .int) .neq t69_59 t75_65)) fun t76_66 =>
    M.bind (pick t62_53 (Go.Value.bool true) t76_66) fun t77_67 =>
    M.bind (guardM false t77_67 (addOff 3 t2_2)) fun t79_68 =>
    M.bind (guardM false t77_67 (ld1 t79_68)) fun t80_69 =>
    M.bind (guardM false t77_67 (M.pure (nth vs_37 0))) fun t81_70 =>
    M.bind (guardM false t77_67 (idxSl 5 t80_69 t81_70)) fun t82_71 =>
    M.bind (guardM false t77_67 (addOff 2 t82_71)) fun t83_72 =>
    M.bind (guardM false t77_67 (ldN 3 t83_72)) fun t84_73 =>
    M.bind (guardM false t77_67 (addOff 3 t3_3)) fun t85_74 =>
    M.bind (guardM false t77_67 (ld1 t85_74)) fun t86_75 =>
    M.bind (guardM false t77_67 (M.pure (nth vs_37 0))) fun t87_76 =>
    M.bind (guardM false t77_67 (idxSl 5 t86_75 t87_76)) fun t88_77 =>
    M.bind (guardM false t77_67 (addOff 2 t88_77)) fun t89_78 =>
    M.bind (guardM false t77_67 (ldN 3 t89_78)) fun t90_79 =>
    M.bind (guardM false t77_67 (F53 [t84_73, t90_79])) fun t91_80 =>
    M.bind (guardM false t77_67 (un .not t91_80)) fun t92_81 =>
    M.bind (pick t77_67 (Go.Value.bool true) t92_81) fun t93_82 =>
    condM t93_82 (
    M.pure (.ret [(Go.Value.bool false)])) (
    M.bind (bin (.cell .int) .add (nth vs_37 0) (Go.Value.int Go.IntKind.i64 1)) fun t49_83 =>
    M.pure (.norm [t49_83]))
def b17_p1 (F51 F52 F53 : List Value → M Value) (t2_2 : Value) (t3_3 : Value) (vs_37 : List Value) : M J :=
    M.bind (addOff 3 t2_2) fun t44_38 =>
    M.bind (ld1 t44_38) fun t45_39 =>
    M.bind (lenSl t45_39) fun t46_40 =>
    M.bind (bin (.cell .int) .lss (nth vs_37 0) t46_40) fun t47_41 =>
    condM t47_41 (
    b17_p0 F51 F52 F53 t2_2 vs_37 t3_3) (
    M.pure (.exit 0 []))
def b17 (F51 F52 F53 : List Value → M Value) : Value → Value → M Value := fun a0 a1 =>

    M.bind (bump 2) fun b_1 =>
    M.bind (newCells b_1 (Value.cells a0).toList 43) fun t2_2 =>
    M.bind (newCells (b_1 + 1) (Value.cells a1).toList 43) fun t3_3 =>
    M.bind (addOff 0 t2_2) fun t6_4 =>
    M.bind (ld1 t6_4) fun t7_5 =>
    M.bind (addOff 0 t3_3) fun t8_6 =>
    M.bind (ld1 t8_6) fun t9_7 =>
    M.bind (bin (.cell .int) .neq t7_5 t9_7) fun t10_8 =>
    M.bind (guardM false t10_8 (addOff 1 t2_2)) fun t12_9 =>
    M.bind (guardM false t10_8 (ld1 t12_9)) fun t13_10 =>
    M.bind (guardM false t10_8 (addOff 1 t3_3)) fun t14_11 =>
    M.bind (guardM false t10_8 (ld1 t14_11)) fun t15_12 =>
    M.bind (guardM false t10_8 (bin (.cell .int) .neq t13_10 t15_12)) fun t16_13 =>
    M.bind (pick t10_8 (Go.Value.bool true) t16_13) fun t17_14 =>
    M.bind (guardM false t17_14 (addOff 2 t2_2)) fun t19_15 =>
    M.bind (guardM false t17_14 (ld1 t19_15)) fun t20_16 =>
    M.bind (guardM false t17_14 (addOff 2 t3_3)) fun t21_17 =>
    M.bind (guardM false t17_14 (ld1 t21_17)) fun t22_18 =>
    M.bind (guardM false t17_14 (F51 [t20_16, t22_18])) fun t23_19 =>
    M.bind (guardM false t17_14 (un .not t23_19)) fun t24_20 =>
    M.bind (pick t17_14 (Go.Value.bool true) t24_20) fun t25_21 =>
    M.bind (guardM false t25_21 (addOff 3 t2_2)) fun t27_22 =>
    M.bind (guardM false t25_21 (ld1 t27_22)) fun t28_23 =>
    M.bind (guardM false t25_21 (lenSl t28_23)) fun t29_24 =>
    M.bind (guardM false t25_21 (addOff 3 t3_3)) fun t30_25 =>
    M.bind (guardM false t25_21 (ld1 t30_25)) fun t31_26 =>
    M.bind (guardM false t25_21 (lenSl t31_26)) fun t32_27 =>
    M.bind (guardM false t25_21 (bin (.cell .int) .neq t29_24 t32_27)) fun t33_28 =>
    M.bind (pick t25_21 (Go.Value.bool true) t33_28) fun t34_29 =>
    M.bind (guardM false t34_29 (addOff 4 t2_2)) fun t36_30 =>
    M.bind (guardM false t34_29 (ld1 t36_30)) fun t37_31 =>
    M.bind (guardM false t34_29 (addOff 4 t3_3)) fun t38_32 =>
    M.bind (guardM false t34_29 (ld1 t38_32)) fun t39_33 =>
    M.bind (guardM false t34_29 (F52 [t37_31, t39_33])) fun t40_34 =>
    M.bind (guardM false t34_29 (un .not t40_34)) fun t41_35 =>
    M.bind (pick t34_29 (Go.Value.bool true) t41_35) fun t42_36 =>
    condM t42_36 (
    M.pure (Go.Value.bool false)) (
    M.bind (loopM (b17_p1 F51 F52 F53 t2_2 t3_3) [(Go.Value.int Go.IntKind.i64 0)]) (onJ (fun _ => M.stuck) (fun id_84 vs_84 =>
    cond (Nat.beq id_84 0) (
    M.pure (Go.Value.bool true)) (M.stuck)) (fun vs_84 =>
    M.pure (nth vs_84 0))))
noncomputable def k17 : Value → Value → M Value := b17 f51 f52 f53
noncomputable def f17 : List Value → M Value := ar2 k17
theorem b17_eq (F51 F52 F53 : List Value → M Value) (a0 a1 : Value) : b17 F51 F52 F53 a0 a1 = execFn TTab (T17 F51 F52 F53) Go.Proofs.Tryd.f17 h17 [a0, a1] := by kernel_rfl
theorem k17_eq (a0 a1 : Value) : k17 a0 a1 = execFn TTab GT17 Go.Proofs.Tryd.f17 h17 [a0, a1] := b17_eq f51 f52 f53 a0 a1
theorem f17_sum : Summ Go.Proofs.Tryd.prog 17 f17 := summ_of_exec tok GT17_sum (draw_sound tok GT17_sum mixed) Go.Proofs.Tryd.func17 (by kernel_rfl) rfl h17 (ar2_eq k17_eq)
/-- mailcoach/mailcoachlaw21.CodecBack -/
def h4 : Hint := (.seq .nil (.seq (.seq .nil (.cond (.seq .nil .nil) .nil)) (.seq (.seq .nil (.cond (.seq .nil .nil) .nil)) (.seq .nil (.seq .nil (.seq (.seq .nil (.cond (.seq .nil .nil) .nil)) (.seq .nil (.seq .nil (.seq .nil .nil)))))))))
abbrev T4 (F7 F13 F14 F15 F16 F17 : List Value → M Value) : FT := [(7, F7), (13, F13), (14, F14), (15, F15), (16, F16), (17, F17)]
noncomputable abbrev GT4 : FT := T4 f7 f13 f14 f15 f16 f17
theorem GT4_sum : Summs Go.Proofs.Tryd.prog GT4 := summs_cons f7_sum (summs_cons f13_sum (summs_cons f14_sum (summs_cons f15_sum (summs_cons f16_sum (summs_cons f17_sum (summs_nil))))))
def b4_p0 (F7 F13 F14 F15 F16 F17 : List Value → M Value) (t25_14 : Value) (t7_10 : Value) : M Value :=
    M.bind (bump 1) fun b_18 =>
    M.bind (F16 [t25_14]) fun t33_19 =>
    M.bind (extr 0 t33_19) fun t34_20 =>
    M.bind (extr 1 t33_19) fun t35_21 =>
    M.bind (newCells b_18 [.int .u64 0, .int .u64 0, .slice none 0 0, .slice none 0 0, .slice none 0 0] 43) fun t10_22 =>
    M.bind (stN 5 t10_22 t34_20) fun tu_23 =>
    M.bind (ldN 5 t10_22) fun t37_24 =>
    M.bind (F15 [t37_24]) fun t38_25 =>
    M.bind (extr 0 t38_25) fun t39_26 =>
    M.bind (extr 1 t38_25) fun t40_27 =>
    M.bind (bump 2) fun b_28 =>
    M.bind (bin (.cell .int) .eql t35_21 (Go.Value.int Go.IntKind.i64 0)) fun t42_29 =>
    M.bind (guardM true t42_29 (M.pure t40_27)) fun t44_30 =>
    M.bind (guardM true t42_29 (bin (.cell .int) .eql t44_30 (Go.Value.int Go.IntKind.i64 0))) fun t45_31 =>
    M.bind (pick t42_29 t45_31 (Go.Value.bool false)) fun t46_32 =>
    M.bind (guardM true t46_32 (ldN 5 t7_10)) fun t48_33 =>
    M.bind (guardM true t46_32 (ldN 5 t10_22)) fun t49_34 =>
    M.bind (guardM true t46_32 (F17 [t48_33, t49_34])) fun t50_35 =>
    M.bind (pick t46_32 t50_35 (Go.Value.bool false)) fun t51_36 =>
    M.bind (guardM true t51_36 (M.pure t25_14)) fun t53_37 =>
    M.bind (guardM true t51_36 (cvString t53_37)) fun t54_38 =>
    M.bind (guardM true t51_36 (M.pure t39_26)) fun t55_39 =>
    M.bind (guardM true t51_36 (cvString t55_39)) fun t56_40 =>
    M.bind (guardM true t51_36 (bin (.cell .str) .eql t54_38 t56_40)) fun t57_41 =>
    M.bind (pick t51_36 t57_41 (Go.Value.bool false)) fun t58_42 =>
    M.pure t58_42
def b4_p1 (F7 F13 F14 F15 F16 F17 : List Value → M Value) (t3_2 : Value) (a1 : Value) (a2 : Value) : M Value :=
    M.bind (bump 1) fun b_7 =>
    M.bind (ldN 5 t3_2) fun t18_8 =>
    M.bind (F14 [t18_8, a1, a2]) fun t21_9 =>
    M.bind (newCells b_7 [.int .u64 0, .int .u64 0, .slice none 0 0, .slice none 0 0, .slice none 0 0] 43) fun t7_10 =>
    M.bind (stN 5 t7_10 t21_9) fun tu_11 =>
    M.bind (ldN 5 t7_10) fun t23_12 =>
    M.bind (F15 [t23_12]) fun t24_13 =>
    M.bind (extr 0 t24_13) fun t25_14 =>
    M.bind (extr 1 t24_13) fun t26_15 =>
    M.bind (bin (.cell .int) .neq t26_15 (Go.Value.int Go.IntKind.i64 0)) fun t28_16 =>
    condM t28_16 (
    M.bind (bin (.cell .int) .eql t26_15 (Go.Value.int Go.IntKind.i64 3)) fun t30_17 =>
    M.pure t30_17) (
    b4_p0 F7 F13 F14 F15 F16 F17 t25_14 t7_10)
def b4 (F7 F13 F14 F15 F16 F17 : List Value → M Value) : Value → Value → Value → M Value := fun a0 a1 a2 =>

    M.bind (bump 1) fun b_1 =>
    M.bind (newCells b_1 (Value.cells a0).toList 43) fun t3_2 =>
    M.bind (F7 []) fun t14_3 =>
    M.bind (un .not t14_3) fun t15_4 =>
    condM t15_4 (
    M.pure (Go.Value.bool false)) (
    M.bind (ldN 5 t3_2) fun t16_5 =>
    M.bind (F13 [t16_5]) fun t17_6 =>
    condM t17_6 (
    M.pure (Go.Value.bool true)) (
    b4_p1 F7 F13 F14 F15 F16 F17 t3_2 a1 a2))
noncomputable def k4 : Value → Value → Value → M Value := b4 f7 f13 f14 f15 f16 f17
noncomputable def f4 : List Value → M Value := ar3 k4
theorem b4_eq (F7 F13 F14 F15 F16 F17 : List Value → M Value) (a0 a1 a2 : Value) : b4 F7 F13 F14 F15 F16 F17 a0 a1 a2 = execFn TTab (T4 F7 F13 F14 F15 F16 F17) Go.Proofs.Tryd.f4 h4 [a0, a1, a2] := by kernel_rfl
theorem k4_eq (a0 a1 a2 : Value) : k4 a0 a1 a2 = execFn TTab GT4 Go.Proofs.Tryd.f4 h4 [a0, a1, a2] := b4_eq f7 f13 f14 f15 f16 f17 a0 a1 a2
theorem f4_sum : Summ Go.Proofs.Tryd.prog 4 f4 := summ_of_exec tok GT4_sum (draw_sound tok GT4_sum mixed) Go.Proofs.Tryd.func4 (by kernel_rfl) rfl h4 (ar3_eq k4_eq)
/-- mailcoach/mailcoachlaw21.CodecOne -/
def h5 : Hint := (.seq .nil (.seq (.seq .nil (.cond (.seq .nil .nil) .nil)) (.seq (.seq .nil (.cond (.seq .nil .nil) .nil)) (.seq .nil (.seq (.seq .nil (.cond (.seq .nil .nil) .nil)) (.seq .nil (.seq .nil .nil)))))))
abbrev T5 (F7 F15 F16 : List Value → M Value) : FT := [(7, F7), (15, F15), (16, F16)]
noncomputable abbrev GT5 : FT := T5 f7 f15 f16
theorem GT5_sum : Summs Go.Proofs.Tryd.prog GT5 := summs_cons f7_sum (summs_cons f15_sum (summs_cons f16_sum (summs_nil)))
def b5_p0 (F7 F15 F16 : List Value → M Value) (t3_9 : Value) (a0 : Value) : M Value :=
    M.bind (ldN 5 t3_9) fun t20_12 =>
    M.bind (F15 [t20_12]) fun t21_13 =>
    M.bind (extr 0 t21_13) fun t22_14 =>
    M.bind (extr 1 t21_13) fun t23_15 =>
    M.bind (bump 2) fun b_16 =>
    M.bind (bin (.cell .int) .eql t23_15 (Go.Value.int Go.IntKind.i64 0)) fun t25_17 =>
    M.bind (guardM true t25_17 (M.pure a0)) fun t27_18 =>
    M.bind (guardM true t25_17 (cvString t27_18)) fun t28_19 =>
    M.bind (guardM true t25_17 (M.pure t22_14)) fun t29_20 =>
    M.bind (guardM true t25_17 (cvString t29_20)) fun t30_21 =>
    M.bind (guardM true t25_17 (bin (.cell .str) .eql t28_19 t30_21)) fun t31_22 =>
    M.bind (pick t25_17 t31_22 (Go.Value.bool false)) fun t32_23 =>
    M.bind (guardM false t32_23 (M.pure t23_15)) fun t34_24 =>
    M.bind (guardM false t32_23 (bin (.cell .int) .eql t34_24 (Go.Value.int Go.IntKind.i64 3))) fun t35_25 =>
    M.bind (guardM false t32_23 (M.pure t35_25)) fun t36_26 =>
    M.bind (guardM true t36_26 (M.pure a0)) fun t37_27 =>
    M.bind (guardM true t36_26 (lenSl t37_27)) fun t38_28 =>
    M.bind (guardM true t36_26 (bin (.cell .int) .gtr t38_28 (Go.Value.int Go.IntKind.i64 3840))) fun t39_29 =>
    M.bind (guardM false t32_23 (pick t36_26 t39_29 (Go.Value.bool false))) fun t40_30 =>
    M.bind (pick t32_23 (Go.Value.bool true) t40_30) fun t41_31 =>
    M.pure t41_31
def b5_p1 (F7 F15 F16 : List Value → M Value) (a0 : Value) : M Value :=
    M.bind (lenSl a0) fun t10_3 =>
    M.bind (bin (.cell .int) .gtr t10_3 (Go.Value.int Go.IntKind.i64 5000)) fun t11_4 =>
    condM t11_4 (
    M.pure (Go.Value.bool true)) (
    M.bind (bump 1) fun b_5 =>
    M.bind (F16 [a0]) fun t14_6 =>
    M.bind (extr 0 t14_6) fun t15_7 =>
    M.bind (extr 1 t14_6) fun t16_8 =>
    M.bind (newCells b_5 [.int .u64 0, .int .u64 0, .slice none 0 0, .slice none 0 0, .slice none 0 0] 43) fun t3_9 =>
    M.bind (stN 5 t3_9 t15_7) fun tu_10 =>
    M.bind (bin (.cell .int) .neq t16_8 (Go.Value.int Go.IntKind.i64 0)) fun t18_11 =>
    condM t18_11 (
    M.pure (Go.Value.bool true)) (
    b5_p0 F7 F15 F16 t3_9 a0))
def b5 (F7 F15 F16 : List Value → M Value) : Value → M Value := fun a0 =>

    M.bind (F7 []) fun t7_1 =>
    M.bind (un .not t7_1) fun t8_2 =>
    condM t8_2 (
    M.pure (Go.Value.bool false)) (
    b5_p1 F7 F15 F16 a0)
noncomputable def k5 : Value → M Value := b5 f7 f15 f16
noncomputable def f5 : List Value → M Value := ar1 k5
theorem b5_eq (F7 F15 F16 : List Value → M Value) (a0 : Value) : b5 F7 F15 F16 a0 = execFn TTab (T5 F7 F15 F16) Go.Proofs.Tryd.f5 h5 [a0] := by kernel_rfl
theorem k5_eq (a0 : Value) : k5 a0 = execFn TTab GT5 Go.Proofs.Tryd.f5 h5 [a0] := b5_eq f7 f15 f16 a0
theorem f5_sum : Summ Go.Proofs.Tryd.prog 5 f5 := summ_of_exec tok GT5_sum (draw_sound tok GT5_sum mixed) Go.Proofs.Tryd.func5 (by kernel_rfl) rfl h5 (ar1_eq k5_eq)
/-- mailcoach/mailcoachlaw21.CodecCut -/
def h6 : Hint := (.seq .nil (.seq (.seq .nil (.cond (.seq .nil .nil) .nil)) (.seq (.seq .nil (.cond (.seq .nil .nil) .nil)) (.seq (.seq .nil (.block (.loop [56] [0] [] (some [10]) (.seq .nil (.seq (.cond .nil .nil) (.seq (.block (.seq .nil (.seq .nil (.cond (.seq .nil .nil) .nil)))) .nil)))))) (.seq .nil (.seq .nil (.seq .nil (.seq (.seq .nil (.cond (.seq .nil .nil) .nil)) (.seq .nil (.seq .nil (.seq .nil (.seq .nil (.seq .nil .nil)))))))))))))
abbrev T6 (F7 F13 F14 F15 F16 F18 F19 : List Value → M Value) : FT := [(7, F7), (13, F13), (14, F14), (15, F15), (16, F16), (18, F18), (19, F19)]
noncomputable abbrev GT6 : FT := T6 f7 f13 f14 f15 f16 f18 f19
theorem GT6_sum : Summs Go.Proofs.Tryd.prog GT6 := summs_cons f7_sum (summs_cons f13_sum (summs_cons f14_sum (summs_cons f15_sum (summs_cons f16_sum (summs_cons f18_sum (summs_cons f19_sum (summs_nil)))))))
def b6_p0 (F7 F13 F14 F15 F16 F18 F19 : List Value → M Value) (t54_29 : Value) (vs_31 : List Value) : M J :=
    M.bind (bump 1) fun b_33 =>
    M.bind (idxSl 2 t54_29 (nth vs_31 0)) fun t58_34 =>
    M.bind (ldN 2 t58_34) fun t59_35 =>
    M.bind (newCells b_33 [.int .u64 0, .slice none 0 0] 58) fun t12_36 =>
    M.bind (stN 2 t12_36 t59_35) fun tu_37 =>
    M.bind (addOff 1 t12_36) fun t60_38 =>
    M.bind (ld1 t60_38) fun t61_39 =>
    M.bind (lenSl t61_39) fun t62_40 =>
    M.bind (bin (.cell .int) .gtr t62_40 (Go.Value.int Go.IntKind.i64 100)) fun t63_41 =>
    condM t63_41 (
    M.pure (.ret [(Go.Value.bool true)])) (
    M.bind (bin (.cell .int) .add (nth vs_31 0) (Go.Value.int Go.IntKind.i64 1)) fun t64_42 =>
    M.pure (.norm [t64_42]))
def b6_p1 (F7 F13 F14 F15 F16 F18 F19 : List Value → M Value) (t55_30 : Value) (t54_29 : Value) (vs_31 : List Value) : M J :=
    M.bind (bin (.cell .int) .lss (nth vs_31 0) t55_30) fun t57_32 =>
    condM t57_32 (
    b6_p0 F7 F13 F14 F15 F16 F18 F19 t54_29 vs_31) (
    M.pure (.exit 0 []))
def b6_p2 (F7 F13 F14 F15 F16 F18 F19 : List Value → M Value) (a4 : Value) (t75_52 : Value) (t80_56 : Value) : M Value :=
    M.bind (bump 4) fun b_63 =>
    M.bind (cvInt .u64 a4) fun t93_64 =>
    M.bind (lenSl t75_52) fun t95_65 =>
    M.bind (cvInt .u64 t95_65) fun t96_66 =>
    M.bind (bin (.cell .int) .rem t93_64 t96_66) fun t97_67 =>
    M.bind (cvInt .i64 t97_67) fun t98_68 =>
    M.bind (slSl 1 t75_52 none (some t98_68) none) fun t99_69 =>
    M.bind (F16 [t99_69]) fun t100_70 =>
    M.bind (extr 0 t100_70) fun t101_71 =>
    M.bind (extr 1 t100_70) fun t102_72 =>
    M.bind (newCells (b_63 + 3) [.int .u64 0, .int .u64 0, .slice none 0 0, .slice none 0 0, .slice none 0 0] 43) fun t17_73 =>
    M.bind (stN 5 t17_73 t101_71) fun tu_74 =>
    M.bind (bump 4) fun b_75 =>
    M.bind (cvInt .u64 a4) fun t106_76 =>
    M.bind (lenSl t80_56) fun t108_77 =>
    M.bind (cvInt .u64 t108_77) fun t109_78 =>
    M.bind (bin (.cell .int) .rem t106_76 t109_78) fun t110_79 =>
    M.bind (cvInt .i64 t110_79) fun t111_80 =>
    M.bind (slSl 1 t80_56 none (some t111_80) none) fun t112_81 =>
    M.bind (F19 [t112_81]) fun t113_82 =>
    M.bind (extr 0 t113_82) fun t114_83 =>
    M.bind (extr 1 t113_82) fun t115_84 =>
    M.bind (newCells (b_75 + 3) [.int .u8 0, .int .u8 0, .bool false, .int .i64 0, .int .u64 0, .int .u64 0, .int .u64 0, .int .u64 0, .int .u64 0, .int .u64 0, .int .u64 0, .string ⟨#[]⟩, .string ⟨#[]⟩, .slice none 0 0, .slice none 0 0] 56) fun t19_85 =>
    M.bind (stN 15 t19_85 t114_83) fun tu_86 =>
    M.bind (bump 3) fun b_87 =>
    M.bind (mkLitSl b_87 5 [.int .u8 0] 1 [(0, 1, (Go.Value.int Go.IntKind.u8 0))]) fun t118_88 =>
    M.bind (app (b_87 + 1) 5 1 1 t75_52 t118_88) fun t119_89 =>
    M.bind (F16 [t119_89]) fun t120_90 =>
    M.bind (extr 0 t120_90) fun t121_91 =>
    M.bind (extr 1 t120_90) fun t122_92 =>
    M.bind (newCells (b_87 + 2) [.int .u64 0, .int .u64 0, .slice none 0 0, .slice none 0 0, .slice none 0 0] 43) fun t21_93 =>
    M.bind (stN 5 t21_93 t121_91) fun tu_94 =>
    M.bind (bump 3) fun b_95 =>
    M.bind (mkLitSl b_95 5 [.int .u8 0] 1 [(0, 1, (Go.Value.int Go.IntKind.u8 0))]) fun t125_96 =>
    M.bind (app (b_95 + 1) 5 1 1 t80_56 t125_96) fun t126_97 =>
    M.bind (F19 [t126_97]) fun t127_98 =>
    M.bind (extr 0 t127_98) fun t128_99 =>
    M.bind (extr 1 t127_98) fun t129_100 =>
    M.bind (newCells (b_95 + 2) [.int .u8 0, .int .u8 0, .bool false, .int .i64 0, .int .u64 0, .int .u64 0, .int .u64 0, .int .u64 0, .int .u64 0, .int .u64 0, .int .u64 0, .string ⟨#[]⟩, .string ⟨#[]⟩, .slice none 0 0, .slice none 0 0] 56) fun t23_101 =>
    M.bind (stN 15 t23_101 t128_99) fun tu_102 =>
    M.bind (bin (.cell .int) .eql t102_72 (Go.Value.int Go.IntKind.i64 4)) fun t131_103 =>
    M.bind (guardM true t131_103 (M.pure t115_84)) fun t133_104 =>
    M.bind (guardM true t131_103 (bin (.cell .int) .neq t133_104 (Go.Value.int Go.IntKind.i64 0))) fun t134_105 =>
    M.bind (pick t131_103 t134_105 (Go.Value.bool false)) fun t135_106 =>
    M.bind (guardM true t135_106 (M.pure t122_92)) fun t137_107 =>
    M.bind (guardM true t135_106 (bin (.cell .int) .eql t137_107 (Go.Value.int Go.IntKind.i64 5))) fun t138_108 =>
    M.bind (pick t135_106 t138_108 (Go.Value.bool false)) fun t139_109 =>
    M.bind (guardM true t139_109 (M.pure t129_100)) fun t141_110 =>
    M.bind (guardM true t139_109 (bin (.cell .int) .eql t141_110 (Go.Value.int Go.IntKind.i64 5))) fun t142_111 =>
    M.bind (guardM true t139_109 (M.pure t142_111)) fun t143_112 =>
    M.bind (guardM false t143_112 (M.pure t129_100)) fun t144_113 =>
    M.bind (guardM false t143_112 (bin (.cell .int) .eql t144_113 (Go.Value.int Go.IntKind.i64 6))) fun t145_114 =>
    M.bind (guardM true t139_109 (pick t143_112 (Go.Value.bool true) t145_114)) fun t146_115 =>
    M.bind (pick t139_109 t146_115 (Go.Value.bool false)) fun t147_116 =>
    M.pure t147_116
def b6_p3 (F7 F13 F14 F15 F16 F18 F19 : List Value → M Value) (t8_3 : Value) (t5_2 : Value) (a1 : Value) (a2 : Value) (a4 : Value) : M Value :=
    M.bind (addOff 3 t8_3) fun t65_44 =>
    M.bind (ld1 t65_44) fun t66_45 =>
    M.bind (bin (.cell .int) .and t66_45 (Go.Value.int Go.IntKind.i64 255)) fun t67_46 =>
    M.bind (addOff 3 t8_3) fun t68_47 =>
    M.bind (st1 t68_47 t67_46) fun tu_48 =>
    M.bind (ldN 5 t5_2) fun t70_49 =>
    M.bind (F14 [t70_49, a1, a2]) fun t73_50 =>
    M.bind (F15 [t73_50]) fun t74_51 =>
    M.bind (extr 0 t74_51) fun t75_52 =>
    M.bind (extr 1 t74_51) fun t76_53 =>
    M.bind (ldN 15 t8_3) fun t78_54 =>
    M.bind (F18 [t78_54]) fun t79_55 =>
    M.bind (extr 0 t79_55) fun t80_56 =>
    M.bind (extr 1 t79_55) fun t81_57 =>
    M.bind (bin (.cell .int) .neq t76_53 (Go.Value.int Go.IntKind.i64 0)) fun t83_58 =>
    M.bind (guardM false t83_58 (M.pure t81_57)) fun t85_59 =>
    M.bind (guardM false t83_58 (bin (.cell .int) .neq t85_59 (Go.Value.int Go.IntKind.i64 0))) fun t86_60 =>
    M.bind (pick t83_58 (Go.Value.bool true) t86_60) fun t87_61 =>
    condM t87_61 (
    M.bind (bin (.cell .int) .eql t76_53 (Go.Value.int Go.IntKind.i64 3)) fun t89_62 =>
    M.pure t89_62) (
    b6_p2 F7 F13 F14 F15 F16 F18 F19 a4 t75_52 t80_56)
def b6_p4 (F7 F13 F14 F15 F16 F18 F19 : List Value → M Value) (t5_2 : Value) (t8_3 : Value) (a1 : Value) (a2 : Value) (a4 : Value) : M Value :=
    M.bind (ldN 5 t5_2) fun t27_6 =>
    M.bind (F13 [t27_6]) fun t28_7 =>
    M.bind (guardM false t28_7 (addOff 11 t8_3)) fun t30_8 =>
    M.bind (guardM false t28_7 (ld1 t30_8)) fun t31_9 =>
    M.bind (guardM false t28_7 (lenStr t31_9)) fun t32_10 =>
    M.bind (guardM false t28_7 (bin (.cell .int) .gtr t32_10 (Go.Value.int Go.IntKind.i64 100))) fun t33_11 =>
    M.bind (pick t28_7 (Go.Value.bool true) t33_11) fun t34_12 =>
    M.bind (guardM false t34_12 (addOff 12 t8_3)) fun t36_13 =>
    M.bind (guardM false t34_12 (ld1 t36_13)) fun t37_14 =>
    M.bind (guardM false t34_12 (lenStr t37_14)) fun t38_15 =>
    M.bind (guardM false t34_12 (bin (.cell .int) .gtr t38_15 (Go.Value.int Go.IntKind.i64 100))) fun t39_16 =>
    M.bind (pick t34_12 (Go.Value.bool true) t39_16) fun t40_17 =>
    M.bind (guardM false t40_17 (addOff 13 t8_3)) fun t42_18 =>
    M.bind (guardM false t40_17 (ld1 t42_18)) fun t43_19 =>
    M.bind (guardM false t40_17 (lenSl t43_19)) fun t44_20 =>
    M.bind (guardM false t40_17 (bin (.cell .int) .gtr t44_20 (Go.Value.int Go.IntKind.i64 100))) fun t45_21 =>
    M.bind (pick t40_17 (Go.Value.bool true) t45_21) fun t46_22 =>
    M.bind (guardM false t46_22 (addOff 14 t8_3)) fun t48_23 =>
    M.bind (guardM false t46_22 (ld1 t48_23)) fun t49_24 =>
    M.bind (guardM false t46_22 (lenSl t49_24)) fun t50_25 =>
    M.bind (guardM false t46_22 (bin (.cell .int) .gtr t50_25 (Go.Value.int Go.IntKind.i64 10))) fun t51_26 =>
    M.bind (pick t46_22 (Go.Value.bool true) t51_26) fun t52_27 =>
    condM t52_27 (
    M.pure (Go.Value.bool true)) (
    M.bind (addOff 14 t8_3) fun t53_28 =>
    M.bind (ld1 t53_28) fun t54_29 =>
    M.bind (lenSl t54_29) fun t55_30 =>
    M.bind (loopM (b6_p1 F7 F13 F14 F15 F16 F18 F19 t55_30 t54_29) [(Go.Value.int Go.IntKind.i64 0)]) (onJ (fun _ => M.stuck) (fun id_43 vs_43 =>
    cond (Nat.beq id_43 0) (
    b6_p3 F7 F13 F14 F15 F16 F18 F19 t8_3 t5_2 a1 a2 a4) (M.stuck)) (fun vs_43 =>
    M.pure (nth vs_43 0))))
def b6 (F7 F13 F14 F15 F16 F18 F19 : List Value → M Value) : Value → Value → Value → Value → Value → M Value := fun a0 a1 a2 a3 a4 =>

    M.bind (bump 2) fun b_1 =>
    M.bind (newCells b_1 (Value.cells a0).toList 43) fun t5_2 =>
    M.bind (newCells (b_1 + 1) (Value.cells a3).toList 56) fun t8_3 =>
    M.bind (F7 []) fun t25_4 =>
    M.bind (un .not t25_4) fun t26_5 =>
    condM t26_5 (
    M.pure (Go.Value.bool false)) (
    b6_p4 F7 F13 F14 F15 F16 F18 F19 t5_2 t8_3 a1 a2 a4)
noncomputable def k6 : Value → Value → Value → Value → Value → M Value := b6 f7 f13 f14 f15 f16 f18 f19
noncomputable def f6 : List Value → M Value := ar5 k6
theorem b6_eq (F7 F13 F14 F15 F16 F18 F19 : List Value → M Value) (a0 a1 a2 a3 a4 : Value) : b6 F7 F13 F14 F15 F16 F18 F19 a0 a1 a2 a3 a4 = execFn TTab (T6 F7 F13 F14 F15 F16 F18 F19) Go.Proofs.Tryd.f6 h6 [a0, a1, a2, a3, a4] := by kernel_rfl
theorem k6_eq (a0 a1 a2 a3 a4 : Value) : k6 a0 a1 a2 a3 a4 = execFn TTab GT6 Go.Proofs.Tryd.f6 h6 [a0, a1, a2, a3, a4] := b6_eq f7 f13 f14 f15 f16 f18 f19 a0 a1 a2 a3 a4
theorem f6_sum : Summ Go.Proofs.Tryd.prog 6 f6 := summ_of_exec tok GT6_sum (draw_sound tok GT6_sum mixed) Go.Proofs.Tryd.func6 (by kernel_rfl) rfl h6 (ar5_eq k6_eq)
end Go.Vm.Tryd
end
