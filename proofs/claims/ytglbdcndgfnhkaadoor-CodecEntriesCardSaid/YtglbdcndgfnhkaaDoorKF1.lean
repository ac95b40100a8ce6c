/- Parts of the proof. -/
import Derived.Test.YtglbdcndgfnhkaaDoorKF0
import Derived.Test.YtglbdcndgfnhkaaDoorKX
section
set_option linter.unusedVariables false
set_option maxRecDepth 100000
set_option maxHeartbeats 1000000
namespace Go.Vm.Tryd
open Go Go.Vm
/-- slices.siftDownCmpFunc[mailcoach/api.Line] -/
def h102 : Hint := (.seq .nil (.block (.loop [10] [0] [] (some []) (.block (.seq .nil (.seq (.seq .nil (.cond .nil .nil)) (.seq (.seq (.draw [0, 1, 2, 3, 4, 5, 6, 7, 8, 9, 10, 11, 12, 13, 14, 15, 16, 17, 18, 19, 20, 21]) (.condJ [11] [] [] none .nil .nil)) (.seq (.seq (.draw [0, 1, 2, 3, 4, 5, 6, 7, 8, 9, 10, 11, 12, 13, 14, 15]) (.cond .nil .nil)) (.seq (.draw [0, 1, 2, 3, 4, 5, 6, 7, 8, 9, 10, 11, 12, 13, 14, 15, 16, 17, 18, 19, 20, 21, 22, 23]) .nil)))))))))
abbrev T102 : FT := []
noncomputable abbrev GT102 : FT := T102 
theorem GT102_sum : Summs Go.Proofs.Tryd.prog GT102 := summs_nil
def b102_p0 (a3 : Value) (vs_1 : List Value) (vs_26 : List Value) (a0 : Value) : M J :=
    M.bind (bumpC 0) fun b_37 =>
    M.bind (bin (.cell .int) .add a3 (nth vs_1 0)) fun t62_38 =>
    M.bind (bin (.cell .int) .add a3 (nth vs_26 0)) fun t66_39 =>
    M.bind (bin (.cell .int) .add a3 (nth vs_26 0)) fun t70_40 =>
    M.bind (idxSl 5 a0 t70_40) fun t71_41 =>
    M.bind (ldN 5 t71_41) fun t72_42 =>
    M.bind (bin (.cell .int) .add a3 (nth vs_1 0)) fun t76_43 =>
    M.bind (idxSl 5 a0 t76_43) fun t77_44 =>
    M.bind (ldN 5 t77_44) fun t78_45 =>
    M.bind (idxSl 5 a0 t62_38) fun t79_46 =>
    M.bind (stN 5 t79_46 t72_42) fun tu_47 =>
    M.bind (idxSl 5 a0 t66_39) fun t80_48 =>
    M.bind (stN 5 t80_48 t78_45) fun tu_49 =>
    M.pure (.norm [(nth vs_26 0)])
def b102_p1 (a3 : Value) (vs_1 : List Value) (a0 : Value) (a4 : Value) (vs_26 : List Value) : M J :=
    M.bind (bumpC 0) fun b_27 =>
    M.bind (bin (.cell .int) .add a3 (nth vs_1 0)) fun t47_28 =>
    M.bind (idxSl 5 a0 t47_28) fun t48_29 =>
    M.bind (ldN 5 t48_29) fun t49_30 =>
    M.bind (bin (.cell .int) .add a3 (nth vs_26 0)) fun t53_31 =>
    M.bind (idxSl 5 a0 t53_31) fun t54_32 =>
    M.bind (ldN 5 t54_32) fun t55_33 =>
    M.bind (callV (T102 ) a4 [t49_30, t55_33]) fun t56_34 =>
    M.bind (bin (.cell .int) .lss t56_34 (Go.Value.int Go.IntKind.i64 0)) fun t57_35 =>
    M.bind (un .not t57_35) fun t58_36 =>
    condM t58_36 (
    M.pure (.ret [])) (
    b102_p0 a3 vs_1 vs_26 a0)
def b102_p2 (t15_3 : Value) (a2 : Value) (a4 : Value) (a0 : Value) (a3 : Value) (vs_1 : List Value) : M J :=
    M.bind (bumpC 0) fun b_5 =>
    M.bind (bin (.cell .int) .add t15_3 (Go.Value.int Go.IntKind.i64 1)) fun t20_6 =>
    M.bind (bin (.cell .int) .lss t20_6 a2) fun t22_7 =>
    M.bind (guardM true t22_7 (M.pure a4)) fun t24_8 =>
    M.bind (guardM true t22_7 (M.pure a0)) fun t25_9 =>
    M.bind (guardM true t22_7 (M.pure a3)) fun t26_10 =>
    M.bind (guardM true t22_7 (M.pure t15_3)) fun t27_11 =>
    M.bind (guardM true t22_7 (bin (.cell .int) .add t26_10 t27_11)) fun t28_12 =>
    M.bind (guardM true t22_7 (idxSl 5 t25_9 t28_12)) fun t29_13 =>
    M.bind (guardM true t22_7 (ldN 5 t29_13)) fun t30_14 =>
    M.bind (guardM true t22_7 (M.pure a0)) fun t31_15 =>
    M.bind (guardM true t22_7 (M.pure a3)) fun t32_16 =>
    M.bind (guardM true t22_7 (M.pure t15_3)) fun t33_17 =>
    M.bind (guardM true t22_7 (bin (.cell .int) .add t32_16 t33_17)) fun t34_18 =>
    M.bind (guardM true t22_7 (bin (.cell .int) .add t34_18 (Go.Value.int Go.IntKind.i64 1))) fun t35_19 =>
    M.bind (guardM true t22_7 (idxSl 5 t31_15 t35_19)) fun t36_20 =>
    M.bind (guardM true t22_7 (ldN 5 t36_20)) fun t37_21 =>
    M.bind (guardM true t22_7 (callV (T102 ) t24_8 [t30_14, t37_21])) fun t38_22 =>
    M.bind (guardM true t22_7 (bin (.cell .int) .lss t38_22 (Go.Value.int Go.IntKind.i64 0))) fun t39_23 =>
    M.bind (pick t22_7 t39_23 (Go.Value.bool false)) fun t40_24 =>
    M.bind (condM t40_24 (
    M.bind (bin (.cell .int) .add t15_3 (Go.Value.int Go.IntKind.i64 1)) fun t42_25 =>
    M.pure (.norm [t42_25])) (
    M.pure (.norm [t15_3]))) (onJ (b102_p1 a3 vs_1 a0 a4) (fun _ _ => M.stuck) (fun _ => M.stuck))
def b102_p3 (a2 : Value) (a4 : Value) (a0 : Value) (a3 : Value) (vs_1 : List Value) : M J :=
    M.bind (bin (.cell .int) .mul (Go.Value.int Go.IntKind.i64 2) (nth vs_1 0)) fun t14_2 =>
    M.bind (bin (.cell .int) .add t14_2 (Go.Value.int Go.IntKind.i64 1)) fun t15_3 =>
    M.bind (bin (.cell .int) .geq t15_3 a2) fun t18_4 =>
    condM t18_4 (
    M.pure (.exit 0 [])) (
    b102_p2 t15_3 a2 a4 a0 a3 vs_1)
def b102 : Value → Value → Value → Value → Value → M Value := fun a0 a1 a2 a3 a4 =>

    M.bind (loopM (b102_p3 a2 a4 a0 a3) [a1]) (onJ (fun _ => M.stuck) (fun id_50 vs_50 =>
    cond (Nat.beq id_50 0) (
    M.pure (.tuple #[])) (M.stuck)) (fun vs_50 =>
    M.pure (.tuple #[])))
noncomputable def k102 : Value → Value → Value → Value → Value → M Value := b102 
noncomputable def f102 : List Value → M Value := ar5 k102
theorem b102_eq (a0 a1 a2 a3 a4 : Value) : b102  a0 a1 a2 a3 a4 = execFn TTab (T102 ) Go.Proofs.Tryd.f102 h102 [a0, a1, a2, a3, a4] := by kernel_rfl
theorem k102_eq (a0 a1 a2 a3 a4 : Value) : k102 a0 a1 a2 a3 a4 = execFn TTab GT102 Go.Proofs.Tryd.f102 h102 [a0, a1, a2, a3, a4] := b102_eq  a0 a1 a2 a3 a4
theorem f102_sum : Summ Go.Proofs.Tryd.prog 102 f102 := summ_of_exec tok GT102_sum (draw_sound tok GT102_sum mixed) Go.Proofs.Tryd.func102 (by kernel_rfl) rfl h102 (ar5_eq k102_eq)
/-- slices.heapSortCmpFunc[mailcoach/api.Line] -/
def h93 : Hint := (.seq .nil (.seq .nil (.seq .nil (.seq (.seq .nil (.block (.loop [11] [0] [] none (.seq (.seq .nil (.cond .nil .nil)) (.seq (.block .nil) .nil))))) (.seq .nil (.block (.loop [12] [2] [] none (.seq (.seq .nil (.cond .nil .nil)) (.seq (.block (.seq (.draw [0, 1, 2, 3, 4, 5, 6, 7, 8, 9, 10, 11, 12, 13, 14, 15, 16, 17, 18, 19]) .nil)) .nil)))))))))
abbrev T93 (F102 : List Value → M Value) : FT := [(102, F102)]
noncomputable abbrev GT93 : FT := T93 f102
theorem GT93_sum : Summs Go.Proofs.Tryd.prog GT93 := summs_cons f102_sum (summs_nil)
def b93_p0 (F102 : List Value → M Value) (a0 : Value) (t16_1 : Value) (a1 : Value) (a3 : Value) (vs_4 : List Value) : M J :=
    M.bind (bin (.cell .int) .geq (nth vs_4 0) (Go.Value.int Go.IntKind.i64 0)) fun t21_5 =>
    condM t21_5 (
    M.bind (F102 [a0, (nth vs_4 0), t16_1, a1, a3]) fun t29_6 =>
    M.bind (bin (.cell .int) .sub (nth vs_4 0) (Go.Value.int Go.IntKind.i64 1)) fun t23_7 =>
    M.pure (.norm [t23_7])) (
    M.pure (.exit 0 []))
def b93_p1 (F102 : List Value → M Value) (a1 : Value) (vs_10 : List Value) (a0 : Value) (a3 : Value) : M J :=
    M.bind (bumpC 0) fun b_12 =>
    M.bind (bin (.cell .int) .add a1 (nth vs_10 0)) fun t41_13 =>
    M.bind (bin (.cell .int) .add a1 (nth vs_10 0)) fun t45_14 =>
    M.bind (idxSl 5 a0 t45_14) fun t46_15 =>
    M.bind (ldN 5 t46_15) fun t47_16 =>
    M.bind (idxSl 5 a0 a1) fun t50_17 =>
    M.bind (ldN 5 t50_17) fun t51_18 =>
    M.bind (idxSl 5 a0 a1) fun t52_19 =>
    M.bind (stN 5 t52_19 t47_16) fun tu_20 =>
    M.bind (idxSl 5 a0 t41_13) fun t53_21 =>
    M.bind (stN 5 t53_21 t51_18) fun tu_22 =>
    M.bind (F102 [a0, (Go.Value.int Go.IntKind.i64 0), (nth vs_10 0), a1, a3]) fun t59_23 =>
    M.bind (bin (.cell .int) .sub (nth vs_10 0) (Go.Value.int Go.IntKind.i64 1)) fun t35_24 =>
    M.pure (.norm [t35_24])
def b93_p2 (F102 : List Value → M Value) (a1 : Value) (a0 : Value) (a3 : Value) (vs_10 : List Value) : M J :=
    M.bind (bin (.cell .int) .geq (nth vs_10 0) (Go.Value.int Go.IntKind.i64 0)) fun t33_11 =>
    condM t33_11 (
    b93_p1 F102 a1 vs_10 a0 a3) (
    M.pure (.exit 2 []))
def b93 (F102 : List Value → M Value) : Value → Value → Value → Value → M Value := fun a0 a1 a2 a3 =>

    M.bind (bin (.cell .int) .sub a2 a1) fun t16_1 =>
    M.bind (bin (.cell .int) .sub t16_1 (Go.Value.int Go.IntKind.i64 1)) fun t18_2 =>
    M.bind (bin (.cell .int) .quo t18_2 (Go.Value.int Go.IntKind.i64 2)) fun t19_3 =>
    M.bind (loopM (b93_p0 F102 a0 t16_1 a1 a3) [t19_3]) (onJ (fun _ => M.stuck) (fun id_8 vs_8 =>
    cond (Nat.beq id_8 0) (
    M.bind (bin (.cell .int) .sub t16_1 (Go.Value.int Go.IntKind.i64 1)) fun t31_9 =>
    M.bind (loopM (b93_p2 F102 a1 a0 a3) [t31_9]) (onJ (fun _ => M.stuck) (fun id_25 vs_25 =>
    cond (Nat.beq id_25 2) (
    M.pure (.tuple #[])) (M.stuck)) (fun _ => M.stuck))) (M.stuck)) (fun _ => M.stuck))
noncomputable def k93 : Value → Value → Value → Value → M Value := b93 f102
noncomputable def f93 : List Value → M Value := ar4 k93
theorem b93_eq (F102 : List Value → M Value) (a0 a1 a2 a3 : Value) : b93 F102 a0 a1 a2 a3 = execFn TTab (T93 F102) Go.Proofs.Tryd.f93 h93 [a0, a1, a2, a3] := by kernel_rfl
theorem k93_eq (a0 a1 a2 a3 : Value) : k93 a0 a1 a2 a3 = execFn TTab GT93 Go.Proofs.Tryd.f93 h93 [a0, a1, a2, a3] := b93_eq f102 a0 a1 a2 a3
theorem f93_sum : Summ Go.Proofs.Tryd.prog 93 f93 := summ_of_exec tok GT93_sum (draw_sound tok GT93_sum mixed) Go.Proofs.Tryd.func93 (by kernel_rfl) rfl h93 (ar4_eq k93_eq)
/-- math/bits.Len32 -/
def h100 : Hint := (.seq .nil (.seq (.seq .nil (.condJ [0, 2] [] [] none (.seq .nil .nil) .nil)) (.seq (.seq .nil (.condJ [0, 2] [] [] none (.seq .nil .nil) .nil)) (.seq .nil .nil))))
abbrev T100 : FT := []
noncomputable abbrev GT100 : FT := T100 
theorem GT100_sum : Summs Go.Proofs.Tryd.prog GT100 := summs_nil
def b100_p0 (vs_3 : List Value) : M Value :=
    M.bind (bin (.cell .int) .geq (nth vs_3 0) (Go.Value.int Go.IntKind.u32 256)) fun t8_4 =>
    M.bind (condM t8_4 (
    M.bind (bin (.cell .int) .shr (nth vs_3 0) (Go.Value.int Go.IntKind.u64 8)) fun t10_5 =>
    M.bind (bin (.cell .int) .add (nth vs_3 1) (Go.Value.int Go.IntKind.i64 8)) fun t12_6 =>
    M.pure (.norm [t10_5, t12_6])) (
    M.pure (.norm [(nth vs_3 0), (nth vs_3 1)]))) (onJ (fun vs_7 =>
    M.bind (bump 2) fun b_8 =>
    M.bind (cvInt .u8 (nth vs_7 0)) fun t15_9 =>
    M.bind (idxStr (Go.Value.string (ByteArray.mk #[0, 1, 2, 2, 3, 3, 3, 3, 4, 4, 4, 4, 4, 4, 4, 4, 5, 5, 5, 5, 5, 5, 5, 5, 5, 5, 5, 5, 5, 5, 5, 5, 6, 6, 6, 6, 6, 6, 6, 6, 6, 6, 6, 6, 6, 6, 6, 6, 6, 6, 6, 6, 6, 6, 6, 6, 6, 6, 6, 6, 6, 6, 6, 6, 7, 7, 7, 7, 7, 7, 7, 7, 7, 7, 7, 7, 7, 7, 7, 7, 7, 7, 7, 7, 7, 7, 7, 7, 7, 7, 7, 7, 7, 7, 7, 7, 7, 7, 7, 7, 7, 7, 7, 7, 7, 7, 7, 7, 7, 7, 7, 7, 7, 7, 7, 7, 7, 7, 7, 7, 7, 7, 7, 7, 7, 7, 7, 7, 8, 8, 8, 8, 8, 8, 8, 8, 8, 8, 8, 8, 8, 8, 8, 8, 8, 8, 8, 8, 8, 8, 8, 8, 8, 8, 8, 8, 8, 8, 8, 8, 8, 8, 8, 8, 8, 8, 8, 8, 8, 8, 8, 8, 8, 8, 8, 8, 8, 8, 8, 8, 8, 8, 8, 8, 8, 8, 8, 8, 8, 8, 8, 8, 8, 8, 8, 8, 8, 8, 8, 8, 8, 8, 8, 8, 8, 8, 8, 8, 8, 8, 8, 8, 8, 8, 8, 8, 8, 8, 8, 8, 8, 8, 8, 8, 8, 8, 8, 8, 8, 8, 8, 8, 8, 8, 8, 8, 8, 8, 8, 8, 8, 8, 8, 8, 8, 8, 8, 8, 8, 8, 8, 8, 8, 8, 8, 8])) t15_9) fun t16_10 =>
    M.bind (cvInt .i64 t16_10) fun t17_11 =>
    M.bind (bin (.cell .int) .add (nth vs_7 1) t17_11) fun t18_12 =>
    M.pure t18_12) (fun _ _ => M.stuck) (fun _ => M.stuck))
def b100 : Value → M Value := fun a0 =>

    M.bind (bin (.cell .int) .geq a0 (Go.Value.int Go.IntKind.u32 65536)) fun t4_1 =>
    M.bind (condM t4_1 (
    M.bind (bin (.cell .int) .shr a0 (Go.Value.int Go.IntKind.u64 16)) fun t6_2 =>
    M.pure (.norm [t6_2, (Go.Value.int Go.IntKind.i64 16)])) (
    M.pure (.norm [a0, (Go.Value.int Go.IntKind.i64 0)]))) (onJ (b100_p0 ) (fun _ _ => M.stuck) (fun _ => M.stuck))
noncomputable def k100 : Value → M Value := b100 
noncomputable def f100 : List Value → M Value := ar1 k100
theorem b100_eq (a0 : Value) : b100  a0 = execFn TTab (T100 ) Go.Proofs.Tryd.f100 h100 [a0] := by kernel_rfl
theorem k100_eq (a0 : Value) : k100 a0 = execFn TTab GT100 Go.Proofs.Tryd.f100 h100 [a0] := b100_eq  a0
theorem f100_sum : Summ Go.Proofs.Tryd.prog 100 f100 := summ_of_exec tok GT100_sum (draw_sound tok GT100_sum mixed) Go.Proofs.Tryd.func100 (by kernel_rfl) rfl h100 (ar1_eq k100_eq)
/-- math/bits.Len64 -/
def h101 : Hint := (.seq .nil (.seq (.seq .nil (.condJ [0, 2] [] [] none (.seq .nil .nil) .nil)) (.seq (.seq .nil (.condJ [0, 2] [] [] none (.seq .nil .nil) .nil)) (.seq (.seq .nil (.condJ [0, 2] [] [] none (.seq .nil .nil) .nil)) (.seq .nil .nil)))))
abbrev T101 : FT := []
noncomputable abbrev GT101 : FT := T101 
theorem GT101_sum : Summs Go.Proofs.Tryd.prog GT101 := summs_nil
def b101_p0 (vs_7 : List Value) : M Value :=
    M.bind (bin (.cell .int) .geq (nth vs_7 0) (Go.Value.int Go.IntKind.u64 256)) fun t14_8 =>
    M.bind (condM t14_8 (
    M.bind (bin (.cell .int) .shr (nth vs_7 0) (Go.Value.int Go.IntKind.u64 8)) fun t16_9 =>
    M.bind (bin (.cell .int) .add (nth vs_7 1) (Go.Value.int Go.IntKind.i64 8)) fun t18_10 =>
    M.pure (.norm [t16_9, t18_10])) (
    M.pure (.norm [(nth vs_7 0), (nth vs_7 1)]))) (onJ (fun vs_11 =>
    M.bind (bump 2) fun b_12 =>
    M.bind (cvInt .u8 (nth vs_11 0)) fun t21_13 =>
    M.bind (idxStr (Go.Value.string (ByteArray.mk #[0, 1, 2, 2, 3, 3, 3, 3, 4, 4, 4, 4, 4, 4, 4, 4, 5, 5, 5, 5, 5, 5, 5, 5, 5, 5, 5, 5, 5, 5, 5, 5, 6, 6, 6, 6, 6, 6, 6, 6, 6, 6, 6, 6, 6, 6, 6, 6, 6, 6, 6, 6, 6, 6, 6, 6, 6, 6, 6, 6, 6, 6, 6, 6, 7, 7, 7, 7, 7, 7, 7, 7, 7, 7, 7, 7, 7, 7, 7, 7, 7, 7, 7, 7, 7, 7, 7, 7, 7, 7, 7, 7, 7, 7, 7, 7, 7, 7, 7, 7, 7, 7, 7, 7, 7, 7, 7, 7, 7, 7, 7, 7, 7, 7, 7, 7, 7, 7, 7, 7, 7, 7, 7, 7, 7, 7, 7, 7, 8, 8, 8, 8, 8, 8, 8, 8, 8, 8, 8, 8, 8, 8, 8, 8, 8, 8, 8, 8, 8, 8, 8, 8, 8, 8, 8, 8, 8, 8, 8, 8, 8, 8, 8, 8, 8, 8, 8, 8, 8, 8, 8, 8, 8, 8, 8, 8, 8, 8, 8, 8, 8, 8, 8, 8, 8, 8, 8, 8, 8, 8, 8, 8, 8, 8, 8, 8, 8, 8, 8, 8, 8, 8, 8, 8, 8, 8, 8, 8, 8, 8, 8, 8, 8, 8, 8, 8, 8, 8, 8, 8, 8, 8, 8, 8, 8, 8, 8, 8, 8, 8, 8, 8, 8, 8, 8, 8, 8, 8, 8, 8, 8, 8, 8, 8, 8, 8, 8, 8, 8, 8, 8, 8, 8, 8, 8, 8])) t21_13) fun t22_14 =>
    M.bind (cvInt .i64 t22_14) fun t23_15 =>
    M.bind (bin (.cell .int) .add (nth vs_11 1) t23_15) fun t24_16 =>
    M.pure t24_16) (fun _ _ => M.stuck) (fun _ => M.stuck))
def b101 : Value → M Value := fun a0 =>

    M.bind (bin (.cell .int) .geq a0 (Go.Value.int Go.IntKind.u64 4294967296)) fun t4_1 =>
    M.bind (condM t4_1 (
    M.bind (bin (.cell .int) .shr a0 (Go.Value.int Go.IntKind.u64 32)) fun t6_2 =>
    M.pure (.norm [t6_2, (Go.Value.int Go.IntKind.i64 32)])) (
    M.pure (.norm [a0, (Go.Value.int Go.IntKind.i64 0)]))) (onJ (fun vs_3 =>
    M.bind (bin (.cell .int) .geq (nth vs_3 0) (Go.Value.int Go.IntKind.u64 65536)) fun t8_4 =>
    M.bind (condM t8_4 (
    M.bind (bin (.cell .int) .shr (nth vs_3 0) (Go.Value.int Go.IntKind.u64 16)) fun t10_5 =>
    M.bind (bin (.cell .int) .add (nth vs_3 1) (Go.Value.int Go.IntKind.i64 16)) fun t12_6 =>
    M.pure (.norm [t10_5, t12_6])) (
    M.pure (.norm [(nth vs_3 0), (nth vs_3 1)]))) (onJ (b101_p0 ) (fun _ _ => M.stuck) (fun _ => M.stuck))) (fun _ _ => M.stuck) (fun _ => M.stuck))
noncomputable def k101 : Value → M Value := b101 
noncomputable def f101 : List Value → M Value := ar1 k101
theorem b101_eq (a0 : Value) : b101  a0 = execFn TTab (T101 ) Go.Proofs.Tryd.f101 h101 [a0] := by kernel_rfl
theorem k101_eq (a0 : Value) : k101 a0 = execFn TTab GT101 Go.Proofs.Tryd.f101 h101 [a0] := b101_eq  a0
theorem f101_sum : Summ Go.Proofs.Tryd.prog 101 f101 := summ_of_exec tok GT101_sum (draw_sound tok GT101_sum mixed) Go.Proofs.Tryd.func101 (by kernel_rfl) rfl h101 (ar1_eq k101_eq)
/-- math/bits.Len -/
def h90 : Hint := (.seq .nil (.seq (.cond (.seq .nil .nil) .nil) (.seq .nil .nil)))
abbrev T90 (F100 F101 : List Value → M Value) : FT := [(100, F100), (101, F101)]
noncomputable abbrev GT90 : FT := T90 f100 f101
theorem GT90_sum : Summs Go.Proofs.Tryd.prog GT90 := summs_cons f100_sum (summs_cons f101_sum (summs_nil))
def b90 (F100 F101 : List Value → M Value) : Value → M Value := fun a0 =>

    condM (Go.Value.bool false) (
    M.bind (bump 1) fun b_1 =>
    M.bind (cvInt .u32 a0) fun t4_2 =>
    M.bind (F100 [t4_2]) fun t5_3 =>
    M.pure t5_3) (
    M.bind (F101 [a0]) fun t7_4 =>
    M.pure t7_4)
noncomputable def k90 : Value → M Value := b90 f100 f101
noncomputable def f90 : List Value → M Value := ar1 k90
theorem b90_eq (F100 F101 : List Value → M Value) (a0 : Value) : b90 F100 F101 a0 = execFn TTab (T90 F100 F101) Go.Proofs.Tryd.f90 h90 [a0] := by kernel_rfl
theorem k90_eq (a0 : Value) : k90 a0 = execFn TTab GT90 Go.Proofs.Tryd.f90 h90 [a0] := b90_eq f100 f101 a0
theorem f90_sum : Summ Go.Proofs.Tryd.prog 90 f90 := summ_of_exec tok GT90_sum (draw_sound tok GT90_sum mixed) Go.Proofs.Tryd.func90 (by kernel_rfl) rfl h90 (ar1_eq k90_eq)
/-- slices.nextPowerOfTwo -/
def h103 : Hint := (.seq .nil (.seq .nil .nil))
abbrev T103 (F90 : List Value → M Value) : FT := [(90, F90)]
noncomputable abbrev GT103 : FT := T103 f90
theorem GT103_sum : Summs Go.Proofs.Tryd.prog GT103 := summs_cons f90_sum (summs_nil)
def b103 (F90 : List Value → M Value) : Value → M Value := fun a0 =>

    M.bind (bump 1) fun b_1 =>
    M.bind (cvInt .u64 a0) fun t4_2 =>
    M.bind (F90 [t4_2]) fun t5_3 =>
    M.bind (bin (.cell .int) .shl (Go.Value.int Go.IntKind.u64 1) t5_3) fun t6_4 =>
    M.pure t6_4
noncomputable def k103 : Value → M Value := b103 f90
noncomputable def f103 : List Value → M Value := ar1 k103
theorem b103_eq (F90 : List Value → M Value) (a0 : Value) : b103 F90 a0 = execFn TTab (T103 F90) Go.Proofs.Tryd.f103 h103 [a0] := by kernel_rfl
theorem k103_eq (a0 : Value) : k103 a0 = execFn TTab GT103 Go.Proofs.Tryd.f103 h103 [a0] := b103_eq f90 a0
theorem f103_sum : Summ Go.Proofs.Tryd.prog 103 f103 := summ_of_exec tok GT103_sum (draw_sound tok GT103_sum mixed) Go.Proofs.Tryd.func103 (by kernel_rfl) rfl h103 (ar1_eq k103_eq)
/-- (*slices.xorshift).Next -/
def h104 : Hint := (.seq .nil (.seq (.draw [0, 1, 2, 3, 4, 5, 6, 7, 8, 9]) (.seq (.draw [0, 1, 2, 3, 4, 5, 6, 7, 8, 9]) (.seq (.draw [0, 1, 2, 3, 4, 5, 6, 7, 8, 9]) (.seq .nil .nil)))))
abbrev T104 : FT := []
noncomputable abbrev GT104 : FT := T104 
theorem GT104_sum : Summs Go.Proofs.Tryd.prog GT104 := summs_nil
def b104 : Value → M Value := fun a0 =>

    M.bind (bumpC 0) fun b_1 =>
    M.bind (nilChk a0) fun t4_2 =>
    M.bind (ld1 t4_2) fun t5_3 =>
    M.bind (nilChk a0) fun t7_4 =>
    M.bind (ld1 t7_4) fun t8_5 =>
    M.bind (bin (.cell .int) .shl t8_5 (Go.Value.int Go.IntKind.u64 13)) fun t9_6 =>
    M.bind (bin (.cell .int) .xor t5_3 t9_6) fun t10_7 =>
    M.bind (nilChk a0) fun t11_8 =>
    M.bind (st1 t11_8 t10_7) fun tu_9 =>
    M.bind (bumpC 0) fun b_10 =>
    M.bind (nilChk a0) fun t13_11 =>
    M.bind (ld1 t13_11) fun t14_12 =>
    M.bind (nilChk a0) fun t16_13 =>
    M.bind (ld1 t16_13) fun t17_14 =>
    M.bind (bin (.cell .int) .shr t17_14 (Go.Value.int Go.IntKind.u64 7)) fun t18_15 =>
    M.bind (bin (.cell .int) .xor t14_12 t18_15) fun t19_16 =>
    M.bind (nilChk a0) fun t20_17 =>
    M.bind (st1 t20_17 t19_16) fun tu_18 =>
    M.bind (bumpC 0) fun b_19 =>
    M.bind (nilChk a0) fun t22_20 =>
    M.bind (ld1 t22_20) fun t23_21 =>
    M.bind (nilChk a0) fun t25_22 =>
    M.bind (ld1 t25_22) fun t26_23 =>
    M.bind (bin (.cell .int) .shl t26_23 (Go.Value.int Go.IntKind.u64 17)) fun t27_24 =>
    M.bind (bin (.cell .int) .xor t23_21 t27_24) fun t28_25 =>
    M.bind (nilChk a0) fun t29_26 =>
    M.bind (st1 t29_26 t28_25) fun tu_27 =>
    M.bind (nilChk a0) fun t31_28 =>
    M.bind (ld1 t31_28) fun t32_29 =>
    M.pure t32_29
noncomputable def k104 : Value → M Value := b104 
noncomputable def f104 : List Value → M Value := ar1 k104
theorem b104_eq (a0 : Value) : b104  a0 = execFn TTab (T104 ) Go.Proofs.Tryd.f104 h104 [a0] := by kernel_rfl
theorem k104_eq (a0 : Value) : k104 a0 = execFn TTab GT104 Go.Proofs.Tryd.f104 h104 [a0] := b104_eq  a0
theorem f104_sum : Summ Go.Proofs.Tryd.prog 104 f104 := summ_of_exec tok GT104_sum (draw_sound tok GT104_sum mixed) Go.Proofs.Tryd.func104 (by kernel_rfl) rfl h104 (ar1_eq k104_eq)
/-- slices.breakPatternsCmpFunc[mailcoach/api.Line] -/
def h94 : Hint := (.seq .nil (.seq .nil (.condJ [] [] [] none (.seq .nil (.seq .nil (.seq .nil (.block (.loop [11] [0] [] none (.seq (.seq .nil (.cond .nil .nil)) (.seq (.block (.seq .nil (.seq (.seq .nil (.condJ [12] [] [] none .nil .nil)) (.draw [0, 1, 2, 3, 4, 5, 6, 7, 8, 9, 10, 11, 12, 13, 14, 15, 16, 17, 18, 19])))) .nil))))))) .nil)))
abbrev T94 (F103 F104 : List Value → M Value) : FT := [(103, F103), (104, F104)]
noncomputable abbrev GT94 : FT := T94 f103 f104
theorem GT94_sum : Summs Go.Proofs.Tryd.prog GT94 := summs_cons f103_sum (summs_cons f104_sum (summs_nil))
def b94_p0 (F103 F104 : List Value → M Value) (a1 : Value) (a0 : Value) (vs_12 : List Value) (vs_25 : List Value) : M J :=
    M.bind (bumpC 0) fun b_26 =>
    M.bind (bin (.cell .int) .add a1 (nth vs_25 0)) fun t54_27 =>
    M.bind (bin (.cell .int) .add a1 (nth vs_25 0)) fun t58_28 =>
    M.bind (idxSl 5 a0 t58_28) fun t59_29 =>
    M.bind (ldN 5 t59_29) fun t60_30 =>
    M.bind (idxSl 5 a0 (nth vs_12 0)) fun t63_31 =>
    M.bind (ldN 5 t63_31) fun t64_32 =>
    M.bind (idxSl 5 a0 (nth vs_12 0)) fun t65_33 =>
    M.bind (stN 5 t65_33 t60_30) fun tu_34 =>
    M.bind (idxSl 5 a0 t54_27) fun t66_35 =>
    M.bind (stN 5 t66_35 t64_32) fun tu_36 =>
    M.bind (bin (.cell .int) .add (nth vs_12 0) (Go.Value.int Go.IntKind.i64 1)) fun t37_37 =>
    M.pure (.norm [t37_37])
def b94_p1 (F103 F104 : List Value → M Value) (t15_1 : Value) (a1 : Value) (t9_5 : Value) (t21_7 : Value) (a0 : Value) (vs_12 : List Value) : M J :=
    M.bind (bin (.cell .int) .quo t15_1 (Go.Value.int Go.IntKind.i64 4)) fun t31_13 =>
    M.bind (bin (.cell .int) .mul t31_13 (Go.Value.int Go.IntKind.i64 2)) fun t32_14 =>
    M.bind (bin (.cell .int) .add a1 t32_14) fun t33_15 =>
    M.bind (bin (.cell .int) .add t33_15 (Go.Value.int Go.IntKind.i64 1)) fun t34_16 =>
    M.bind (bin (.cell .int) .leq (nth vs_12 0) t34_16) fun t35_17 =>
    condM t35_17 (
    M.bind (bump 1) fun b_18 =>
    M.bind (F104 [t9_5]) fun t38_19 =>
    M.bind (bin (.cell .int) .sub t21_7 (Go.Value.int Go.IntKind.u64 1)) fun t40_20 =>
    M.bind (bin (.cell .int) .and t38_19 t40_20) fun t41_21 =>
    M.bind (cvInt .i64 t41_21) fun t42_22 =>
    M.bind (bin (.cell .int) .geq t42_22 t15_1) fun t45_23 =>
    M.bind (condM t45_23 (
    M.bind (bin (.cell .int) .sub t42_22 t15_1) fun t48_24 =>
    M.pure (.norm [t48_24])) (
    M.pure (.norm [t42_22]))) (onJ (b94_p0 F103 F104 a1 a0 vs_12) (fun _ _ => M.stuck) (fun _ => M.stuck))) (
    M.pure (.exit 0 []))
def b94_p2 (F103 F104 : List Value → M Value) (t15_1 : Value) (a1 : Value) (a0 : Value) : M J :=
    M.bind (bump 2) fun b_3 =>
    M.bind (cvInt .u64 t15_1) fun t19_4 =>
    M.bind (newCells (b_3 + 1) [.int .u64 0] 189) fun t9_5 =>
    M.bind (st1 t9_5 t19_4) fun tu_6 =>
    M.bind (F103 [t15_1]) fun t21_7 =>
    M.bind (bin (.cell .int) .quo t15_1 (Go.Value.int Go.IntKind.i64 4)) fun t24_8 =>
    M.bind (bin (.cell .int) .mul t24_8 (Go.Value.int Go.IntKind.i64 2)) fun t25_9 =>
    M.bind (bin (.cell .int) .add a1 t25_9) fun t26_10 =>
    M.bind (bin (.cell .int) .sub t26_10 (Go.Value.int Go.IntKind.i64 1)) fun t27_11 =>
    M.bind (loopM (b94_p1 F103 F104 t15_1 a1 t9_5 t21_7 a0) [t27_11]) (onJ (fun _ => M.stuck) (fun id_38 vs_38 =>
    cond (Nat.beq id_38 0) (
    M.pure (.norm [])) (M.stuck)) (fun _ => M.stuck))
def b94 (F103 F104 : List Value → M Value) : Value → Value → Value → Value → M Value := fun a0 a1 a2 a3 =>

    M.bind (bin (.cell .int) .sub a2 a1) fun t15_1 =>
    M.bind (bin (.cell .int) .geq t15_1 (Go.Value.int Go.IntKind.i64 8)) fun t17_2 =>
    M.bind (condM t17_2 (
    b94_p2 F103 F104 t15_1 a1 a0) (
    M.pure (.norm []))) (onJ (fun vs_39 =>
    M.pure (.tuple #[])) (fun _ _ => M.stuck) (fun _ => M.stuck))
noncomputable def k94 : Value → Value → Value → Value → M Value := b94 f103 f104
noncomputable def f94 : List Value → M Value := ar4 k94
theorem b94_eq (F103 F104 : List Value → M Value) (a0 a1 a2 a3 : Value) : b94 F103 F104 a0 a1 a2 a3 = execFn TTab (T94 F103 F104) Go.Proofs.Tryd.f94 h94 [a0, a1, a2, a3] := by kernel_rfl
theorem k94_eq (a0 a1 a2 a3 : Value) : k94 a0 a1 a2 a3 = execFn TTab GT94 Go.Proofs.Tryd.f94 h94 [a0, a1, a2, a3] := b94_eq f103 f104 a0 a1 a2 a3
theorem f94_sum : Summ Go.Proofs.Tryd.prog 94 f94 := summ_of_exec tok GT94_sum (draw_sound tok GT94_sum mixed) Go.Proofs.Tryd.func94 (by kernel_rfl) rfl h94 (ar4_eq k94_eq)
/-- slices.order2CmpFunc[mailcoach/api.Line] -/
def h107 : Hint := (.seq .nil (.seq (.seq (.draw [0, 1, 2, 3, 4, 5, 6, 7, 8, 9, 10]) (.cond (.seq .nil (.seq .nil .nil)) .nil)) (.seq .nil .nil)))
abbrev T107 : FT := []
noncomputable abbrev GT107 : FT := T107 
theorem GT107_sum : Summs Go.Proofs.Tryd.prog GT107 := summs_nil
def b107 : Value → Value → Value → Value → Value → M Value := fun a0 a1 a2 a3 a4 =>

    M.bind (bumpC 0) fun b_1 =>
    M.bind (idxSl 5 a0 a2) fun t15_2 =>
    M.bind (ldN 5 t15_2) fun t16_3 =>
    M.bind (idxSl 5 a0 a1) fun t19_4 =>
    M.bind (ldN 5 t19_4) fun t20_5 =>
    M.bind (callV (T107 ) a4 [t16_3, t20_5]) fun t21_6 =>
    M.bind (bin (.cell .int) .lss t21_6 (Go.Value.int Go.IntKind.i64 0)) fun t22_7 =>
    condM t22_7 (
    M.bind (nilChk a3) fun t24_8 =>
    M.bind (ld1 t24_8) fun t25_9 =>
    M.bind (bin (.cell .int) .add t25_9 (Go.Value.int Go.IntKind.i64 1)) fun t26_10 =>
    M.bind (nilChk a3) fun t27_11 =>
    M.bind (st1 t27_11 t26_10) fun tu_12 =>
    M.pure (.tuple #[a2, a1])) (
    M.pure (.tuple #[a1, a2]))
noncomputable def k107 : Value → Value → Value → Value → Value → M Value := b107 
noncomputable def f107 : List Value → M Value := ar5 k107
theorem b107_eq (a0 a1 a2 a3 a4 : Value) : b107  a0 a1 a2 a3 a4 = execFn TTab (T107 ) Go.Proofs.Tryd.f107 h107 [a0, a1, a2, a3, a4] := by kernel_rfl
theorem k107_eq (a0 a1 a2 a3 a4 : Value) : k107 a0 a1 a2 a3 a4 = execFn TTab GT107 Go.Proofs.Tryd.f107 h107 [a0, a1, a2, a3, a4] := b107_eq  a0 a1 a2 a3 a4
theorem f107_sum : Summ Go.Proofs.Tryd.prog 107 f107 := summ_of_exec tok GT107_sum (draw_sound tok GT107_sum mixed) Go.Proofs.Tryd.func107 (by kernel_rfl) rfl h107 (ar5_eq k107_eq)
/-- slices.medianCmpFunc[mailcoach/api.Line] -/
def h106 : Hint := (.seq .nil (.seq .nil (.seq .nil (.seq .nil (.seq .nil .nil)))))
abbrev T106 (F107 : List Value → M Value) : FT := [(107, F107)]
noncomputable abbrev GT106 : FT := T106 f107
theorem GT106_sum : Summs Go.Proofs.Tryd.prog GT106 := summs_cons f107_sum (summs_nil)
def b106 (F107 : List Value → M Value) : Value → Value → Value → Value → Value → Value → M Value := fun a0 a1 a2 a3 a4 a5 =>

    M.bind (F107 [a0, a1, a2, a4, a5]) fun t19_1 =>
    M.bind (extr 0 t19_1) fun t20_2 =>
    M.bind (extr 1 t19_1) fun t21_3 =>
    M.bind (F107 [a0, t21_3, a3, a4, a5]) fun t28_4 =>
    M.bind (extr 0 t28_4) fun t29_5 =>
    M.bind (extr 1 t28_4) fun t30_6 =>
    M.bind (F107 [a0, t20_2, t29_5, a4, a5]) fun t37_7 =>
    M.bind (extr 0 t37_7) fun t38_8 =>
    M.bind (extr 1 t37_7) fun t39_9 =>
    M.pure t39_9
noncomputable def k106 : Value → Value → Value → Value → Value → Value → M Value := b106 f107
noncomputable def f106 : List Value → M Value := ar6 k106
theorem b106_eq (F107 : List Value → M Value) (a0 a1 a2 a3 a4 a5 : Value) : b106 F107 a0 a1 a2 a3 a4 a5 = execFn TTab (T106 F107) Go.Proofs.Tryd.f106 h106 [a0, a1, a2, a3, a4, a5] := by kernel_rfl
theorem k106_eq (a0 a1 a2 a3 a4 a5 : Value) : k106 a0 a1 a2 a3 a4 a5 = execFn TTab GT106 Go.Proofs.Tryd.f106 h106 [a0, a1, a2, a3, a4, a5] := b106_eq f107 a0 a1 a2 a3 a4 a5
theorem f106_sum : Summ Go.Proofs.Tryd.prog 106 f106 := summ_of_exec tok GT106_sum (draw_sound tok GT106_sum mixed) Go.Proofs.Tryd.func106 (by kernel_rfl) rfl h106 (ar6_eq k106_eq)
/-- slices.medianAdjacentCmpFunc[mailcoach/api.Line] -/
def h105 : Hint := (.seq .nil (.seq .nil .nil))
abbrev T105 (F106 : List Value → M Value) : FT := [(106, F106)]
noncomputable abbrev GT105 : FT := T105 f106
theorem GT105_sum : Summs Go.Proofs.Tryd.prog GT105 := summs_cons f106_sum (summs_nil)
def b105 (F106 : List Value → M Value) : Value → Value → Value → Value → M Value := fun a0 a1 a2 a3 =>

    M.bind (bin (.cell .int) .sub a1 (Go.Value.int Go.IntKind.i64 1)) fun t11_1 =>
    M.bind (bin (.cell .int) .add a1 (Go.Value.int Go.IntKind.i64 1)) fun t14_2 =>
    M.bind (F106 [a0, t11_1, a1, t14_2, a2, a3]) fun t17_3 =>
    M.pure t17_3
noncomputable def k105 : Value → Value → Value → Value → M Value := b105 f106
noncomputable def f105 : List Value → M Value := ar4 k105
theorem b105_eq (F106 : List Value → M Value) (a0 a1 a2 a3 : Value) : b105 F106 a0 a1 a2 a3 = execFn TTab (T105 F106) Go.Proofs.Tryd.f105 h105 [a0, a1, a2, a3] := by kernel_rfl
theorem k105_eq (a0 a1 a2 a3 : Value) : k105 a0 a1 a2 a3 = execFn TTab GT105 Go.Proofs.Tryd.f105 h105 [a0, a1, a2, a3] := b105_eq f106 a0 a1 a2 a3
theorem f105_sum : Summ Go.Proofs.Tryd.prog 105 f105 := summ_of_exec tok GT105_sum (draw_sound tok GT105_sum mixed) Go.Proofs.Tryd.func105 (by kernel_rfl) rfl h105 (ar4_eq k105_eq)
/-- slices.choosePivotCmpFunc[mailcoach/api.Line] -/
def h95 : Hint := (.seq .nil (.seq .nil (.seq .nil (.seq .nil (.seq .nil (.seq .nil (.seq (.seq .nil (.condJ [13] [] [] none (.seq (.seq .nil (.condJ [12, 13, 14] [] [] none (.seq .nil (.seq .nil .nil)) .nil)) .nil) .nil)) (.seq .nil (.block (.seq .nil (.cond (.seq .nil .nil) (.seq .nil (.cond (.seq .nil .nil) (.seq .nil .nil))))))))))))))
abbrev T95 (F105 F106 : List Value → M Value) : FT := [(105, F105), (106, F106)]
noncomputable abbrev GT95 : FT := T95 f105 f106
theorem GT95_sum : Summs Go.Proofs.Tryd.prog GT95 := summs_cons f105_sum (summs_cons f106_sum (summs_nil))
def b95 (F105 F106 : List Value → M Value) : Value → Value → Value → Value → M Value := fun a0 a1 a2 a3 =>

    M.bind (bin (.cell .int) .sub a2 a1) fun t17_1 =>
    M.bind (bump 1) fun b_2 =>
    M.bind (newCells b_2 [.int .i64 0] 3) fun t11_3 =>
    M.bind (bin (.cell .int) .quo t17_1 (Go.Value.int Go.IntKind.i64 4)) fun t20_4 =>
    M.bind (bin (.cell .int) .mul t20_4 (Go.Value.int Go.IntKind.i64 1)) fun t21_5 =>
    M.bind (bin (.cell .int) .add a1 t21_5) fun t22_6 =>
    M.bind (bin (.cell .int) .quo t17_1 (Go.Value.int Go.IntKind.i64 4)) fun t25_7 =>
    M.bind (bin (.cell .int) .mul t25_7 (Go.Value.int Go.IntKind.i64 2)) fun t26_8 =>
    M.bind (bin (.cell .int) .add a1 t26_8) fun t27_9 =>
    M.bind (bin (.cell .int) .quo t17_1 (Go.Value.int Go.IntKind.i64 4)) fun t30_10 =>
    M.bind (bin (.cell .int) .mul t30_10 (Go.Value.int Go.IntKind.i64 3)) fun t31_11 =>
    M.bind (bin (.cell .int) .add a1 t31_11) fun t32_12 =>
    M.bind (bin (.cell .int) .geq t17_1 (Go.Value.int Go.IntKind.i64 8)) fun t34_13 =>
    M.bind (condM t34_13 (
    M.bind (bin (.cell .int) .geq t17_1 (Go.Value.int Go.IntKind.i64 50)) fun t36_14 =>
    M.bind (condM t36_14 (
    M.bind (F105 [a0, t22_6, t11_3, a3]) fun t40_15 =>
    M.bind (F105 [a0, t27_9, t11_3, a3]) fun t44_16 =>
    M.bind (F105 [a0, t32_12, t11_3, a3]) fun t48_17 =>
    M.pure (.norm [t40_15, t44_16, t48_17])) (
    M.pure (.norm [t22_6, t27_9, t32_12]))) (onJ (fun vs_18 =>
    M.bind (F106 [a0, (nth vs_18 0), (nth vs_18 1), (nth vs_18 2), t11_3, a3]) fun t54_19 =>
    M.pure (.norm [t54_19])) (fun _ _ => M.stuck) (fun _ => M.stuck))) (
    M.pure (.norm [t27_9]))) (onJ (fun vs_20 =>
    M.bind (ld1 t11_3) fun t55_21 =>
    M.bind (bin (.cell .int) .eql t55_21 (Go.Value.int Go.IntKind.i64 0)) fun t58_22 =>
    condM t58_22 (
    M.pure (.tuple #[(nth vs_20 0), (Go.Value.int Go.IntKind.i64 1)])) (
    M.bind (bin (.cell .int) .eql t55_21 (Go.Value.int Go.IntKind.i64 12)) fun t61_23 =>
    condM t61_23 (
    M.pure (.tuple #[(nth vs_20 0), (Go.Value.int Go.IntKind.i64 2)])) (
    M.pure (.tuple #[(nth vs_20 0), (Go.Value.int Go.IntKind.i64 0)])))) (fun _ _ => M.stuck) (fun _ => M.stuck))
noncomputable def k95 : Value → Value → Value → Value → M Value := b95 f105 f106
noncomputable def f95 : List Value → M Value := ar4 k95
theorem b95_eq (F105 F106 : List Value → M Value) (a0 a1 a2 a3 : Value) : b95 F105 F106 a0 a1 a2 a3 = execFn TTab (T95 F105 F106) Go.Proofs.Tryd.f95 h95 [a0, a1, a2, a3] := by kernel_rfl
theorem k95_eq (a0 a1 a2 a3 : Value) : k95 a0 a1 a2 a3 = execFn TTab GT95 Go.Proofs.Tryd.f95 h95 [a0, a1, a2, a3] := b95_eq f105 f106 a0 a1 a2 a3
theorem f95_sum : Summ Go.Proofs.Tryd.prog 95 f95 := summ_of_exec tok GT95_sum (draw_sound tok GT95_sum mixed) Go.Proofs.Tryd.func95 (by kernel_rfl) rfl h95 (ar4_eq k95_eq)
/-- slices.reverseRangeCmpFunc[mailcoach/api.Line] -/
def h96 : Hint := (.seq .nil (.seq .nil (.block (.loop [8, 9] [0] [] none (.seq (.seq .nil (.cond .nil .nil)) (.block (.seq (.draw [0, 1, 2, 3, 4, 5, 6, 7, 8, 9, 10, 11, 12, 13, 14, 15]) (.seq .nil .nil))))))))
abbrev T96 : FT := []
noncomputable abbrev GT96 : FT := T96 
theorem GT96_sum : Summs Go.Proofs.Tryd.prog GT96 := summs_nil
def b96_p0 (a0 : Value) (vs_2 : List Value) : M J :=
    M.bind (bumpC 0) fun b_4 =>
    M.bind (idxSl 5 a0 (nth vs_2 1)) fun t22_5 =>
    M.bind (ldN 5 t22_5) fun t23_6 =>
    M.bind (idxSl 5 a0 (nth vs_2 0)) fun t26_7 =>
    M.bind (ldN 5 t26_7) fun t27_8 =>
    M.bind (idxSl 5 a0 (nth vs_2 0)) fun t28_9 =>
    M.bind (stN 5 t28_9 t23_6) fun tu_10 =>
    M.bind (idxSl 5 a0 (nth vs_2 1)) fun t29_11 =>
    M.bind (stN 5 t29_11 t27_8) fun tu_12 =>
    M.bind (bin (.cell .int) .add (nth vs_2 0) (Go.Value.int Go.IntKind.i64 1)) fun t31_13 =>
    M.bind (bin (.cell .int) .sub (nth vs_2 1) (Go.Value.int Go.IntKind.i64 1)) fun t33_14 =>
    M.pure (.norm [t31_13, t33_14])
def b96_p1 (a0 : Value) (vs_2 : List Value) : M J :=
    M.bind (bin (.cell .int) .lss (nth vs_2 0) (nth vs_2 1)) fun t15_3 =>
    condM t15_3 (
    b96_p0 a0 vs_2) (
    M.pure (.exit 0 []))
def b96 : Value → Value → Value → Value → M Value := fun a0 a1 a2 a3 =>

    M.bind (bin (.cell .int) .sub a2 (Go.Value.int Go.IntKind.i64 1)) fun t12_1 =>
    M.bind (loopM (b96_p1 a0) [a1, t12_1]) (onJ (fun _ => M.stuck) (fun id_15 vs_15 =>
    cond (Nat.beq id_15 0) (
    M.pure (.tuple #[])) (M.stuck)) (fun _ => M.stuck))
noncomputable def k96 : Value → Value → Value → Value → M Value := b96 
noncomputable def f96 : List Value → M Value := ar4 k96
theorem b96_eq (a0 a1 a2 a3 : Value) : b96  a0 a1 a2 a3 = execFn TTab (T96 ) Go.Proofs.Tryd.f96 h96 [a0, a1, a2, a3] := by kernel_rfl
theorem k96_eq (a0 a1 a2 a3 : Value) : k96 a0 a1 a2 a3 = execFn TTab GT96 Go.Proofs.Tryd.f96 h96 [a0, a1, a2, a3] := b96_eq  a0 a1 a2 a3
theorem f96_sum : Summ Go.Proofs.Tryd.prog 96 f96 := summ_of_exec tok GT96_sum (draw_sound tok GT96_sum mixed) Go.Proofs.Tryd.func96 (by kernel_rfl) rfl h96 (ar4_eq k96_eq)
/-- slices.partialInsertionSortCmpFunc[mailcoach/api.Line] -/
def h97 : Hint := (.seq .nil (.seq .nil (.seq (.seq .nil (.block (.loop [9, 10] [0] [] (some [8]) (.seq (.seq .nil (.cond .nil .nil)) (.seq (.block (.seq (.block (.loop [9] [2] [9] none (.seq (.seq (.draw [0, 1, 2, 3, 4, 5, 6, 7, 8, 9, 10, 11, 12, 13, 14, 15, 16, 17]) (.cond .nil .nil)) (.block .nil)))) (.seq (.seq .nil (.cond (.seq .nil .nil) .nil)) (.seq (.seq .nil (.cond (.seq .nil .nil) .nil)) (.seq (.draw [0, 1, 2, 3, 4, 5, 6, 7, 8, 9, 10, 11, 12, 13, 14, 15, 16, 17]) (.seq (.seq .nil (.condJ [] [] [] none (.seq .nil (.block (.loop [11] [4] [] none (.seq (.seq .nil (.cond .nil .nil)) (.seq (.block (.seq (.seq (.draw [0, 1, 2, 3, 4, 5, 6, 7, 8, 9, 10, 11, 12]) (.cond .nil .nil)) (.draw [0, 1, 2, 3, 4, 5, 6, 7, 8, 9, 10, 11, 12, 13, 14, 15, 16, 17]))) .nil))))) .nil)) (.seq .nil (.condJ [] [] [] none (.seq .nil (.block (.loop [12] [6] [] none (.seq (.seq .nil (.cond .nil .nil)) (.seq (.block (.seq (.seq (.draw [0, 1, 2, 3, 4, 5, 6, 7, 8, 9, 10, 11, 12]) (.cond .nil .nil)) (.draw [0, 1, 2, 3, 4, 5, 6, 7, 8, 9, 10, 11, 12, 13, 14, 15, 16, 17]))) .nil))))) .nil)))))))) .nil))))) (.seq .nil .nil))))
abbrev T97 : FT := []
noncomputable abbrev GT97 : FT := T97 
theorem GT97_sum : Summs Go.Proofs.Tryd.prog GT97 := summs_nil
def b97_p0 (a2 : Value) (a3 : Value) (a0 : Value) (vs_4 : List Value) : M J :=
    M.bind (bumpC 0) fun b_5 =>
    M.bind (bin (.cell .int) .lss (nth vs_4 0) a2) fun t21_6 =>
    M.bind (guardM true t21_6 (M.pure a3)) fun t23_7 =>
    M.bind (guardM true t21_6 (M.pure a0)) fun t24_8 =>
    M.bind (guardM true t21_6 (M.pure (nth vs_4 0))) fun t25_9 =>
    M.bind (guardM true t21_6 (idxSl 5 t24_8 t25_9)) fun t26_10 =>
    M.bind (guardM true t21_6 (ldN 5 t26_10)) fun t27_11 =>
    M.bind (guardM true t21_6 (M.pure a0)) fun t28_12 =>
    M.bind (guardM true t21_6 (M.pure (nth vs_4 0))) fun t29_13 =>
    M.bind (guardM true t21_6 (bin (.cell .int) .sub t29_13 (Go.Value.int Go.IntKind.i64 1))) fun t30_14 =>
    M.bind (guardM true t21_6 (idxSl 5 t28_12 t30_14)) fun t31_15 =>
    M.bind (guardM true t21_6 (ldN 5 t31_15)) fun t32_16 =>
    M.bind (guardM true t21_6 (callV (T97 ) t23_7 [t27_11, t32_16])) fun t33_17 =>
    M.bind (guardM true t21_6 (bin (.cell .int) .lss t33_17 (Go.Value.int Go.IntKind.i64 0))) fun t34_18 =>
    M.bind (guardM true t21_6 (un .not t34_18)) fun t35_19 =>
    M.bind (pick t21_6 t35_19 (Go.Value.bool false)) fun t36_20 =>
    condM t36_20 (
    M.bind (bin (.cell .int) .add (nth vs_4 0) (Go.Value.int Go.IntKind.i64 1)) fun t38_21 =>
    M.pure (.norm [t38_21])) (
    M.pure (.exit 2 [(nth vs_4 0)]))
def b97_p1 (vs_40 : List Value) (a0 : Value) : M J :=
    M.bind (bumpC 0) fun b_51 =>
    M.bind (bin (.cell .int) .sub (nth vs_40 0) (Go.Value.int Go.IntKind.i64 1)) fun t89_52 =>
    M.bind (bin (.cell .int) .sub (nth vs_40 0) (Go.Value.int Go.IntKind.i64 1)) fun t92_53 =>
    M.bind (idxSl 5 a0 t92_53) fun t93_54 =>
    M.bind (ldN 5 t93_54) fun t94_55 =>
    M.bind (idxSl 5 a0 (nth vs_40 0)) fun t97_56 =>
    M.bind (ldN 5 t97_56) fun t98_57 =>
    M.bind (idxSl 5 a0 (nth vs_40 0)) fun t99_58 =>
    M.bind (stN 5 t99_58 t94_55) fun tu_59 =>
    M.bind (idxSl 5 a0 t89_52) fun t100_60 =>
    M.bind (stN 5 t100_60 t98_57) fun tu_61 =>
    M.bind (bin (.cell .int) .sub (nth vs_40 0) (Go.Value.int Go.IntKind.i64 1)) fun t71_62 =>
    M.pure (.norm [t71_62])
def b97_p2 (a0 : Value) (vs_40 : List Value) (a3 : Value) : M J :=
    M.bind (bumpC 0) fun b_42 =>
    M.bind (idxSl 5 a0 (nth vs_40 0)) fun t75_43 =>
    M.bind (ldN 5 t75_43) fun t76_44 =>
    M.bind (bin (.cell .int) .sub (nth vs_40 0) (Go.Value.int Go.IntKind.i64 1)) fun t79_45 =>
    M.bind (idxSl 5 a0 t79_45) fun t80_46 =>
    M.bind (ldN 5 t80_46) fun t81_47 =>
    M.bind (callV (T97 ) a3 [t76_44, t81_47]) fun t82_48 =>
    M.bind (bin (.cell .int) .lss t82_48 (Go.Value.int Go.IntKind.i64 0)) fun t83_49 =>
    M.bind (un .not t83_49) fun t84_50 =>
    condM t84_50 (
    M.pure (.exit 4 [])) (
    b97_p1 vs_40 a0)
def b97_p3 (a0 : Value) (a3 : Value) (vs_40 : List Value) : M J :=
    M.bind (bin (.cell .int) .geq (nth vs_40 0) (Go.Value.int Go.IntKind.i64 1)) fun t69_41 =>
    condM t69_41 (
    b97_p2 a0 vs_40 a3) (
    M.pure (.exit 4 []))
def b97_p4 (vs_68 : List Value) (a0 : Value) : M J :=
    M.bind (bumpC 0) fun b_79 =>
    M.bind (bin (.cell .int) .sub (nth vs_68 0) (Go.Value.int Go.IntKind.i64 1)) fun t129_80 =>
    M.bind (bin (.cell .int) .sub (nth vs_68 0) (Go.Value.int Go.IntKind.i64 1)) fun t132_81 =>
    M.bind (idxSl 5 a0 t132_81) fun t133_82 =>
    M.bind (ldN 5 t133_82) fun t134_83 =>
    M.bind (idxSl 5 a0 (nth vs_68 0)) fun t137_84 =>
    M.bind (ldN 5 t137_84) fun t138_85 =>
    M.bind (idxSl 5 a0 (nth vs_68 0)) fun t139_86 =>
    M.bind (stN 5 t139_86 t134_83) fun tu_87 =>
    M.bind (idxSl 5 a0 t129_80) fun t140_88 =>
    M.bind (stN 5 t140_88 t138_85) fun tu_89 =>
    M.bind (bin (.cell .int) .add (nth vs_68 0) (Go.Value.int Go.IntKind.i64 1)) fun t111_90 =>
    M.pure (.norm [t111_90])
def b97_p5 (a0 : Value) (vs_68 : List Value) (a3 : Value) : M J :=
    M.bind (bumpC 0) fun b_70 =>
    M.bind (idxSl 5 a0 (nth vs_68 0)) fun t115_71 =>
    M.bind (ldN 5 t115_71) fun t116_72 =>
    M.bind (bin (.cell .int) .sub (nth vs_68 0) (Go.Value.int Go.IntKind.i64 1)) fun t119_73 =>
    M.bind (idxSl 5 a0 t119_73) fun t120_74 =>
    M.bind (ldN 5 t120_74) fun t121_75 =>
    M.bind (callV (T97 ) a3 [t116_72, t121_75]) fun t122_76 =>
    M.bind (bin (.cell .int) .lss t122_76 (Go.Value.int Go.IntKind.i64 0)) fun t123_77 =>
    M.bind (un .not t123_77) fun t124_78 =>
    condM t124_78 (
    M.pure (.exit 6 [])) (
    b97_p4 vs_68 a0)
def b97_p6 (a2 : Value) (a0 : Value) (a3 : Value) (vs_68 : List Value) : M J :=
    M.bind (bin (.cell .int) .lss (nth vs_68 0) a2) fun t109_69 =>
    condM t109_69 (
    b97_p5 a0 vs_68 a3) (
    M.pure (.exit 6 []))
def b97_p7 (vs_22 : List Value) (a0 : Value) (a1 : Value) (a3 : Value) (a2 : Value) (vs_2 : List Value) : M J :=
    M.bind (bumpC 0) fun b_26 =>
    M.bind (bin (.cell .int) .sub (nth vs_22 0) (Go.Value.int Go.IntKind.i64 1)) fun t50_27 =>
    M.bind (bin (.cell .int) .sub (nth vs_22 0) (Go.Value.int Go.IntKind.i64 1)) fun t53_28 =>
    M.bind (idxSl 5 a0 t53_28) fun t54_29 =>
    M.bind (ldN 5 t54_29) fun t55_30 =>
    M.bind (idxSl 5 a0 (nth vs_22 0)) fun t58_31 =>
    M.bind (ldN 5 t58_31) fun t59_32 =>
    M.bind (idxSl 5 a0 (nth vs_22 0)) fun t60_33 =>
    M.bind (stN 5 t60_33 t55_30) fun tu_34 =>
    M.bind (idxSl 5 a0 t50_27) fun t61_35 =>
    M.bind (stN 5 t61_35 t59_32) fun tu_36 =>
    M.bind (bin (.cell .int) .sub (nth vs_22 0) a1) fun t64_37 =>
    M.bind (bin (.cell .int) .geq t64_37 (Go.Value.int Go.IntKind.i64 2)) fun t65_38 =>
    M.bind (condM t65_38 (
    M.bind (bin (.cell .int) .sub (nth vs_22 0) (Go.Value.int Go.IntKind.i64 1)) fun t67_39 =>
    M.bind (loopM (b97_p3 a0 a3) [t67_39]) (onJ (fun _ => M.stuck) (fun id_63 vs_63 =>
    cond (Nat.beq id_63 4) (
    M.pure (.norm [])) (M.stuck)) (fun _ => M.stuck))) (
    M.pure (.norm []))) (onJ (fun vs_64 =>
    M.bind (bin (.cell .int) .sub a2 (nth vs_22 0)) fun t103_65 =>
    M.bind (bin (.cell .int) .geq t103_65 (Go.Value.int Go.IntKind.i64 2)) fun t104_66 =>
    M.bind (condM t104_66 (
    M.bind (bin (.cell .int) .add (nth vs_22 0) (Go.Value.int Go.IntKind.i64 1)) fun t106_67 =>
    M.bind (loopM (b97_p6 a2 a0 a3) [t106_67]) (onJ (fun _ => M.stuck) (fun id_91 vs_91 =>
    cond (Nat.beq id_91 6) (
    M.pure (.norm [])) (M.stuck)) (fun _ => M.stuck))) (
    M.pure (.norm []))) (onJ (fun vs_92 =>
    M.bind (bin (.cell .int) .add (nth vs_2 1) (Go.Value.int Go.IntKind.i64 1)) fun t18_93 =>
    M.pure (.norm [(nth vs_22 0), t18_93])) (fun _ _ => M.stuck) (fun _ => M.stuck))) (fun _ _ => M.stuck) (fun _ => M.stuck))
def b97_p8 (a2 : Value) (a3 : Value) (a0 : Value) (a1 : Value) (vs_2 : List Value) : M J :=
    M.bind (bin (.cell .int) .lss (nth vs_2 1) (Go.Value.int Go.IntKind.i64 5)) fun t16_3 =>
    condM t16_3 (
    M.bind (loopM (b97_p0 a2 a3 a0) [(nth vs_2 0)]) (onJ (fun _ => M.stuck) (fun id_22 vs_22 =>
    cond (Nat.beq id_22 2) (
    M.bind (bin (.cell .int) .eql (nth vs_22 0) a2) fun t41_23 =>
    condM t41_23 (
    M.pure (.ret [(Go.Value.bool true)])) (
    M.bind (bin (.cell .int) .sub a2 a1) fun t44_24 =>
    M.bind (bin (.cell .int) .lss t44_24 (Go.Value.int Go.IntKind.i64 50)) fun t45_25 =>
    condM t45_25 (
    M.pure (.ret [(Go.Value.bool false)])) (
    b97_p7 vs_22 a0 a1 a3 a2 vs_2))) (M.stuck)) (fun _ => M.stuck))) (
    M.pure (.exit 0 []))
def b97 : Value → Value → Value → Value → M Value := fun a0 a1 a2 a3 =>

    M.bind (bin (.cell .int) .add a1 (Go.Value.int Go.IntKind.i64 1)) fun t14_1 =>
    M.bind (loopM (b97_p8 a2 a3 a0 a1) [t14_1, (Go.Value.int Go.IntKind.i64 0)]) (onJ (fun _ => M.stuck) (fun id_94 vs_94 =>
    cond (Nat.beq id_94 0) (
    M.pure (Go.Value.bool false)) (M.stuck)) (fun vs_94 =>
    M.pure (nth vs_94 0)))
noncomputable def k97 : Value → Value → Value → Value → M Value := b97 
noncomputable def f97 : List Value → M Value := ar4 k97
theorem b97_eq (a0 a1 a2 a3 : Value) : b97  a0 a1 a2 a3 = execFn TTab (T97 ) Go.Proofs.Tryd.f97 h97 [a0, a1, a2, a3] := by kernel_rfl
theorem k97_eq (a0 a1 a2 a3 : Value) : k97 a0 a1 a2 a3 = execFn TTab GT97 Go.Proofs.Tryd.f97 h97 [a0, a1, a2, a3] := b97_eq  a0 a1 a2 a3
theorem f97_sum : Summ Go.Proofs.Tryd.prog 97 f97 := summ_of_exec tok GT97_sum (draw_sound tok GT97_sum mixed) Go.Proofs.Tryd.func97 (by kernel_rfl) rfl h97 (ar4_eq k97_eq)
/-- slices.partitionEqualCmpFunc[mailcoach/api.Line] -/
def h98 : Hint := (.seq .nil (.seq (.draw [0, 1, 2, 3, 4, 5, 6, 7, 8, 9, 10, 11, 12, 13, 14, 15]) (.seq .nil (.seq (.block (.loop [11, 12] [0] [11] none (.block (.seq (.block (.loop [11] [2] [11] none (.seq (.seq (.draw [0, 1, 2, 3, 4, 5, 6, 7, 8, 9, 10, 11, 12, 13, 14, 15, 16]) (.cond .nil .nil)) (.block .nil)))) (.seq (.block (.loop [12] [4] [12] none (.seq (.seq (.draw [0, 1, 2, 3, 4, 5, 6, 7, 8, 9, 10, 11, 12, 13, 14, 15]) (.cond .nil .nil)) (.block .nil)))) (.seq (.seq .nil (.cond .nil .nil)) (.seq (.draw [0, 1, 2, 3, 4, 5, 6, 7, 8, 9, 10, 11, 12, 13, 14, 15]) (.seq .nil .nil)))))))) (.seq .nil .nil)))))
abbrev T98 : FT := []
noncomputable abbrev GT98 : FT := T98 
theorem GT98_sum : Summs Go.Proofs.Tryd.prog GT98 := summs_nil
def b98_p0 (vs_12 : List Value) (a4 : Value) (a0 : Value) (a1 : Value) (vs_13 : List Value) : M J :=
    M.bind (bumpC 0) fun b_14 =>
    M.bind (bin (.cell .int) .leq (nth vs_13 0) (nth vs_12 1)) fun t33_15 =>
    M.bind (guardM true t33_15 (M.pure a4)) fun t35_16 =>
    M.bind (guardM true t33_15 (M.pure a0)) fun t36_17 =>
    M.bind (guardM true t33_15 (M.pure a1)) fun t37_18 =>
    M.bind (guardM true t33_15 (idxSl 5 t36_17 t37_18)) fun t38_19 =>
    M.bind (guardM true t33_15 (ldN 5 t38_19)) fun t39_20 =>
    M.bind (guardM true t33_15 (M.pure a0)) fun t40_21 =>
    M.bind (guardM true t33_15 (M.pure (nth vs_13 0))) fun t41_22 =>
    M.bind (guardM true t33_15 (idxSl 5 t40_21 t41_22)) fun t42_23 =>
    M.bind (guardM true t33_15 (ldN 5 t42_23)) fun t43_24 =>
    M.bind (guardM true t33_15 (callV (T98 ) t35_16 [t39_20, t43_24])) fun t44_25 =>
    M.bind (guardM true t33_15 (bin (.cell .int) .lss t44_25 (Go.Value.int Go.IntKind.i64 0))) fun t45_26 =>
    M.bind (guardM true t33_15 (un .not t45_26)) fun t46_27 =>
    M.bind (pick t33_15 t46_27 (Go.Value.bool false)) fun t47_28 =>
    condM t47_28 (
    M.bind (bin (.cell .int) .add (nth vs_13 0) (Go.Value.int Go.IntKind.i64 1)) fun t49_29 =>
    M.pure (.norm [t49_29])) (
    M.pure (.exit 2 [(nth vs_13 0)]))
def b98_p1 (vs_30 : List Value) (a4 : Value) (a0 : Value) (a1 : Value) (vs_31 : List Value) : M J :=
    M.bind (bumpC 0) fun b_32 =>
    M.bind (bin (.cell .int) .leq (nth vs_30 0) (nth vs_31 0)) fun t52_33 =>
    M.bind (guardM true t52_33 (M.pure a4)) fun t54_34 =>
    M.bind (guardM true t52_33 (M.pure a0)) fun t55_35 =>
    M.bind (guardM true t52_33 (M.pure a1)) fun t56_36 =>
    M.bind (guardM true t52_33 (idxSl 5 t55_35 t56_36)) fun t57_37 =>
    M.bind (guardM true t52_33 (ldN 5 t57_37)) fun t58_38 =>
    M.bind (guardM true t52_33 (M.pure a0)) fun t59_39 =>
    M.bind (guardM true t52_33 (M.pure (nth vs_31 0))) fun t60_40 =>
    M.bind (guardM true t52_33 (idxSl 5 t59_39 t60_40)) fun t61_41 =>
    M.bind (guardM true t52_33 (ldN 5 t61_41)) fun t62_42 =>
    M.bind (guardM true t52_33 (callV (T98 ) t54_34 [t58_38, t62_42])) fun t63_43 =>
    M.bind (guardM true t52_33 (bin (.cell .int) .lss t63_43 (Go.Value.int Go.IntKind.i64 0))) fun t64_44 =>
    M.bind (pick t52_33 t64_44 (Go.Value.bool false)) fun t65_45 =>
    condM t65_45 (
    M.bind (bin (.cell .int) .sub (nth vs_31 0) (Go.Value.int Go.IntKind.i64 1)) fun t67_46 =>
    M.pure (.norm [t67_46])) (
    M.pure (.exit 4 [(nth vs_31 0)]))
def b98_p2 (a0 : Value) (vs_47 : List Value) (vs_30 : List Value) : M J :=
    M.bind (bumpC 0) fun b_49 =>
    M.bind (idxSl 5 a0 (nth vs_47 0)) fun t77_50 =>
    M.bind (ldN 5 t77_50) fun t78_51 =>
    M.bind (idxSl 5 a0 (nth vs_30 0)) fun t81_52 =>
    M.bind (ldN 5 t81_52) fun t82_53 =>
    M.bind (idxSl 5 a0 (nth vs_30 0)) fun t83_54 =>
    M.bind (stN 5 t83_54 t78_51) fun tu_55 =>
    M.bind (idxSl 5 a0 (nth vs_47 0)) fun t84_56 =>
    M.bind (stN 5 t84_56 t82_53) fun tu_57 =>
    M.bind (bin (.cell .int) .add (nth vs_30 0) (Go.Value.int Go.IntKind.i64 1)) fun t86_58 =>
    M.bind (bin (.cell .int) .sub (nth vs_47 0) (Go.Value.int Go.IntKind.i64 1)) fun t88_59 =>
    M.pure (.norm [t86_58, t88_59])
def b98_p3 (a4 : Value) (a0 : Value) (a1 : Value) (vs_12 : List Value) : M J :=
    M.bind (loopM (b98_p0 vs_12 a4 a0 a1) [(nth vs_12 0)]) (onJ (fun _ => M.stuck) (fun id_30 vs_30 =>
    cond (Nat.beq id_30 2) (
    M.bind (loopM (b98_p1 vs_30 a4 a0 a1) [(nth vs_12 1)]) (onJ (fun _ => M.stuck) (fun id_47 vs_47 =>
    cond (Nat.beq id_47 4) (
    M.bind (bin (.cell .int) .gtr (nth vs_30 0) (nth vs_47 0)) fun t70_48 =>
    condM t70_48 (
    M.pure (.exit 0 [(nth vs_30 0)])) (
    b98_p2 a0 vs_47 vs_30)) (M.stuck)) (fun _ => M.stuck))) (M.stuck)) (fun _ => M.stuck))
def b98 : Value → Value → Value → Value → Value → M Value := fun a0 a1 a2 a3 a4 =>

    M.bind (bumpC 0) fun b_1 =>
    M.bind (idxSl 5 a0 a3) fun t19_2 =>
    M.bind (ldN 5 t19_2) fun t20_3 =>
    M.bind (idxSl 5 a0 a1) fun t23_4 =>
    M.bind (ldN 5 t23_4) fun t24_5 =>
    M.bind (idxSl 5 a0 a1) fun t25_6 =>
    M.bind (stN 5 t25_6 t20_3) fun tu_7 =>
    M.bind (idxSl 5 a0 a3) fun t26_8 =>
    M.bind (stN 5 t26_8 t24_5) fun tu_9 =>
    M.bind (bin (.cell .int) .add a1 (Go.Value.int Go.IntKind.i64 1)) fun t28_10 =>
    M.bind (bin (.cell .int) .sub a2 (Go.Value.int Go.IntKind.i64 1)) fun t30_11 =>
    M.bind (loopM (b98_p3 a4 a0 a1) [t28_10, t30_11]) (onJ (fun _ => M.stuck) (fun id_60 vs_60 =>
    cond (Nat.beq id_60 0) (
    M.pure (nth vs_60 0)) (M.stuck)) (fun _ => M.stuck))
noncomputable def k98 : Value → Value → Value → Value → Value → M Value := b98 
noncomputable def f98 : List Value → M Value := ar5 k98
theorem b98_eq (a0 a1 a2 a3 a4 : Value) : b98  a0 a1 a2 a3 a4 = execFn TTab (T98 ) Go.Proofs.Tryd.f98 h98 [a0, a1, a2, a3, a4] := by kernel_rfl
theorem k98_eq (a0 a1 a2 a3 a4 : Value) : k98 a0 a1 a2 a3 a4 = execFn TTab GT98 Go.Proofs.Tryd.f98 h98 [a0, a1, a2, a3, a4] := b98_eq  a0 a1 a2 a3 a4
theorem f98_sum : Summ Go.Proofs.Tryd.prog 98 f98 := summ_of_exec tok GT98_sum (draw_sound tok GT98_sum mixed) Go.Proofs.Tryd.func98 (by kernel_rfl) rfl h98 (ar5_eq k98_eq)
/-- slices.partitionCmpFunc[mailcoach/api.Line] -/
def h99 : Hint := (.seq .nil (.seq (.draw [0, 1, 2, 3, 4, 5, 6, 7, 8, 9, 10, 11, 12, 13, 14, 15]) (.seq .nil (.seq (.block (.loop [12] [0] [12] none (.seq (.seq (.draw [0, 1, 2, 3, 4, 5, 6, 7, 8, 9, 10, 11, 12, 13, 14, 15]) (.cond .nil .nil)) (.block .nil)))) (.seq (.block (.loop [13] [2] [13] none (.seq (.seq (.draw [0, 1, 2, 3, 4, 5, 6, 7, 8, 9, 10, 11, 12, 13, 14, 15, 16]) (.cond .nil .nil)) (.block .nil)))) (.seq (.seq .nil (.cond (.seq (.draw [0, 1, 2, 3, 4, 5, 6, 7, 8, 9, 10, 11, 12, 13, 14, 15]) (.seq .nil .nil)) .nil)) (.seq (.draw [0, 1, 2, 3, 4, 5, 6, 7, 8, 9, 10, 11, 12, 13, 14, 15]) (.seq .nil (.seq .nil (.seq (.block (.loop [12, 13] [4] [13] none (.block (.seq (.block (.loop [12] [6] [12] none (.seq (.seq (.draw [0, 1, 2, 3, 4, 5, 6, 7, 8, 9, 10, 11, 12, 13, 14, 15]) (.cond .nil .nil)) (.block .nil)))) (.seq (.block (.loop [13] [8] [13] none (.seq (.seq (.draw [0, 1, 2, 3, 4, 5, 6, 7, 8, 9, 10, 11, 12, 13, 14, 15, 16]) (.cond .nil .nil)) (.block .nil)))) (.seq (.seq .nil (.cond .nil .nil)) (.seq (.draw [0, 1, 2, 3, 4, 5, 6, 7, 8, 9, 10, 11, 12, 13, 14, 15]) (.seq .nil .nil)))))))) (.seq (.draw [0, 1, 2, 3, 4, 5, 6, 7, 8, 9, 10, 11, 12, 13, 14, 15]) (.seq .nil .nil))))))))))))
abbrev T99 : FT := []
noncomputable abbrev GT99 : FT := T99 
theorem GT99_sum : Summs Go.Proofs.Tryd.prog GT99 := summs_nil
def b99_p0 (t31_11 : Value) (a4 : Value) (a0 : Value) (a1 : Value) (vs_12 : List Value) : M J :=
    M.bind (bumpC 0) fun b_13 =>
    M.bind (bin (.cell .int) .leq (nth vs_12 0) t31_11) fun t34_14 =>
    M.bind (guardM true t34_14 (M.pure a4)) fun t36_15 =>
    M.bind (guardM true t34_14 (M.pure a0)) fun t37_16 =>
    M.bind (guardM true t34_14 (M.pure (nth vs_12 0))) fun t38_17 =>
    M.bind (guardM true t34_14 (idxSl 5 t37_16 t38_17)) fun t39_18 =>
    M.bind (guardM true t34_14 (ldN 5 t39_18)) fun t40_19 =>
    M.bind (guardM true t34_14 (M.pure a0)) fun t41_20 =>
    M.bind (guardM true t34_14 (M.pure a1)) fun t42_21 =>
    M.bind (guardM true t34_14 (idxSl 5 t41_20 t42_21)) fun t43_22 =>
    M.bind (guardM true t34_14 (ldN 5 t43_22)) fun t44_23 =>
    M.bind (guardM true t34_14 (callV (T99 ) t36_15 [t40_19, t44_23])) fun t45_24 =>
    M.bind (guardM true t34_14 (bin (.cell .int) .lss t45_24 (Go.Value.int Go.IntKind.i64 0))) fun t46_25 =>
    M.bind (pick t34_14 t46_25 (Go.Value.bool false)) fun t47_26 =>
    condM t47_26 (
    M.bind (bin (.cell .int) .add (nth vs_12 0) (Go.Value.int Go.IntKind.i64 1)) fun t49_27 =>
    M.pure (.norm [t49_27])) (
    M.pure (.exit 0 [(nth vs_12 0)]))
def b99_p1 (vs_28 : List Value) (a4 : Value) (a0 : Value) (a1 : Value) (vs_29 : List Value) : M J :=
    M.bind (bumpC 0) fun b_30 =>
    M.bind (bin (.cell .int) .leq (nth vs_28 0) (nth vs_29 0)) fun t52_31 =>
    M.bind (guardM true t52_31 (M.pure a4)) fun t54_32 =>
    M.bind (guardM true t52_31 (M.pure a0)) fun t55_33 =>
    M.bind (guardM true t52_31 (M.pure (nth vs_29 0))) fun t56_34 =>
    M.bind (guardM true t52_31 (idxSl 5 t55_33 t56_34)) fun t57_35 =>
    M.bind (guardM true t52_31 (ldN 5 t57_35)) fun t58_36 =>
    M.bind (guardM true t52_31 (M.pure a0)) fun t59_37 =>
    M.bind (guardM true t52_31 (M.pure a1)) fun t60_38 =>
    M.bind (guardM true t52_31 (idxSl 5 t59_37 t60_38)) fun t61_39 =>
    M.bind (guardM true t52_31 (ldN 5 t61_39)) fun t62_40 =>
    M.bind (guardM true t52_31 (callV (T99 ) t54_32 [t58_36, t62_40])) fun t63_41 =>
    M.bind (guardM true t52_31 (bin (.cell .int) .lss t63_41 (Go.Value.int Go.IntKind.i64 0))) fun t64_42 =>
    M.bind (guardM true t52_31 (un .not t64_42)) fun t65_43 =>
    M.bind (pick t52_31 t65_43 (Go.Value.bool false)) fun t66_44 =>
    condM t66_44 (
    M.bind (bin (.cell .int) .sub (nth vs_29 0) (Go.Value.int Go.IntKind.i64 1)) fun t68_45 =>
    M.pure (.norm [t68_45])) (
    M.pure (.exit 2 [(nth vs_29 0)]))
def b99_p2 (vs_68 : List Value) (a4 : Value) (a0 : Value) (a1 : Value) (vs_69 : List Value) : M J :=
    M.bind (bumpC 0) fun b_70 =>
    M.bind (bin (.cell .int) .leq (nth vs_69 0) (nth vs_68 1)) fun t107_71 =>
    M.bind (guardM true t107_71 (M.pure a4)) fun t109_72 =>
    M.bind (guardM true t107_71 (M.pure a0)) fun t110_73 =>
    M.bind (guardM true t107_71 (M.pure (nth vs_69 0))) fun t111_74 =>
    M.bind (guardM true t107_71 (idxSl 5 t110_73 t111_74)) fun t112_75 =>
    M.bind (guardM true t107_71 (ldN 5 t112_75)) fun t113_76 =>
    M.bind (guardM true t107_71 (M.pure a0)) fun t114_77 =>
    M.bind (guardM true t107_71 (M.pure a1)) fun t115_78 =>
    M.bind (guardM true t107_71 (idxSl 5 t114_77 t115_78)) fun t116_79 =>
    M.bind (guardM true t107_71 (ldN 5 t116_79)) fun t117_80 =>
    M.bind (guardM true t107_71 (callV (T99 ) t109_72 [t113_76, t117_80])) fun t118_81 =>
    M.bind (guardM true t107_71 (bin (.cell .int) .lss t118_81 (Go.Value.int Go.IntKind.i64 0))) fun t119_82 =>
    M.bind (pick t107_71 t119_82 (Go.Value.bool false)) fun t120_83 =>
    condM t120_83 (
    M.bind (bin (.cell .int) .add (nth vs_69 0) (Go.Value.int Go.IntKind.i64 1)) fun t122_84 =>
    M.pure (.norm [t122_84])) (
    M.pure (.exit 6 [(nth vs_69 0)]))
def b99_p3 (vs_85 : List Value) (a4 : Value) (a0 : Value) (a1 : Value) (vs_86 : List Value) : M J :=
    M.bind (bumpC 0) fun b_87 =>
    M.bind (bin (.cell .int) .leq (nth vs_85 0) (nth vs_86 0)) fun t125_88 =>
    M.bind (guardM true t125_88 (M.pure a4)) fun t127_89 =>
    M.bind (guardM true t125_88 (M.pure a0)) fun t128_90 =>
    M.bind (guardM true t125_88 (M.pure (nth vs_86 0))) fun t129_91 =>
    M.bind (guardM true t125_88 (idxSl 5 t128_90 t129_91)) fun t130_92 =>
    M.bind (guardM true t125_88 (ldN 5 t130_92)) fun t131_93 =>
    M.bind (guardM true t125_88 (M.pure a0)) fun t132_94 =>
    M.bind (guardM true t125_88 (M.pure a1)) fun t133_95 =>
    M.bind (guardM true t125_88 (idxSl 5 t132_94 t133_95)) fun t134_96 =>
    M.bind (guardM true t125_88 (ldN 5 t134_96)) fun t135_97 =>
    M.bind (guardM true t125_88 (callV (T99 ) t127_89 [t131_93, t135_97])) fun t136_98 =>
    M.bind (guardM true t125_88 (bin (.cell .int) .lss t136_98 (Go.Value.int Go.IntKind.i64 0))) fun t137_99 =>
    M.bind (guardM true t125_88 (un .not t137_99)) fun t138_100 =>
    M.bind (pick t125_88 t138_100 (Go.Value.bool false)) fun t139_101 =>
    condM t139_101 (
    M.bind (bin (.cell .int) .sub (nth vs_86 0) (Go.Value.int Go.IntKind.i64 1)) fun t141_102 =>
    M.pure (.norm [t141_102])) (
    M.pure (.exit 8 [(nth vs_86 0)]))
def b99_p4 (a0 : Value) (vs_103 : List Value) (vs_85 : List Value) : M J :=
    M.bind (bumpC 0) fun b_105 =>
    M.bind (idxSl 5 a0 (nth vs_103 0)) fun t151_106 =>
    M.bind (ldN 5 t151_106) fun t152_107 =>
    M.bind (idxSl 5 a0 (nth vs_85 0)) fun t155_108 =>
    M.bind (ldN 5 t155_108) fun t156_109 =>
    M.bind (idxSl 5 a0 (nth vs_85 0)) fun t157_110 =>
    M.bind (stN 5 t157_110 t152_107) fun tu_111 =>
    M.bind (idxSl 5 a0 (nth vs_103 0)) fun t158_112 =>
    M.bind (stN 5 t158_112 t156_109) fun tu_113 =>
    M.bind (bin (.cell .int) .add (nth vs_85 0) (Go.Value.int Go.IntKind.i64 1)) fun t160_114 =>
    M.bind (bin (.cell .int) .sub (nth vs_103 0) (Go.Value.int Go.IntKind.i64 1)) fun t162_115 =>
    M.pure (.norm [t160_114, t162_115])
def b99_p5 (a4 : Value) (a0 : Value) (a1 : Value) (vs_68 : List Value) : M J :=
    M.bind (loopM (b99_p2 vs_68 a4 a0 a1) [(nth vs_68 0)]) (onJ (fun _ => M.stuck) (fun id_85 vs_85 =>
    cond (Nat.beq id_85 6) (
    M.bind (loopM (b99_p3 vs_85 a4 a0 a1) [(nth vs_68 1)]) (onJ (fun _ => M.stuck) (fun id_103 vs_103 =>
    cond (Nat.beq id_103 8) (
    M.bind (bin (.cell .int) .gtr (nth vs_85 0) (nth vs_103 0)) fun t144_104 =>
    condM t144_104 (
    M.pure (.exit 4 [(nth vs_103 0)])) (
    b99_p4 a0 vs_103 vs_85)) (M.stuck)) (fun _ => M.stuck))) (M.stuck)) (fun _ => M.stuck))
def b99_p6 (a0 : Value) (vs_46 : List Value) (vs_28 : List Value) (a4 : Value) (a1 : Value) : M Value :=
    M.bind (bumpC 0) fun b_57 =>
    M.bind (idxSl 5 a0 (nth vs_46 0)) fun t93_58 =>
    M.bind (ldN 5 t93_58) fun t94_59 =>
    M.bind (idxSl 5 a0 (nth vs_28 0)) fun t97_60 =>
    M.bind (ldN 5 t97_60) fun t98_61 =>
    M.bind (idxSl 5 a0 (nth vs_28 0)) fun t99_62 =>
    M.bind (stN 5 t99_62 t94_59) fun tu_63 =>
    M.bind (idxSl 5 a0 (nth vs_46 0)) fun t100_64 =>
    M.bind (stN 5 t100_64 t98_61) fun tu_65 =>
    M.bind (bin (.cell .int) .add (nth vs_28 0) (Go.Value.int Go.IntKind.i64 1)) fun t102_66 =>
    M.bind (bin (.cell .int) .sub (nth vs_46 0) (Go.Value.int Go.IntKind.i64 1)) fun t104_67 =>
    M.bind (loopM (b99_p5 a4 a0 a1) [t102_66, t104_67]) (onJ (fun _ => M.stuck) (fun id_116 vs_116 =>
    cond (Nat.beq id_116 4) (
    M.bind (bumpC 0) fun b_117 =>
    M.bind (idxSl 5 a0 a1) fun t169_118 =>
    M.bind (ldN 5 t169_118) fun t170_119 =>
    M.bind (idxSl 5 a0 (nth vs_116 0)) fun t173_120 =>
    M.bind (ldN 5 t173_120) fun t174_121 =>
    M.bind (idxSl 5 a0 (nth vs_116 0)) fun t175_122 =>
    M.bind (stN 5 t175_122 t170_119) fun tu_123 =>
    M.bind (idxSl 5 a0 a1) fun t176_124 =>
    M.bind (stN 5 t176_124 t174_121) fun tu_125 =>
    M.pure (.tuple #[(nth vs_116 0), (Go.Value.bool false)])) (M.stuck)) (fun _ => M.stuck))
def b99_p7 (vs_28 : List Value) (vs_46 : List Value) (a0 : Value) (a1 : Value) (a4 : Value) : M Value :=
    M.bind (bin (.cell .int) .gtr (nth vs_28 0) (nth vs_46 0)) fun t71_47 =>
    condM t71_47 (
    M.bind (bumpC 0) fun b_48 =>
    M.bind (idxSl 5 a0 a1) fun t78_49 =>
    M.bind (ldN 5 t78_49) fun t79_50 =>
    M.bind (idxSl 5 a0 (nth vs_46 0)) fun t82_51 =>
    M.bind (ldN 5 t82_51) fun t83_52 =>
    M.bind (idxSl 5 a0 (nth vs_46 0)) fun t84_53 =>
    M.bind (stN 5 t84_53 t79_50) fun tu_54 =>
    M.bind (idxSl 5 a0 a1) fun t85_55 =>
    M.bind (stN 5 t85_55 t83_52) fun tu_56 =>
    M.pure (.tuple #[(nth vs_46 0), (Go.Value.bool true)])) (
    b99_p6 a0 vs_46 vs_28 a4 a1)
def b99 : Value → Value → Value → Value → Value → M Value := fun a0 a1 a2 a3 a4 =>

    M.bind (bumpC 0) fun b_1 =>
    M.bind (idxSl 5 a0 a3) fun t20_2 =>
    M.bind (ldN 5 t20_2) fun t21_3 =>
    M.bind (idxSl 5 a0 a1) fun t24_4 =>
    M.bind (ldN 5 t24_4) fun t25_5 =>
    M.bind (idxSl 5 a0 a1) fun t26_6 =>
    M.bind (stN 5 t26_6 t21_3) fun tu_7 =>
    M.bind (idxSl 5 a0 a3) fun t27_8 =>
    M.bind (stN 5 t27_8 t25_5) fun tu_9 =>
    M.bind (bin (.cell .int) .add a1 (Go.Value.int Go.IntKind.i64 1)) fun t29_10 =>
    M.bind (bin (.cell .int) .sub a2 (Go.Value.int Go.IntKind.i64 1)) fun t31_11 =>
    M.bind (loopM (b99_p0 t31_11 a4 a0 a1) [t29_10]) (onJ (fun _ => M.stuck) (fun id_28 vs_28 =>
    cond (Nat.beq id_28 0) (
    M.bind (loopM (b99_p1 vs_28 a4 a0 a1) [t31_11]) (onJ (fun _ => M.stuck) (fun id_46 vs_46 =>
    cond (Nat.beq id_46 2) (
    b99_p7 vs_28 vs_46 a0 a1 a4) (M.stuck)) (fun _ => M.stuck))) (M.stuck)) (fun _ => M.stuck))
noncomputable def k99 : Value → Value → Value → Value → Value → M Value := b99 
noncomputable def f99 : List Value → M Value := ar5 k99
theorem b99_eq (a0 a1 a2 a3 a4 : Value) : b99  a0 a1 a2 a3 a4 = execFn TTab (T99 ) Go.Proofs.Tryd.f99 h99 [a0, a1, a2, a3, a4] := by kernel_rfl
theorem k99_eq (a0 a1 a2 a3 a4 : Value) : k99 a0 a1 a2 a3 a4 = execFn TTab GT99 Go.Proofs.Tryd.f99 h99 [a0, a1, a2, a3, a4] := b99_eq  a0 a1 a2 a3 a4
theorem f99_sum : Summ Go.Proofs.Tryd.prog 99 f99 := summ_of_exec tok GT99_sum (draw_sound tok GT99_sum mixed) Go.Proofs.Tryd.func99 (by kernel_rfl) rfl h99 (ar5_eq k99_eq)
end Go.Vm.Tryd
end
