/- Parts of the proof. -/
import Derived.Test.YtglbdcndgfnhkaaDoorKF3
import Derived.Test.YtglbdcndgfnhkaaDoorKX
section
set_option linter.unusedVariables false
set_option maxRecDepth 100000
set_option maxHeartbeats 1000000
namespace Go.Vm.Tryd
open Go Go.Vm
/-- (*mailcoach/mailcoachref01.Reader).Text -/
def h31 : Hint := (.seq .nil (.seq .nil (.seq (.seq .nil (.condJ [] [] [] none .nil .nil)) (.seq .nil .nil))))
abbrev T31 (F33 F61 : List Value → M Value) : FT := [(33, F33), (61, F61)]
noncomputable abbrev GT31 : FT := T31 f33 f61
theorem GT31_sum : Summs Go.Proofs.Tryd.prog GT31 := summs_cons f33_sum (summs_cons f61_sum (summs_nil))
def b31 (F33 F61 : List Value → M Value) : Value → M Value := fun a0 =>

    M.bind (F33 [a0]) fun t5_1 =>
    M.bind (nilChk a0) fun t7_2 =>
    M.bind (addOff 1 t7_2) fun t8_3 =>
    M.bind (ld1 t8_3) fun t9_4 =>
    M.bind (bin (.cell .int) .eql t9_4 (Go.Value.int Go.IntKind.i64 0)) fun t10_5 =>
    M.bind (guardM true t10_5 (M.pure t5_1)) fun t12_6 =>
    M.bind (guardM true t10_5 (F61 [t12_6])) fun t13_7 =>
    M.bind (guardM true t10_5 (un .not t13_7)) fun t14_8 =>
    M.bind (pick t10_5 t14_8 (Go.Value.bool false)) fun t15_9 =>
    M.bind (condM t15_9 (
    M.bind (nilChk a0) fun t17_10 =>
    M.bind (addOff 1 t17_10) fun t18_11 =>
    M.bind (st1 t18_11 (Go.Value.int Go.IntKind.i64 6)) fun tu_12 =>
    M.pure (.norm [])) (
    M.pure (.norm []))) (onJ (fun vs_13 =>
    M.bind (bump 1) fun b_14 =>
    M.bind (cvString t5_1) fun t20_15 =>
    M.pure t20_15) (fun _ _ => M.stuck) (fun _ => M.stuck))
noncomputable def k31 : Value → M Value := b31 f33 f61
noncomputable def f31 : List Value → M Value := ar1 k31
theorem b31_eq (F33 F61 : List Value → M Value) (a0 : Value) : b31 F33 F61 a0 = execFn TTab (T31 F33 F61) Go.Proofs.Tryd.f31 h31 [a0] := by kernel_rfl
theorem k31_eq (a0 : Value) : k31 a0 = execFn TTab GT31 Go.Proofs.Tryd.f31 h31 [a0] := b31_eq f33 f61 a0
theorem f31_sum : Summ Go.Proofs.Tryd.prog 31 f31 := summ_of_exec tok GT31_sum (draw_sound tok GT31_sum mixed) Go.Proofs.Tryd.func31 (by kernel_rfl) rfl h31 (ar1_eq k31_eq)
/-- (*mailcoach/mailcoachref01.Reader).End -/
def h34 : Hint := (.seq .nil (.seq (.seq .nil (.condJ [] [] [] none .nil .nil)) (.seq .nil .nil)))
abbrev T34 : FT := []
noncomputable abbrev GT34 : FT := T34 
theorem GT34_sum : Summs Go.Proofs.Tryd.prog GT34 := summs_nil
def b34 : Value → M Value := fun a0 =>

    M.bind (nilChk a0) fun t4_1 =>
    M.bind (addOff 1 t4_1) fun t5_2 =>
    M.bind (ld1 t5_2) fun t6_3 =>
    M.bind (bin (.cell .int) .eql t6_3 (Go.Value.int Go.IntKind.i64 0)) fun t7_4 =>
    M.bind (guardM true t7_4 (M.pure a0)) fun t9_5 =>
    M.bind (guardM true t7_4 (nilChk t9_5)) fun t10_6 =>
    M.bind (guardM true t7_4 (addOff 0 t10_6)) fun t11_7 =>
    M.bind (guardM true t7_4 (ld1 t11_7)) fun t12_8 =>
    M.bind (guardM true t7_4 (lenSl t12_8)) fun t13_9 =>
    M.bind (guardM true t7_4 (bin (.cell .int) .gtr t13_9 (Go.Value.int Go.IntKind.i64 0))) fun t14_10 =>
    M.bind (pick t7_4 t14_10 (Go.Value.bool false)) fun t15_11 =>
    M.bind (condM t15_11 (
    M.bind (nilChk a0) fun t17_12 =>
    M.bind (addOff 1 t17_12) fun t18_13 =>
    M.bind (st1 t18_13 (Go.Value.int Go.IntKind.i64 5)) fun tu_14 =>
    M.pure (.norm [])) (
    M.pure (.norm []))) (onJ (fun vs_15 =>
    M.bind (nilChk a0) fun t20_16 =>
    M.bind (addOff 1 t20_16) fun t21_17 =>
    M.bind (ld1 t21_17) fun t22_18 =>
    M.pure t22_18) (fun _ _ => M.stuck) (fun _ => M.stuck))
noncomputable def k34 : Value → M Value := b34 
noncomputable def f34 : List Value → M Value := ar1 k34
theorem b34_eq (a0 : Value) : b34  a0 = execFn TTab (T34 ) Go.Proofs.Tryd.f34 h34 [a0] := by kernel_rfl
theorem k34_eq (a0 : Value) : k34 a0 = execFn TTab GT34 Go.Proofs.Tryd.f34 h34 [a0] := b34_eq  a0
theorem f34_sum : Summ Go.Proofs.Tryd.prog 34 f34 := summ_of_exec tok GT34_sum (draw_sound tok GT34_sum mixed) Go.Proofs.Tryd.func34 (by kernel_rfl) rfl h34 (ar1_eq k34_eq)
/-- mailcoach/mailcoachref21.ReadEntry -/
def h11 : Hint := (.seq .nil (.seq .nil (.seq .nil (.seq .nil (.seq .nil (.seq .nil (.seq (.seq .nil (.seq .nil (.cond (.seq .nil .nil) .nil))) (.seq .nil .nil))))))))
abbrev T11 (F31 F32 F33 F34 : List Value → M Value) : FT := [(31, F31), (32, F32), (33, F33), (34, F34)]
noncomputable abbrev GT11 : FT := T11 f31 f32 f33 f34
theorem GT11_sum : Summs Go.Proofs.Tryd.prog GT11 := summs_cons f31_sum (summs_cons f32_sum (summs_cons f33_sum (summs_cons f34_sum (summs_nil))))
def b11 (F31 F32 F33 F34 : List Value → M Value) : Value → M Value := fun a0 =>

    M.bind (bump 1) fun b_1 =>
    M.bind (newCells b_1 [.string ⟨#[]⟩, .int .u64 0, .string ⟨#[]⟩, .slice none 0 0] 25) fun t2_2 =>
    M.bind (bump 1) fun b_3 =>
    M.bind (mkAgg [.slice none 0 0, .int .i64 0] [(0, 1, a0)]) fun t8_4 =>
    M.bind (newCells b_3 (Value.cells t8_4).toList 80) fun t9_5 =>
    M.bind (bump 1) fun b_6 =>
    M.bind (F31 [t9_5]) fun t11_7 =>
    M.bind (mkAgg [.string ⟨#[]⟩, .int .u64 0, .string ⟨#[]⟩, .slice none 0 0] [(0, 1, t11_7)]) fun t12_8 =>
    M.bind (newCells b_6 [.string ⟨#[]⟩, .int .u64 0, .string ⟨#[]⟩, .slice none 0 0] 25) fun t5_9 =>
    M.bind (stN 4 t5_9 t12_8) fun tu_10 =>
    M.bind (F32 [t9_5, (Go.Value.int Go.IntKind.i64 8)]) fun t14_11 =>
    M.bind (addOff 1 t5_9) fun t15_12 =>
    M.bind (st1 t15_12 t14_11) fun tu_13 =>
    M.bind (F31 [t9_5]) fun t17_14 =>
    M.bind (addOff 2 t5_9) fun t18_15 =>
    M.bind (st1 t18_15 t17_14) fun tu_16 =>
    M.bind (F33 [t9_5]) fun t20_17 =>
    M.bind (addOff 3 t5_9) fun t21_18 =>
    M.bind (st1 t21_18 t20_17) fun tu_19 =>
    M.bind (F34 [t9_5]) fun t23_20 =>
    M.bind (bin (.cell .int) .neq t23_20 (Go.Value.int Go.IntKind.i64 0)) fun t25_21 =>
    condM t25_21 (
    M.bind (mkAgg [.string ⟨#[]⟩, .int .u64 0, .string ⟨#[]⟩, .slice none 0 0] []) fun t26_22 =>
    M.bind (stN 4 t2_2 t26_22) fun tu_23 =>
    M.bind (ldN 4 t2_2) fun tr_24 =>
    M.pure (.tuple #[tr_24, t23_20])) (
    M.bind (ldN 4 t5_9) fun t28_25 =>
    M.bind (stN 4 t2_2 t28_25) fun tu_26 =>
    M.bind (ldN 4 t2_2) fun tr_27 =>
    M.pure (.tuple #[tr_27, (Go.Value.int Go.IntKind.i64 0)]))
noncomputable def k11 : Value → M Value := b11 f31 f32 f33 f34
noncomputable def f11 : List Value → M Value := ar1 k11
theorem b11_eq (F31 F32 F33 F34 : List Value → M Value) (a0 : Value) : b11 F31 F32 F33 F34 a0 = execFn TTab (T11 F31 F32 F33 F34) Go.Proofs.Tryd.f11 h11 [a0] := by kernel_rfl
theorem k11_eq (a0 : Value) : k11 a0 = execFn TTab GT11 Go.Proofs.Tryd.f11 h11 [a0] := b11_eq f31 f32 f33 f34 a0
theorem f11_sum : Summ Go.Proofs.Tryd.prog 11 f11 := summ_of_exec tok GT11_sum (draw_sound tok GT11_sum mixed) Go.Proofs.Tryd.func11 (by kernel_rfl) rfl h11 (ar1_eq k11_eq)
/-- mailcoach/mailcoachref21.SameEntries -/
def h12 : Hint := (.seq .nil (.seq .nil .nil))
abbrev T12 : FT := []
noncomputable abbrev GT12 : FT := T12 
theorem GT12_sum : Summs Go.Proofs.Tryd.prog GT12 := summs_nil
def b12 : Value → Value → M Value := fun a0 a1 =>

    M.bind (bump 2) fun b_1 =>
    M.bind (newCells b_1 (Value.cells a0).toList 25) fun t2_2 =>
    M.bind (newCells (b_1 + 1) (Value.cells a1).toList 25) fun t3_3 =>
    M.bind (bump 2) fun b_4 =>
    M.bind (addOff 0 t2_2) fun t5_5 =>
    M.bind (ld1 t5_5) fun t6_6 =>
    M.bind (addOff 0 t3_3) fun t7_7 =>
    M.bind (ld1 t7_7) fun t8_8 =>
    M.bind (bin (.cell .str) .eql t6_6 t8_8) fun t9_9 =>
    M.bind (guardM true t9_9 (addOff 1 t2_2)) fun t11_10 =>
    M.bind (guardM true t9_9 (ld1 t11_10)) fun t12_11 =>
    M.bind (guardM true t9_9 (addOff 1 t3_3)) fun t13_12 =>
    M.bind (guardM true t9_9 (ld1 t13_12)) fun t14_13 =>
    M.bind (guardM true t9_9 (bin (.cell .int) .eql t12_11 t14_13)) fun t15_14 =>
    M.bind (pick t9_9 t15_14 (Go.Value.bool false)) fun t16_15 =>
    M.bind (guardM true t16_15 (addOff 2 t2_2)) fun t18_16 =>
    M.bind (guardM true t16_15 (ld1 t18_16)) fun t19_17 =>
    M.bind (guardM true t16_15 (addOff 2 t3_3)) fun t20_18 =>
    M.bind (guardM true t16_15 (ld1 t20_18)) fun t21_19 =>
    M.bind (guardM true t16_15 (bin (.cell .str) .eql t19_17 t21_19)) fun t22_20 =>
    M.bind (pick t16_15 t22_20 (Go.Value.bool false)) fun t23_21 =>
    M.bind (guardM true t23_21 (addOff 3 t2_2)) fun t25_22 =>
    M.bind (guardM true t23_21 (ld1 t25_22)) fun t26_23 =>
    M.bind (guardM true t23_21 (cvString t26_23)) fun t27_24 =>
    M.bind (guardM true t23_21 (addOff 3 t3_3)) fun t28_25 =>
    M.bind (guardM true t23_21 (ld1 t28_25)) fun t29_26 =>
    M.bind (guardM true t23_21 (cvString t29_26)) fun t30_27 =>
    M.bind (guardM true t23_21 (bin (.cell .str) .eql t27_24 t30_27)) fun t31_28 =>
    M.bind (pick t23_21 t31_28 (Go.Value.bool false)) fun t32_29 =>
    M.pure t32_29
noncomputable def k12 : Value → Value → M Value := b12 
noncomputable def f12 : List Value → M Value := ar2 k12
theorem b12_eq (a0 a1 : Value) : b12  a0 a1 = execFn TTab (T12 ) Go.Proofs.Tryd.f12 h12 [a0, a1] := by kernel_rfl
theorem k12_eq (a0 a1 : Value) : k12 a0 a1 = execFn TTab GT12 Go.Proofs.Tryd.f12 h12 [a0, a1] := b12_eq  a0 a1
theorem f12_sum : Summ Go.Proofs.Tryd.prog 12 f12 := summ_of_exec tok GT12_sum (draw_sound tok GT12_sum mixed) Go.Proofs.Tryd.func12 (by kernel_rfl) rfl h12 (ar2_eq k12_eq)
/-- mailcoach/mailcoachlaw21.CodecEntries -/
def h3 : Hint := (.seq .nil (.seq (.seq .nil (.cond (.seq .nil .nil) .nil)) (.seq (.seq .nil (.cond (.seq .nil .nil) .nil)) (.seq .nil (.seq .nil (.seq (.seq .nil (.cond (.seq .nil .nil) .nil)) (.seq (.seq .nil (.block (.loop [62] [0] [] (some [4]) (.seq .nil (.seq (.cond .nil .nil) (.seq (.block (.seq .nil (.seq .nil (.seq .nil (.seq .nil (.cond (.seq .nil .nil) .nil)))))) .nil)))))) (.seq .nil .nil))))))))
abbrev T3 (F7 F8 F9 F10 F11 F12 : List Value → M Value) : FT := [(7, F7), (8, F8), (9, F9), (10, F10), (11, F11), (12, F12)]
noncomputable abbrev GT3 : FT := T3 f7 f8 f9 f10 f11 f12
theorem GT3_sum : Summs Go.Proofs.Tryd.prog GT3 := summs_cons f7_sum (summs_cons f8_sum (summs_cons f9_sum (summs_cons f10_sum (summs_cons f11_sum (summs_cons f12_sum (summs_nil))))))
def b3_p0 (F7 F8 F9 F10 F11 F12 : List Value → M Value) (t60_40 : Value) (vs_42 : List Value) : M J :=
    M.bind (idxSl 1 t60_40 (nth vs_42 0)) fun t64_44 =>
    M.bind (ld1 t64_44) fun t65_45 =>
    M.bind (bump 1) fun b_46 =>
    M.bind (F10 [t65_45]) fun t68_47 =>
    M.bind (extr 0 t68_47) fun t69_48 =>
    M.bind (extr 1 t68_47) fun t70_49 =>
    M.bind (newCells b_46 [.string ⟨#[]⟩, .int .u64 0, .string ⟨#[]⟩, .slice none 0 0] 25) fun t11_50 =>
    M.bind (stN 4 t11_50 t69_48) fun tu_51 =>
    M.bind (bump 1) fun b_52 =>
    M.bind (F11 [t65_45]) fun t73_53 =>
    M.bind (extr 0 t73_53) fun t74_54 =>
    M.bind (extr 1 t73_53) fun t75_55 =>
    M.bind (newCells b_52 [.string ⟨#[]⟩, .int .u64 0, .string ⟨#[]⟩, .slice none 0 0] 25) fun t13_56 =>
    M.bind (stN 4 t13_56 t74_54) fun tu_57 =>
    M.bind (bin (.cell .int) .neq t70_49 t75_55) fun t78_58 =>
    M.bind (guardM false t78_58 (ldN 4 t11_50)) fun t80_59 =>
    M.bind (guardM false t78_58 (ldN 4 t13_56)) fun t81_60 =>
    M.bind (guardM false t78_58 (F12 [t80_59, t81_60])) fun t82_61 =>
    M.bind (guardM false t78_58 (un .not t82_61)) fun t83_62 =>
    M.bind (pick t78_58 (Go.Value.bool true) t83_62) fun t84_63 =>
    condM t84_63 (
    M.pure (.ret [(Go.Value.bool false)])) (
    M.bind (bin (.cell .int) .add (nth vs_42 0) (Go.Value.int Go.IntKind.i64 1)) fun t85_64 =>
    M.pure (.norm [t85_64]))
def b3_p1 (F7 F8 F9 F10 F11 F12 : List Value → M Value) (t61_41 : Value) (t60_40 : Value) (vs_42 : List Value) : M J :=
    M.bind (bin (.cell .int) .lss (nth vs_42 0) t61_41) fun t63_43 =>
    condM t63_43 (
    b3_p0 F7 F8 F9 F10 F11 F12 t60_40 vs_42) (
    M.pure (.exit 0 []))
def b3_p2 (F7 F8 F9 F10 F11 F12 : List Value → M Value) (t2_2 : Value) (a1 : Value) : M Value :=
    M.bind (ldN 4 t2_2) fun t39_23 =>
    M.bind (F8 [t39_23]) fun t40_24 =>
    M.bind (extr 0 t40_24) fun t41_25 =>
    M.bind (extr 1 t40_24) fun t42_26 =>
    M.bind (ldN 4 t2_2) fun t44_27 =>
    M.bind (F9 [t44_27]) fun t45_28 =>
    M.bind (extr 0 t45_28) fun t46_29 =>
    M.bind (extr 1 t45_28) fun t47_30 =>
    M.bind (bump 2) fun b_31 =>
    M.bind (bin (.cell .int) .neq t42_26 t47_30) fun t50_32 =>
    M.bind (guardM false t50_32 (M.pure t41_25)) fun t52_33 =>
    M.bind (guardM false t50_32 (cvString t52_33)) fun t53_34 =>
    M.bind (guardM false t50_32 (M.pure t46_29)) fun t54_35 =>
    M.bind (guardM false t50_32 (cvString t54_35)) fun t55_36 =>
    M.bind (guardM false t50_32 (bin (.cell .str) .neq t53_34 t55_36)) fun t56_37 =>
    M.bind (pick t50_32 (Go.Value.bool true) t56_37) fun t57_38 =>
    condM t57_38 (
    M.pure (Go.Value.bool false)) (
    M.bind (bump 1) fun b_39 =>
    M.bind (mkLitSl b_39 23 [.slice none 0 0] 2 [(0, 1, a1), (1, 1, t41_25)]) fun t60_40 =>
    M.bind (lenSl t60_40) fun t61_41 =>
    M.bind (loopM (b3_p1 F7 F8 F9 F10 F11 F12 t61_41 t60_40) [(Go.Value.int Go.IntKind.i64 0)]) (onJ (fun _ => M.stuck) (fun id_65 vs_65 =>
    cond (Nat.beq id_65 0) (
    M.pure (Go.Value.bool true)) (M.stuck)) (fun vs_65 =>
    M.pure (nth vs_65 0))))
def b3_p3 (F7 F8 F9 F10 F11 F12 : List Value → M Value) (t2_2 : Value) (a1 : Value) : M Value :=
    M.bind (addOff 0 t2_2) fun t17_5 =>
    M.bind (ld1 t17_5) fun t18_6 =>
    M.bind (lenStr t18_6) fun t19_7 =>
    M.bind (bin (.cell .int) .gtr t19_7 (Go.Value.int Go.IntKind.i64 1000)) fun t20_8 =>
    M.bind (guardM false t20_8 (addOff 2 t2_2)) fun t22_9 =>
    M.bind (guardM false t20_8 (ld1 t22_9)) fun t23_10 =>
    M.bind (guardM false t20_8 (lenStr t23_10)) fun t24_11 =>
    M.bind (guardM false t20_8 (bin (.cell .int) .gtr t24_11 (Go.Value.int Go.IntKind.i64 1000))) fun t25_12 =>
    M.bind (pick t20_8 (Go.Value.bool true) t25_12) fun t26_13 =>
    M.bind (guardM false t26_13 (addOff 3 t2_2)) fun t28_14 =>
    M.bind (guardM false t26_13 (ld1 t28_14)) fun t29_15 =>
    M.bind (guardM false t26_13 (lenSl t29_15)) fun t30_16 =>
    M.bind (guardM false t26_13 (bin (.cell .int) .gtr t30_16 (Go.Value.int Go.IntKind.i64 1000))) fun t31_17 =>
    M.bind (pick t26_13 (Go.Value.bool true) t31_17) fun t32_18 =>
    M.bind (guardM false t32_18 (M.pure a1)) fun t34_19 =>
    M.bind (guardM false t32_18 (lenSl t34_19)) fun t35_20 =>
    M.bind (guardM false t32_18 (bin (.cell .int) .gtr t35_20 (Go.Value.int Go.IntKind.i64 1000))) fun t36_21 =>
    M.bind (pick t32_18 (Go.Value.bool true) t36_21) fun t37_22 =>
    condM t37_22 (
    M.pure (Go.Value.bool true)) (
    b3_p2 F7 F8 F9 F10 F11 F12 t2_2 a1)
def b3 (F7 F8 F9 F10 F11 F12 : List Value → M Value) : Value → Value → M Value := fun a0 a1 =>

    M.bind (bump 1) fun b_1 =>
    M.bind (newCells b_1 (Value.cells a0).toList 25) fun t2_2 =>
    M.bind (F7 []) fun t15_3 =>
    M.bind (un .not t15_3) fun t16_4 =>
    condM t16_4 (
    M.pure (Go.Value.bool false)) (
    b3_p3 F7 F8 F9 F10 F11 F12 t2_2 a1)
noncomputable def k3 : Value → Value → M Value := b3 f7 f8 f9 f10 f11 f12
noncomputable def f3 : List Value → M Value := ar2 k3
theorem b3_eq (F7 F8 F9 F10 F11 F12 : List Value → M Value) (a0 a1 : Value) : b3 F7 F8 F9 F10 F11 F12 a0 a1 = execFn TTab (T3 F7 F8 F9 F10 F11 F12) Go.Proofs.Tryd.f3 h3 [a0, a1] := by kernel_rfl
theorem k3_eq (a0 a1 : Value) : k3 a0 a1 = execFn TTab GT3 Go.Proofs.Tryd.f3 h3 [a0, a1] := b3_eq f7 f8 f9 f10 f11 f12 a0 a1
theorem f3_sum : Summ Go.Proofs.Tryd.prog 3 f3 := summ_of_exec tok GT3_sum (draw_sound tok GT3_sum mixed) Go.Proofs.Tryd.func3 (by kernel_rfl) rfl h3 (ar2_eq k3_eq)
/-- mailcoach/mailcoachlaw21.long -/
def h13 : Hint := (.seq .nil (.seq (.seq .nil (.cond (.seq .nil .nil) .nil)) (.seq (.seq .nil (.block (.loop [28] [0] [] (some [2]) (.seq .nil (.seq (.cond .nil .nil) (.seq (.block (.seq .nil (.seq (.seq .nil (.cond (.seq .nil .nil) .nil)) (.seq .nil (.block (.loop [47] [2] [] (some [2]) (.seq .nil (.seq (.cond .nil .nil) (.seq (.block (.seq .nil (.seq .nil (.cond (.seq .nil .nil) .nil)))) .nil))))))))) .nil)))))) (.seq (.seq .nil (.block (.loop [60] [4] [] (some [2]) (.seq .nil (.seq (.cond .nil .nil) (.seq (.block (.seq .nil (.seq .nil (.cond (.seq .nil .nil) .nil)))) .nil)))))) (.seq .nil .nil)))))
abbrev T13 : FT := []
noncomputable abbrev GT13 : FT := T13 
theorem GT13_sum : Summs Go.Proofs.Tryd.prog GT13 := summs_nil
def b13_p0 (t45_39 : Value) (vs_41 : List Value) : M J :=
    M.bind (bump 1) fun b_43 =>
    M.bind (idxSl 2 t45_39 (nth vs_41 0)) fun t49_44 =>
    M.bind (ldN 2 t49_44) fun t50_45 =>
    M.bind (newCells b_43 [.int .u64 0, .slice none 0 0] 91) fun t6_46 =>
    M.bind (stN 2 t6_46 t50_45) fun tu_47 =>
    M.bind (addOff 1 t6_46) fun t51_48 =>
    M.bind (ld1 t51_48) fun t52_49 =>
    M.bind (lenSl t52_49) fun t53_50 =>
    M.bind (bin (.cell .int) .gtr t53_50 (Go.Value.int Go.IntKind.i64 40)) fun t54_51 =>
    condM t54_51 (
    M.pure (.ret [(Go.Value.bool true)])) (
    M.bind (bin (.cell .int) .add (nth vs_41 0) (Go.Value.int Go.IntKind.i64 1)) fun t55_52 =>
    M.pure (.norm [t55_52]))
def b13_p1 (t46_40 : Value) (t45_39 : Value) (vs_41 : List Value) : M J :=
    M.bind (bin (.cell .int) .lss (nth vs_41 0) t46_40) fun t48_42 =>
    condM t48_42 (
    b13_p0 t45_39 vs_41) (
    M.pure (.exit 2 []))
def b13_p2 (t26_18 : Value) (vs_20 : List Value) : M J :=
    M.bind (bump 1) fun b_22 =>
    M.bind (idxSl 5 t26_18 (nth vs_20 0)) fun t30_23 =>
    M.bind (ldN 5 t30_23) fun t31_24 =>
    M.bind (newCells b_22 [.string ⟨#[]⟩, .int .u8 0, .int .u64 0, .int .u64 0, .slice none 0 0] 88) fun t4_25 =>
    M.bind (stN 5 t4_25 t31_24) fun tu_26 =>
    M.bind (addOff 0 t4_25) fun t32_27 =>
    M.bind (ld1 t32_27) fun t33_28 =>
    M.bind (lenStr t33_28) fun t34_29 =>
    M.bind (bin (.cell .int) .gtr t34_29 (Go.Value.int Go.IntKind.i64 200)) fun t35_30 =>
    M.bind (guardM false t35_30 (addOff 2 t4_25)) fun t37_31 =>
    M.bind (guardM false t35_30 (addOff 2 t37_31)) fun t38_32 =>
    M.bind (guardM false t35_30 (ld1 t38_32)) fun t39_33 =>
    M.bind (guardM false t35_30 (lenSl t39_33)) fun t40_34 =>
    M.bind (guardM false t35_30 (bin (.cell .int) .gtr t40_34 (Go.Value.int Go.IntKind.i64 40))) fun t41_35 =>
    M.bind (pick t35_30 (Go.Value.bool true) t41_35) fun t42_36 =>
    condM t42_36 (
    M.pure (.ret [(Go.Value.bool true)])) (
    M.bind (addOff 2 t4_25) fun t43_37 =>
    M.bind (addOff 2 t43_37) fun t44_38 =>
    M.bind (ld1 t44_38) fun t45_39 =>
    M.bind (lenSl t45_39) fun t46_40 =>
    M.bind (loopM (b13_p1 t46_40 t45_39) [(Go.Value.int Go.IntKind.i64 0)]) (onJ (fun _ => M.stuck) (fun id_53 vs_53 =>
    cond (Nat.beq id_53 2) (
    M.bind (bin (.cell .int) .add (nth vs_20 0) (Go.Value.int Go.IntKind.i64 1)) fun t56_54 =>
    M.pure (.norm [t56_54])) (M.stuck)) (fun vs_53 =>
    M.pure (.ret [(nth vs_53 0)]))))
def b13_p3 (t27_19 : Value) (t26_18 : Value) (vs_20 : List Value) : M J :=
    M.bind (bin (.cell .int) .lss (nth vs_20 0) t27_19) fun t29_21 =>
    condM t29_21 (
    b13_p2 t26_18 vs_20) (
    M.pure (.exit 0 []))
def b13_p4 (t58_57 : Value) (vs_59 : List Value) : M J :=
    M.bind (bump 1) fun b_61 =>
    M.bind (idxSl 5 t58_57 (nth vs_59 0)) fun t62_62 =>
    M.bind (ldN 5 t62_62) fun t63_63 =>
    M.bind (newCells b_61 [.string ⟨#[]⟩, .int .u64 0, .int .u64 0, .int .u64 0, .int .u64 0] 93) fun t8_64 =>
    M.bind (stN 5 t8_64 t63_63) fun tu_65 =>
    M.bind (addOff 0 t8_64) fun t64_66 =>
    M.bind (ld1 t64_66) fun t65_67 =>
    M.bind (lenStr t65_67) fun t66_68 =>
    M.bind (bin (.cell .int) .gtr t66_68 (Go.Value.int Go.IntKind.i64 200)) fun t67_69 =>
    condM t67_69 (
    M.pure (.ret [(Go.Value.bool true)])) (
    M.bind (bin (.cell .int) .add (nth vs_59 0) (Go.Value.int Go.IntKind.i64 1)) fun t68_70 =>
    M.pure (.norm [t68_70]))
def b13_p5 (t59_58 : Value) (t58_57 : Value) (vs_59 : List Value) : M J :=
    M.bind (bin (.cell .int) .lss (nth vs_59 0) t59_58) fun t61_60 =>
    condM t61_60 (
    b13_p4 t58_57 vs_59) (
    M.pure (.exit 4 []))
def b13_p6 (t1_2 : Value) : M Value :=
    M.bind (addOff 3 t1_2) fun t25_17 =>
    M.bind (ld1 t25_17) fun t26_18 =>
    M.bind (lenSl t26_18) fun t27_19 =>
    M.bind (loopM (b13_p3 t27_19 t26_18) [(Go.Value.int Go.IntKind.i64 0)]) (onJ (fun _ => M.stuck) (fun id_55 vs_55 =>
    cond (Nat.beq id_55 0) (
    M.bind (addOff 4 t1_2) fun t57_56 =>
    M.bind (ld1 t57_56) fun t58_57 =>
    M.bind (lenSl t58_57) fun t59_58 =>
    M.bind (loopM (b13_p5 t59_58 t58_57) [(Go.Value.int Go.IntKind.i64 0)]) (onJ (fun _ => M.stuck) (fun id_71 vs_71 =>
    cond (Nat.beq id_71 4) (
    M.pure (Go.Value.bool false)) (M.stuck)) (fun vs_71 =>
    M.pure (nth vs_71 0)))) (M.stuck)) (fun vs_55 =>
    M.pure (nth vs_55 0)))
def b13 : Value → M Value := fun a0 =>

    M.bind (bump 1) fun b_1 =>
    M.bind (newCells b_1 (Value.cells a0).toList 43) fun t1_2 =>
    M.bind (addOff 2 t1_2) fun t9_3 =>
    M.bind (ld1 t9_3) fun t10_4 =>
    M.bind (lenSl t10_4) fun t11_5 =>
    M.bind (bin (.cell .int) .gtr t11_5 (Go.Value.int Go.IntKind.i64 100)) fun t12_6 =>
    M.bind (guardM false t12_6 (addOff 3 t1_2)) fun t14_7 =>
    M.bind (guardM false t12_6 (ld1 t14_7)) fun t15_8 =>
    M.bind (guardM false t12_6 (lenSl t15_8)) fun t16_9 =>
    M.bind (guardM false t12_6 (bin (.cell .int) .gtr t16_9 (Go.Value.int Go.IntKind.i64 10))) fun t17_10 =>
    M.bind (pick t12_6 (Go.Value.bool true) t17_10) fun t18_11 =>
    M.bind (guardM false t18_11 (addOff 4 t1_2)) fun t20_12 =>
    M.bind (guardM false t18_11 (ld1 t20_12)) fun t21_13 =>
    M.bind (guardM false t18_11 (lenSl t21_13)) fun t22_14 =>
    M.bind (guardM false t18_11 (bin (.cell .int) .gtr t22_14 (Go.Value.int Go.IntKind.i64 40))) fun t23_15 =>
    M.bind (pick t18_11 (Go.Value.bool true) t23_15) fun t24_16 =>
    condM t24_16 (
    M.pure (Go.Value.bool true)) (
    b13_p6 t1_2)
noncomputable def k13 : Value → M Value := b13 
noncomputable def f13 : List Value → M Value := ar1 k13
theorem b13_eq (a0 : Value) : b13  a0 = execFn TTab (T13 ) Go.Proofs.Tryd.f13 h13 [a0] := by kernel_rfl
theorem k13_eq (a0 : Value) : k13 a0 = execFn TTab GT13 Go.Proofs.Tryd.f13 h13 [a0] := b13_eq  a0
theorem f13_sum : Summ Go.Proofs.Tryd.prog 13 f13 := summ_of_exec tok GT13_sum (draw_sound tok GT13_sum mixed) Go.Proofs.Tryd.func13 (by kernel_rfl) rfl h13 (ar1_eq k13_eq)
/-- mailcoach/mailcoachlaw13.Made -/
def h35 : Hint := (.seq .nil (.seq .nil (.seq .nil (.seq (.seq .nil (.block (.loop [5, 6, 12] [0] [5] none (.seq .nil (.seq (.cond .nil .nil) (.seq (.block (.seq .nil (.seq (.seq .nil (.cond .nil .nil)) (.seq .nil .nil)))) .nil)))))) (.seq (.seq .nil (.seq .nil (.condJ [] [] [] none .nil .nil))) (.seq .nil .nil))))))
abbrev T35 : FT := []
noncomputable abbrev GT35 : FT := T35 
theorem GT35_sum : Summs Go.Proofs.Tryd.prog GT35 := summs_nil
def b35_p0 (t16_5 : Value) (vs_2 : List Value) : M J :=
    M.bind (bump 1) fun b_7 =>
    M.bind (bin (.cell .int) .quo t16_5 (Go.Value.int Go.IntKind.u8 64)) fun t21_8 =>
    M.bind (cvInt .u64 t21_8) fun t22_9 =>
    M.bind (bin (.cell .int) .add (Go.Value.int Go.IntKind.u64 1) t22_9) fun t23_10 =>
    M.bind (bin (.cell .int) .add (nth vs_2 1) t23_10) fun t24_11 =>
    M.bind (bump 3) fun b_12 =>
    M.bind (bin (.cell .int) .rem t16_5 (Go.Value.int Go.IntKind.u8 6)) fun t28_13 =>
    M.bind (cvInt .u64 t28_13) fun t29_14 =>
    M.bind (mkAgg [.int .u64 0, .bool false, .int .u64 0] [(0, 1, t24_11), (1, 1, (Go.Value.bool true)), (2, 1, t29_14)]) fun t30_15 =>
    M.bind (mkLitSl (b_12 + 1) 96 [.int .u64 0, .bool false, .int .u64 0] 1 [(0, 3, t30_15)]) fun t31_16 =>
    M.bind (app (b_12 + 2) 96 3 24 (nth vs_2 0) t31_16) fun t32_17 =>
    M.bind (bin (.cell .int) .add (nth vs_2 2) (Go.Value.int Go.IntKind.i64 1)) fun t33_18 =>
    M.pure (.norm [t32_17, t24_11, t33_18])
def b35_p1 (t11_1 : Value) (a0 : Value) (vs_2 : List Value) : M J :=
    M.bind (bin (.cell .int) .lss (nth vs_2 2) t11_1) fun t13_3 =>
    condM t13_3 (
    M.bind (idxSl 1 a0 (nth vs_2 2)) fun t15_4 =>
    M.bind (ld1 t15_4) fun t16_5 =>
    M.bind (bin (.cell .int) .gtr (nth vs_2 2) (Go.Value.int Go.IntKind.i64 12)) fun t18_6 =>
    condM t18_6 (
    M.pure (.exit 0 [(nth vs_2 0)])) (
    b35_p0 t16_5 vs_2)) (
    M.pure (.exit 0 [(nth vs_2 0)]))
def b35_p2 (vs_19 : List Value) (a1 : Value) : M Value :=
    M.bind (lenSl (nth vs_19 0)) fun t35_20 =>
    M.bind (guardM true a1 (M.pure t35_20)) fun t38_21 =>
    M.bind (guardM true a1 (bin (.cell .int) .gtr t38_21 (Go.Value.int Go.IntKind.i64 0))) fun t39_22 =>
    M.bind (pick a1 t39_22 (Go.Value.bool false)) fun t40_23 =>
    M.bind (condM t40_23 (
    M.bind (bin (.cell .int) .sub t35_20 (Go.Value.int Go.IntKind.i64 1)) fun t43_24 =>
    M.bind (bin (.cell .int) .sub t35_20 (Go.Value.int Go.IntKind.i64 1)) fun t46_25 =>
    M.bind (idxSl 3 (nth vs_19 0) t43_24) fun t47_26 =>
    M.bind (addOff 1 t47_26) fun t48_27 =>
    M.bind (st1 t48_27 (Go.Value.bool false)) fun tu_28 =>
    M.bind (idxSl 3 (nth vs_19 0) t46_25) fun t49_29 =>
    M.bind (addOff 2 t49_29) fun t50_30 =>
    M.bind (st1 t50_30 (Go.Value.int Go.IntKind.u64 0)) fun tu_31 =>
    M.pure (.norm [])) (
    M.pure (.norm []))) (onJ (fun vs_32 =>
    M.pure (nth vs_19 0)) (fun _ _ => M.stuck) (fun _ => M.stuck))
def b35 : Value → Value → M Value := fun a0 a1 =>

    M.bind (lenSl a0) fun t11_1 =>
    M.bind (loopM (b35_p1 t11_1 a0) [(Go.Value.slice none 0 0), (Go.Value.int Go.IntKind.u64 0), (Go.Value.int Go.IntKind.i64 0)]) (onJ (fun _ => M.stuck) (fun id_19 vs_19 =>
    cond (Nat.beq id_19 0) (
    b35_p2 vs_19 a1) (M.stuck)) (fun _ => M.stuck))
noncomputable def k35 : Value → Value → M Value := b35 
noncomputable def f35 : List Value → M Value := ar2 k35
theorem b35_eq (a0 a1 : Value) : b35  a0 a1 = execFn TTab (T35 ) Go.Proofs.Tryd.f35 h35 [a0, a1] := by kernel_rfl
theorem k35_eq (a0 a1 : Value) : k35 a0 a1 = execFn TTab GT35 Go.Proofs.Tryd.f35 h35 [a0, a1] := b35_eq  a0 a1
theorem f35_sum : Summ Go.Proofs.Tryd.prog 35 f35 := summ_of_exec tok GT35_sum (draw_sound tok GT35_sum mixed) Go.Proofs.Tryd.func35 (by kernel_rfl) rfl h35 (ar2_eq k35_eq)
/-- mailcoach/mailcoachlaw13.Place -/
def h64 : Hint := (.seq .nil (.seq (.seq .nil (.cond (.seq .nil .nil) .nil)) (.seq .nil .nil)))
abbrev T64 : FT := []
noncomputable abbrev GT64 : FT := T64 
theorem GT64_sum : Summs Go.Proofs.Tryd.prog GT64 := summs_nil
def b64 : Value → Value → M Value := fun a0 a1 =>

    M.bind (bump 2) fun b_1 =>
    M.bind (newCells b_1 (Value.cells a0).toList 53) fun t2_2 =>
    M.bind (newCells (b_1 + 1) [.int .u64 0, .int .u64 0] 53) fun t4_3 =>
    condM a1 (
    M.bind (ldN 2 t2_2) fun t6_4 =>
    M.bind (stN 2 t4_3 t6_4) fun tu_5 =>
    M.bind (ldN 2 t4_3) fun tr_6 =>
    M.pure tr_6) (
    M.bind (addOff 0 t2_2) fun t7_7 =>
    M.bind (ld1 t7_7) fun t8_8 =>
    M.bind (bin (.cell .int) .rem t8_8 (Go.Value.int Go.IntKind.u64 16)) fun t9_9 =>
    M.bind (addOff 1 t2_2) fun t10_10 =>
    M.bind (ld1 t10_10) fun t11_11 =>
    M.bind (bin (.cell .int) .rem t11_11 (Go.Value.int Go.IntKind.u64 8)) fun t12_12 =>
    M.bind (mkAgg [.int .u64 0, .int .u64 0] [(0, 1, t9_9), (1, 1, t12_12)]) fun t13_13 =>
    M.bind (stN 2 t4_3 t13_13) fun tu_14 =>
    M.bind (ldN 2 t4_3) fun tr_15 =>
    M.pure tr_15)
noncomputable def k64 : Value → Value → M Value := b64 
noncomputable def f64 : List Value → M Value := ar2 k64
theorem b64_eq (a0 a1 : Value) : b64  a0 a1 = execFn TTab (T64 ) Go.Proofs.Tryd.f64 h64 [a0, a1] := by kernel_rfl
theorem k64_eq (a0 a1 : Value) : k64 a0 a1 = execFn TTab GT64 Go.Proofs.Tryd.f64 h64 [a0, a1] := b64_eq  a0 a1
theorem f64_sum : Summ Go.Proofs.Tryd.prog 64 f64 := summ_of_exec tok GT64_sum (draw_sound tok GT64_sum mixed) Go.Proofs.Tryd.func64 (by kernel_rfl) rfl h64 (ar2_eq k64_eq)
/-- mailcoach/mailcoachref03.put -/
def h85 : Hint := (.seq .nil (.seq .nil (.seq (.block (.loop [5] [0] [5] none (.seq (.seq .nil (.cond .nil .nil)) (.block .nil)))) (.seq (.seq .nil (.cond (.seq .nil .nil) .nil)) (.seq (.draw [0, 1, 2, 3, 5, 6, 8, 9, 10, 4, 7, 11, 12]) .nil)))))
abbrev T85 : FT := []
noncomputable abbrev GT85 : FT := T85 
theorem GT85_sum : Summs Go.Proofs.Tryd.prog GT85 := summs_nil
def b85_p0 (a0 : Value) (a1 : Value) (vs_1 : List Value) : M J :=
    M.bind (lenSl a0) fun t8_2 =>
    M.bind (bin (.cell .int) .lss (nth vs_1 0) t8_2) fun t9_3 =>
    M.bind (guardM true t9_3 (M.pure a0)) fun t11_4 =>
    M.bind (guardM true t9_3 (M.pure (nth vs_1 0))) fun t12_5 =>
    M.bind (guardM true t9_3 (idxSl 1 t11_4 t12_5)) fun t13_6 =>
    M.bind (guardM true t9_3 (ld1 t13_6)) fun t14_7 =>
    M.bind (guardM true t9_3 (M.pure a1)) fun t15_8 =>
    M.bind (guardM true t9_3 (bin (.cell .int) .lss t14_7 t15_8)) fun t16_9 =>
    M.bind (pick t9_3 t16_9 (Go.Value.bool false)) fun t17_10 =>
    condM t17_10 (
    M.bind (bin (.cell .int) .add (nth vs_1 0) (Go.Value.int Go.IntKind.i64 1)) fun t19_11 =>
    M.pure (.norm [t19_11])) (
    M.pure (.exit 0 [(nth vs_1 0)]))
def b85_p1 (a0 : Value) (vs_12 : List Value) (a1 : Value) : M Value :=
    M.bind (lenSl a0) fun t22_13 =>
    M.bind (bin (.cell .int) .lss (nth vs_12 0) t22_13) fun t23_14 =>
    M.bind (guardM true t23_14 (M.pure a0)) fun t25_15 =>
    M.bind (guardM true t23_14 (M.pure (nth vs_12 0))) fun t26_16 =>
    M.bind (guardM true t23_14 (idxSl 1 t25_15 t26_16)) fun t27_17 =>
    M.bind (guardM true t23_14 (ld1 t27_17)) fun t28_18 =>
    M.bind (guardM true t23_14 (M.pure a1)) fun t29_19 =>
    M.bind (guardM true t23_14 (bin (.cell .int) .eql t28_18 t29_19)) fun t30_20 =>
    M.bind (pick t23_14 t30_20 (Go.Value.bool false)) fun t31_21 =>
    condM t31_21 (
    M.pure a0) (
    M.bind (bumpC 5) fun b_22 =>
    M.bind (mkLitSl b_22 22 [.int .u64 0] 0 []) fun t33_23 =>
    M.bind (slSl 1 a0 none (some (nth vs_12 0)) none) fun t36_24 =>
    M.bind (mkLitSl (b_22 + 2) 22 [.int .u64 0] 1 [(0, 1, a1)]) fun t39_25 =>
    M.bind (slSl 1 a0 (some (nth vs_12 0)) none none) fun t43_26 =>
    M.bind (app (b_22 + 1) 22 1 8 t33_23 t36_24) fun t37_27 =>
    M.bind (app (b_22 + 3) 22 1 8 t37_27 t39_25) fun t40_28 =>
    M.bind (app (b_22 + 4) 22 1 8 t40_28 t43_26) fun t44_29 =>
    M.pure t44_29)
def b85 : Value → Value → M Value := fun a0 a1 =>

    M.bind (loopM (b85_p0 a0 a1) [(Go.Value.int Go.IntKind.i64 0)]) (onJ (fun _ => M.stuck) (fun id_12 vs_12 =>
    cond (Nat.beq id_12 0) (
    b85_p1 a0 vs_12 a1) (M.stuck)) (fun _ => M.stuck))
noncomputable def k85 : Value → Value → M Value := b85 
noncomputable def f85 : List Value → M Value := ar2 k85
theorem b85_eq (a0 a1 : Value) : b85  a0 a1 = execFn TTab (T85 ) Go.Proofs.Tryd.f85 h85 [a0, a1] := by kernel_rfl
theorem k85_eq (a0 a1 : Value) : k85 a0 a1 = execFn TTab GT85 Go.Proofs.Tryd.f85 h85 [a0, a1] := b85_eq  a0 a1
theorem f85_sum : Summ Go.Proofs.Tryd.prog 85 f85 := summ_of_exec tok GT85_sum (draw_sound tok GT85_sum mixed) Go.Proofs.Tryd.func85 (by kernel_rfl) rfl h85 (ar2_eq k85_eq)
/-- mailcoach/mailcoachref03.ends -/
def h77 : Hint := (.seq .nil (.seq .nil (.seq (.seq .nil (.block (.loop [3, 4] [0] [3] none (.seq (.seq .nil (.cond .nil .nil)) (.seq (.block (.draw [0, 1, 2, 3, 4, 5, 7, 8, 9, 10, 11, 6, 12, 13])) .nil))))) (.seq .nil .nil))))
abbrev T77 (F85 : List Value → M Value) : FT := [(85, F85)]
noncomputable abbrev GT77 : FT := T77 f85
theorem GT77_sum : Summs Go.Proofs.Tryd.prog GT77 := summs_cons f85_sum (summs_nil)
def b77_p0 (F85 : List Value → M Value) (a0 : Value) (vs_1 : List Value) : M J :=
    M.bind (bumpC 0) fun b_4 =>
    M.bind (idxSl 2 a0 (nth vs_1 1)) fun t14_5 =>
    M.bind (addOff 0 t14_5) fun t15_6 =>
    M.bind (ld1 t15_6) fun t16_7 =>
    M.bind (idxSl 2 a0 (nth vs_1 1)) fun t20_8 =>
    M.bind (addOff 1 t20_8) fun t21_9 =>
    M.bind (ld1 t21_9) fun t22_10 =>
    M.bind (F85 [(nth vs_1 0), t16_7]) fun t17_11 =>
    same (ld1 t21_9) t22_10 (
    M.bind (F85 [t17_11, t22_10]) fun t23_12 =>
    M.bind (bin (.cell .int) .add (nth vs_1 1) (Go.Value.int Go.IntKind.i64 1)) fun t10_13 =>
    M.pure (.norm [t23_12, t10_13]))
def b77_p1 (F85 : List Value → M Value) (a0 : Value) (vs_1 : List Value) : M J :=
    M.bind (lenSl a0) fun t7_2 =>
    M.bind (bin (.cell .int) .lss (nth vs_1 1) t7_2) fun t8_3 =>
    condM t8_3 (
    b77_p0 F85 a0 vs_1) (
    M.pure (.exit 0 [(nth vs_1 0)]))
def b77 (F85 : List Value → M Value) : Value → M Value := fun a0 =>

    M.bind (loopM (b77_p1 F85 a0) [(Go.Value.slice none 0 0), (Go.Value.int Go.IntKind.i64 0)]) (onJ (fun _ => M.stuck) (fun id_14 vs_14 =>
    cond (Nat.beq id_14 0) (
    M.pure (nth vs_14 0)) (M.stuck)) (fun _ => M.stuck))
noncomputable def k77 : Value → M Value := b77 f85
noncomputable def f77 : List Value → M Value := ar1 k77
theorem b77_eq (F85 : List Value → M Value) (a0 : Value) : b77 F85 a0 = execFn TTab (T77 F85) Go.Proofs.Tryd.f77 h77 [a0] := by kernel_rfl
theorem k77_eq (a0 : Value) : k77 a0 = execFn TTab GT77 Go.Proofs.Tryd.f77 h77 [a0] := b77_eq f85 a0
theorem f77_sum : Summ Go.Proofs.Tryd.prog 77 f77 := summ_of_exec tok GT77_sum (draw_sound tok GT77_sum mixed) Go.Proofs.Tryd.func77 (by kernel_rfl) rfl h77 (ar1_eq k77_eq)
/-- mailcoach/mailcoachref03.In -/
def h78 : Hint := (.seq .nil (.seq (.seq .nil (.block (.loop [5] [0] [] (some [4]) (.seq (.seq .nil (.cond .nil .nil)) (.seq (.block (.seq .nil (.cond (.seq .nil .nil) .nil))) .nil))))) (.seq .nil .nil)))
abbrev T78 : FT := []
noncomputable abbrev GT78 : FT := T78 
theorem GT78_sum : Summs Go.Proofs.Tryd.prog GT78 := summs_nil
def b78_p0 (a0 : Value) (vs_1 : List Value) (a1 : Value) : M J :=
    M.bind (idxSl 2 a0 (nth vs_1 0)) fun t14_4 =>
    M.bind (addOff 0 t14_4) fun t15_5 =>
    M.bind (ld1 t15_5) fun t16_6 =>
    M.bind (bin (.cell .int) .leq t16_6 a1) fun t18_7 =>
    M.bind (guardM true t18_7 (M.pure a1)) fun t20_8 =>
    M.bind (guardM true t18_7 (M.pure a0)) fun t21_9 =>
    M.bind (guardM true t18_7 (M.pure (nth vs_1 0))) fun t22_10 =>
    M.bind (guardM true t18_7 (idxSl 2 t21_9 t22_10)) fun t23_11 =>
    M.bind (guardM true t18_7 (addOff 1 t23_11)) fun t24_12 =>
    M.bind (guardM true t18_7 (ld1 t24_12)) fun t25_13 =>
    M.bind (guardM true t18_7 (bin (.cell .int) .lss t20_8 t25_13)) fun t26_14 =>
    M.bind (pick t18_7 t26_14 (Go.Value.bool false)) fun t27_15 =>
    condM t27_15 (
    M.pure (.ret [(Go.Value.bool true)])) (
    M.bind (bin (.cell .int) .add (nth vs_1 0) (Go.Value.int Go.IntKind.i64 1)) fun t11_16 =>
    M.pure (.norm [t11_16]))
def b78_p1 (a0 : Value) (a1 : Value) (vs_1 : List Value) : M J :=
    M.bind (lenSl a0) fun t8_2 =>
    M.bind (bin (.cell .int) .lss (nth vs_1 0) t8_2) fun t9_3 =>
    condM t9_3 (
    b78_p0 a0 vs_1 a1) (
    M.pure (.exit 0 []))
def b78 : Value → Value → M Value := fun a0 a1 =>

    M.bind (loopM (b78_p1 a0 a1) [(Go.Value.int Go.IntKind.i64 0)]) (onJ (fun _ => M.stuck) (fun id_17 vs_17 =>
    cond (Nat.beq id_17 0) (
    M.pure (Go.Value.bool false)) (M.stuck)) (fun vs_17 =>
    M.pure (nth vs_17 0)))
noncomputable def k78 : Value → Value → M Value := b78 
noncomputable def f78 : List Value → M Value := ar2 k78
theorem b78_eq (a0 a1 : Value) : b78  a0 a1 = execFn TTab (T78 ) Go.Proofs.Tryd.f78 h78 [a0, a1] := by kernel_rfl
theorem k78_eq (a0 a1 : Value) : k78 a0 a1 = execFn TTab GT78 Go.Proofs.Tryd.f78 h78 [a0, a1] := b78_eq  a0 a1
theorem f78_sum : Summ Go.Proofs.Tryd.prog 78 f78 := summ_of_exec tok GT78_sum (draw_sound tok GT78_sum mixed) Go.Proofs.Tryd.func78 (by kernel_rfl) rfl h78 (ar2_eq k78_eq)
/-- mailcoach/mailcoachref03.Set -/
def h65 : Hint := (.seq .nil (.seq .nil (.seq .nil (.seq (.seq .nil (.block (.loop [6, 7] [0] [6] none (.seq (.seq .nil (.cond .nil .nil)) (.seq (.blockJ [6] [] [] none (.seq (.seq .nil (.cond .nil .nil)) (.seq .nil (.seq (.draw [0, 1, 2, 3, 4, 5, 6, 7, 8, 9, 10, 11, 12, 13, 14]) (.condJ [6] [] [] none .nil (.draw [0, 1, 2, 3, 4, 5, 6, 7, 8, 9, 10, 11, 12, 13])))))) .nil))))) (.seq .nil .nil)))))
abbrev T65 (F77 F78 : List Value → M Value) : FT := [(77, F77), (78, F78)]
noncomputable abbrev GT65 : FT := T65 f77 f78
theorem GT65_sum : Summs Go.Proofs.Tryd.prog GT65 := summs_cons f77_sum (summs_cons f78_sum (summs_nil))
def b65_p0 (F77 F78 : List Value → M Value) (vs_6 : List Value) (t14_5 : Value) : M J :=
    M.bind (lenSl (nth vs_6 0)) fun t38_21 =>
    M.bind (bumpC 0) fun b_22 =>
    M.bind (bin (.cell .int) .gtr t38_21 (Go.Value.int Go.IntKind.i64 0)) fun t40_23 =>
    M.bind (guardM true t40_23 (M.pure (nth vs_6 0))) fun t42_24 =>
    M.bind (guardM true t40_23 (M.pure t38_21)) fun t43_25 =>
    M.bind (guardM true t40_23 (bin (.cell .int) .sub t43_25 (Go.Value.int Go.IntKind.i64 1))) fun t44_26 =>
    M.bind (guardM true t40_23 (idxSl 2 t42_24 t44_26)) fun t45_27 =>
    M.bind (guardM true t40_23 (addOff 1 t45_27)) fun t46_28 =>
    M.bind (guardM true t40_23 (ld1 t46_28)) fun t47_29 =>
    M.bind (guardM true t40_23 (M.pure t14_5)) fun t48_30 =>
    M.bind (guardM true t40_23 (M.pure (nth vs_6 1))) fun t49_31 =>
    M.bind (guardM true t40_23 (idxSl 1 t48_30 t49_31)) fun t50_32 =>
    M.bind (guardM true t40_23 (ld1 t50_32)) fun t51_33 =>
    M.bind (guardM true t40_23 (bin (.cell .int) .eql t47_29 t51_33)) fun t52_34 =>
    M.bind (pick t40_23 t52_34 (Go.Value.bool false)) fun t53_35 =>
    M.bind (condM t53_35 (
    M.bind (bin (.cell .int) .sub t38_21 (Go.Value.int Go.IntKind.i64 1)) fun t56_36 =>
    M.bind (bin (.cell .int) .add (nth vs_6 1) (Go.Value.int Go.IntKind.i64 1)) fun t59_37 =>
    M.bind (idxSl 1 t14_5 t59_37) fun t60_38 =>
    M.bind (ld1 t60_38) fun t61_39 =>
    M.bind (idxSl 2 (nth vs_6 0) t56_36) fun t62_40 =>
    M.bind (addOff 1 t62_40) fun t63_41 =>
    M.bind (st1 t63_41 t61_39) fun tu_42 =>
    M.pure (.norm [(nth vs_6 0)])) (
    M.bind (bumpC 2) fun b_43 =>
    M.bind (idxSl 1 t14_5 (nth vs_6 1)) fun t67_44 =>
    M.bind (ld1 t67_44) fun t68_45 =>
    M.bind (bin (.cell .int) .add (nth vs_6 1) (Go.Value.int Go.IntKind.i64 1)) fun t71_46 =>
    M.bind (idxSl 1 t14_5 t71_46) fun t72_47 =>
    M.bind (ld1 t72_47) fun t73_48 =>
    M.bind (mkAgg [.int .u64 0, .int .u64 0] [(0, 1, t68_45), (1, 1, t73_48)]) fun t74_49 =>
    M.bind (mkLitSl b_43 137 [.int .u64 0, .int .u64 0] 1 [(0, 2, t74_49)]) fun t75_50 =>
    M.bind (app (b_43 + 1) 137 2 16 (nth vs_6 0) t75_50) fun t76_51 =>
    M.pure (.norm [t76_51]))) (onJ (fun vs_52 =>
    M.pure (.norm [(nth vs_52 0)])) (fun _ _ => M.stuck) (fun _ => M.stuck))
def b65_p1 (F77 F78 : List Value → M Value) (t14_5 : Value) (vs_6 : List Value) (a0 : Value) (a1 : Value) : M J :=
    M.bind (M.bind (idxSl 1 t14_5 (nth vs_6 1)) fun t25_10 =>
    M.bind (ld1 t25_10) fun t26_11 =>
    M.bind (F78 [a0, t26_11]) fun t27_12 =>
    M.bind (un .not t27_12) fun t28_13 =>
    M.bind (guardM false t28_13 (M.pure a1)) fun t30_14 =>
    M.bind (guardM false t28_13 (M.pure t14_5)) fun t31_15 =>
    M.bind (guardM false t28_13 (M.pure (nth vs_6 1))) fun t32_16 =>
    M.bind (guardM false t28_13 (idxSl 1 t31_15 t32_16)) fun t33_17 =>
    M.bind (guardM false t28_13 (ld1 t33_17)) fun t34_18 =>
    M.bind (guardM false t28_13 (F78 [t30_14, t34_18])) fun t35_19 =>
    M.bind (pick t28_13 (Go.Value.bool true) t35_19) fun t36_20 =>
    condM t36_20 (
    M.pure (.norm [(nth vs_6 0)])) (
    b65_p0 F77 F78 vs_6 t14_5)) (onJ (fun vs_53 =>
    M.bind (bin (.cell .int) .add (nth vs_6 1) (Go.Value.int Go.IntKind.i64 1)) fun t21_54 =>
    M.pure (.norm [(nth vs_53 0), t21_54])) (fun _ _ => M.stuck) (fun _ => M.stuck))
def b65_p2 (F77 F78 : List Value → M Value) (t14_5 : Value) (a0 : Value) (a1 : Value) (vs_6 : List Value) : M J :=
    M.bind (bin (.cell .int) .add (nth vs_6 1) (Go.Value.int Go.IntKind.i64 1)) fun t16_7 =>
    M.bind (lenSl t14_5) fun t18_8 =>
    M.bind (bin (.cell .int) .lss t16_7 t18_8) fun t19_9 =>
    condM t19_9 (
    b65_p1 F77 F78 t14_5 vs_6 a0 a1) (
    M.pure (.exit 0 [(nth vs_6 0)]))
def b65 (F77 F78 : List Value → M Value) : Value → Value → M Value := fun a0 a1 =>

    M.bind (bump 3) fun b_1 =>
    M.bind (mkLitSl b_1 137 [.int .u64 0, .int .u64 0] 0 []) fun t9_2 =>
    M.bind (app (b_1 + 1) 137 2 16 t9_2 a0) fun t11_3 =>
    M.bind (app (b_1 + 2) 137 2 16 t11_3 a1) fun t13_4 =>
    M.bind (F77 [t13_4]) fun t14_5 =>
    M.bind (loopM (b65_p2 F77 F78 t14_5 a0 a1) [(Go.Value.slice none 0 0), (Go.Value.int Go.IntKind.i64 0)]) (onJ (fun _ => M.stuck) (fun id_55 vs_55 =>
    cond (Nat.beq id_55 0) (
    M.pure (nth vs_55 0)) (M.stuck)) (fun _ => M.stuck))
noncomputable def k65 : Value → Value → M Value := b65 f77 f78
noncomputable def f65 : List Value → M Value := ar2 k65
theorem b65_eq (F77 F78 : List Value → M Value) (a0 a1 : Value) : b65 F77 F78 a0 a1 = execFn TTab (T65 F77 F78) Go.Proofs.Tryd.f65 h65 [a0, a1] := by kernel_rfl
theorem k65_eq (a0 a1 : Value) : k65 a0 a1 = execFn TTab GT65 Go.Proofs.Tryd.f65 h65 [a0, a1] := b65_eq f77 f78 a0 a1
theorem f65_sum : Summ Go.Proofs.Tryd.prog 65 f65 := summ_of_exec tok GT65_sum (draw_sound tok GT65_sum mixed) Go.Proofs.Tryd.func65 (by kernel_rfl) rfl h65 (ar2_eq k65_eq)
/-- mailcoach/mailcoachlaw14.Right -/
def h36 : Hint := (.seq .nil (.seq .nil (.seq .nil (.seq (.seq .nil (.block (.loop [6, 21] [0] [] none (.seq .nil (.seq (.cond .nil .nil) (.seq (.blockJ [6] [0] [] none (.seq .nil (.seq (.seq .nil (.cond .nil .nil)) (.seq (.seq .nil (.condJ [] [] [] none .nil .nil)) (.seq (.seq .nil (.cond .nil .nil)) (.seq .nil (.seq (.seq .nil (.block (.loop [9, 59] [2] [9] none (.seq .nil (.seq (.cond .nil .nil) (.seq (.block (.seq .nil (.seq (.seq .nil (.condJ [] [] [] none .nil .nil)) (.seq .nil (.condJ [9] [] [] none .nil .nil))))) .nil)))))) (.seq .nil (.seq (.seq .nil (.condJ [12] [] [] none .nil .nil)) (.seq .nil (.seq .nil (.condJ [6] [] [] none (.seq .nil .nil) .nil)))))))))))) .nil)))))) (.seq .nil .nil)))))
abbrev T36 (F64 F65 : List Value → M Value) : FT := [(64, F64), (65, F65)]
noncomputable abbrev GT36 : FT := T36 f64 f65
theorem GT36_sum : Summs Go.Proofs.Tryd.prog GT36 := summs_cons f64_sum (summs_cons f65_sum (summs_nil))
def b36_p0 (F64 F65 : List Value → M Value) (t57_51 : Value) (vs_53 : List Value) (a1 : Value) : M J :=
    M.bind (bump 1) fun b_55 =>
    M.bind (idxSl 2 t57_51 (nth vs_53 1)) fun t62_56 =>
    M.bind (ldN 2 t62_56) fun t63_57 =>
    M.bind (newCells b_55 [.int .u64 0, .int .u64 0] 137) fun t11_58 =>
    M.bind (stN 2 t11_58 t63_57) fun tu_59 =>
    M.bind (un .not a1) fun t65_60 =>
    M.bind (condM t65_60 (
    M.bind (addOff 0 t11_58) fun t66_61 =>
    M.bind (ld1 t66_61) fun t67_62 =>
    M.bind (bin (.cell .int) .rem t67_62 (Go.Value.int Go.IntKind.u64 8)) fun t68_63 =>
    M.bind (addOff 1 t11_58) fun t69_64 =>
    M.bind (ld1 t69_64) fun t70_65 =>
    M.bind (bin (.cell .int) .rem t70_65 (Go.Value.int Go.IntKind.u64 9)) fun t71_66 =>
    M.bind (mkAgg [.int .u64 0, .int .u64 0] [(0, 1, t68_63), (1, 1, t71_66)]) fun t72_67 =>
    M.bind (stN 2 t11_58 t72_67) fun tu_68 =>
    M.pure (.norm [])) (
    M.pure (.norm []))) (onJ (fun vs_69 =>
    M.bind (bin (.cell .int) .lss (nth vs_53 1) (Go.Value.int Go.IntKind.i64 6)) fun t74_70 =>
    M.bind (condM t74_70 (
    M.bind (bump 2) fun b_71 =>
    M.bind (ldN 2 t11_58) fun t76_72 =>
    M.bind (mkLitSl b_71 137 [.int .u64 0, .int .u64 0] 1 [(0, 2, t76_72)]) fun t77_73 =>
    M.bind (app (b_71 + 1) 137 2 16 (nth vs_53 0) t77_73) fun t78_74 =>
    M.pure (.norm [t78_74])) (
    M.pure (.norm [(nth vs_53 0)]))) (onJ (fun vs_75 =>
    M.bind (bin (.cell .int) .add (nth vs_53 1) (Go.Value.int Go.IntKind.i64 1)) fun t79_76 =>
    M.pure (.norm [(nth vs_75 0), t79_76])) (fun _ _ => M.stuck) (fun _ => M.stuck))) (fun _ _ => M.stuck) (fun _ => M.stuck))
def b36_p1 (F64 F65 : List Value → M Value) (t58_52 : Value) (t57_51 : Value) (a1 : Value) (vs_53 : List Value) : M J :=
    M.bind (bin (.cell .int) .lss (nth vs_53 1) t58_52) fun t60_54 =>
    condM t60_54 (
    b36_p0 F64 F65 t57_51 vs_53 a1) (
    M.pure (.exit 2 [(nth vs_53 0)]))
def b36_p2 (F64 F65 : List Value → M Value) (t5_9 : Value) (t8_19 : Value) (t93_91 : Value) : M J :=
    M.bind (bump 2) fun b_94 =>
    M.bind (addOff 2 t5_9) fun t97_95 =>
    M.bind (ld1 t97_95) fun t98_96 =>
    M.bind (addOff 0 t8_19) fun t99_97 =>
    M.bind (ld1 t99_97) fun t100_98 =>
    M.bind (mkAgg [.int .u64 0, .slice none 0 0] [(0, 1, t100_98), (1, 1, t93_91)]) fun t102_99 =>
    M.bind (mkLitSl b_94 91 [.int .u64 0, .slice none 0 0] 1 [(0, 2, t102_99)]) fun t103_100 =>
    M.bind (app (b_94 + 1) 91 2 32 t98_96 t103_100) fun t104_101 =>
    M.bind (addOff 2 t5_9) fun t105_102 =>
    M.bind (st1 t105_102 t104_101) fun tu_103 =>
    M.bind (addOff 0 t8_19) fun t106_104 =>
    M.bind (ld1 t106_104) fun t107_105 =>
    M.pure (.norm [t107_105])
def b36_p3 (F64 F65 : List Value → M Value) (t5_9 : Value) (t8_19 : Value) (vs_77 : List Value) (vs_14 : List Value) : M J :=
    M.bind (bump 1) fun b_78 =>
    M.bind (addOff 0 t5_9) fun t80_79 =>
    M.bind (addOff 1 t80_79) fun t81_80 =>
    M.bind (ld1 t81_80) fun t82_81 =>
    M.bind (mkAgg [.int .u64 0, .int .u64 0] [(0, 1, (Go.Value.int Go.IntKind.u64 0)), (1, 1, t82_81)]) fun t83_82 =>
    M.bind (mkLitSl b_78 137 [.int .u64 0, .int .u64 0] 1 [(0, 2, t83_82)]) fun t84_83 =>
    M.bind (addOff 0 t8_19) fun t85_84 =>
    M.bind (ld1 t85_84) fun t86_85 =>
    M.bind (addOff 0 t5_9) fun t87_86 =>
    M.bind (addOff 0 t87_86) fun t88_87 =>
    M.bind (ld1 t88_87) fun t89_88 =>
    M.bind (bin (.cell .int) .gtr t86_85 t89_88) fun t90_89 =>
    M.bind (condM t90_89 (
    M.pure (.norm [(Go.Value.slice none 0 0)])) (
    M.pure (.norm [t84_83]))) (onJ (fun vs_90 =>
    M.bind (F65 [(nth vs_77 0), (nth vs_90 0)]) fun t93_91 =>
    M.bind (lenSl t93_91) fun t95_92 =>
    M.bind (bin (.cell .int) .gtr t95_92 (Go.Value.int Go.IntKind.i64 0)) fun t96_93 =>
    M.bind (condM t96_93 (
    b36_p2 F64 F65 t5_9 t8_19 t93_91) (
    M.pure (.norm [(nth vs_14 0)]))) (onJ (fun vs_106 =>
    M.pure (.norm [(nth vs_106 0)])) (fun _ _ => M.stuck) (fun _ => M.stuck))) (fun _ _ => M.stuck) (fun _ => M.stuck))
def b36_p4 (F64 F65 : List Value → M Value) (t8_19 : Value) (t5_9 : Value) (vs_14 : List Value) (a1 : Value) (vs_28 : List Value) : M J :=
    M.bind (addOff 0 t8_19) fun t34_29 =>
    M.bind (ld1 t34_29) fun t35_30 =>
    M.bind (addOff 0 t5_9) fun t36_31 =>
    M.bind (addOff 0 t36_31) fun t37_32 =>
    M.bind (ld1 t37_32) fun t38_33 =>
    M.bind (bin (.cell .int) .lss t35_30 t38_33) fun t39_34 =>
    M.bind (guardM false t39_34 (addOff 0 t8_19)) fun t41_35 =>
    M.bind (guardM false t39_34 (ld1 t41_35)) fun t42_36 =>
    M.bind (guardM false t39_34 (M.pure (nth vs_14 0))) fun t43_37 =>
    M.bind (guardM false t39_34 (bin (.cell .int) .leq t42_36 t43_37)) fun t44_38 =>
    M.bind (guardM false t39_34 (M.pure t44_38)) fun t45_39 =>
    M.bind (guardM true t45_39 (M.pure (nth vs_14 1))) fun t46_40 =>
    M.bind (guardM true t45_39 (bin (.cell .int) .gtr t46_40 (Go.Value.int Go.IntKind.i64 0))) fun t47_41 =>
    M.bind (guardM false t39_34 (pick t45_39 t47_41 (Go.Value.bool false))) fun t48_42 =>
    M.bind (guardM false t39_34 (M.pure t48_42)) fun t49_43 =>
    M.bind (guardM true t49_43 (addOff 2 t5_9)) fun t50_44 =>
    M.bind (guardM true t49_43 (ld1 t50_44)) fun t51_45 =>
    M.bind (guardM true t49_43 (lenSl t51_45)) fun t52_46 =>
    M.bind (guardM true t49_43 (bin (.cell .int) .gtr t52_46 (Go.Value.int Go.IntKind.i64 0))) fun t53_47 =>
    M.bind (guardM false t39_34 (pick t49_43 t53_47 (Go.Value.bool false))) fun t54_48 =>
    M.bind (pick t39_34 (Go.Value.bool true) t54_48) fun t55_49 =>
    condM t55_49 (
    M.pure (.norm [(nth vs_14 0)])) (
    M.bind (addOff 1 t8_19) fun t56_50 =>
    M.bind (ld1 t56_50) fun t57_51 =>
    M.bind (lenSl t57_51) fun t58_52 =>
    M.bind (loopM (b36_p1 F64 F65 t58_52 t57_51 a1) [(Go.Value.slice none 0 0), (Go.Value.int Go.IntKind.i64 0)]) (onJ (fun _ => M.stuck) (fun id_77 vs_77 =>
    cond (Nat.beq id_77 2) (
    b36_p3 F64 F65 t5_9 t8_19 vs_77 vs_14) (M.stuck)) (fun _ => M.stuck)))
def b36_p5 (F64 F65 : List Value → M Value) (t19_12 : Value) (vs_14 : List Value) (a1 : Value) (t5_9 : Value) : M J :=
    M.bind (M.bind (bump 1) fun b_16 =>
    M.bind (idxSl 2 t19_12 (nth vs_14 1)) fun t24_17 =>
    M.bind (ldN 2 t24_17) fun t25_18 =>
    M.bind (newCells b_16 [.int .u64 0, .slice none 0 0] 91) fun t8_19 =>
    M.bind (stN 2 t8_19 t25_18) fun tu_20 =>
    M.bind (bin (.cell .int) .gtr (nth vs_14 1) (Go.Value.int Go.IntKind.i64 6)) fun t27_21 =>
    condM t27_21 (
    M.pure (.exit 0 [])) (
    M.bind (un .not a1) fun t29_22 =>
    M.bind (condM t29_22 (
    M.bind (addOff 0 t8_19) fun t30_23 =>
    M.bind (ld1 t30_23) fun t31_24 =>
    M.bind (bin (.cell .int) .rem t31_24 (Go.Value.int Go.IntKind.u64 16)) fun t32_25 =>
    M.bind (addOff 0 t8_19) fun t33_26 =>
    M.bind (st1 t33_26 t32_25) fun tu_27 =>
    M.pure (.norm [])) (
    M.pure (.norm []))) (onJ (b36_p4 F64 F65 t8_19 t5_9 vs_14 a1) (fun _ _ => M.stuck) (fun _ => M.stuck)))) (onJ (fun vs_107 =>
    M.bind (bin (.cell .int) .add (nth vs_14 1) (Go.Value.int Go.IntKind.i64 1)) fun t108_108 =>
    M.pure (.norm [(nth vs_107 0), t108_108])) (fun id_107 vs_107 =>
    cond (Nat.beq id_107 0) (
    M.pure (.exit 0 [])) (M.stuck)) (fun _ => M.stuck))
def b36_p6 (F64 F65 : List Value → M Value) (t20_13 : Value) (t19_12 : Value) (a1 : Value) (t5_9 : Value) (vs_14 : List Value) : M J :=
    M.bind (bin (.cell .int) .lss (nth vs_14 1) t20_13) fun t22_15 =>
    condM t22_15 (
    b36_p5 F64 F65 t19_12 vs_14 a1 t5_9) (
    M.pure (.exit 0 []))
def b36 (F64 F65 : List Value → M Value) : Value → Value → M Value := fun a0 a1 =>

    M.bind (bump 2) fun b_1 =>
    M.bind (newCells b_1 (Value.cells a0).toList 86) fun t2_2 =>
    M.bind (newCells (b_1 + 1) [.int .u64 0, .int .u64 0, .slice none 0 0] 86) fun t4_3 =>
    M.bind (bump 1) fun b_4 =>
    M.bind (addOff 0 t2_2) fun t13_5 =>
    M.bind (ldN 2 t13_5) fun t14_6 =>
    M.bind (F64 [t14_6, a1]) fun t16_7 =>
    M.bind (mkAgg [.int .u64 0, .int .u64 0, .slice none 0 0] [(0, 2, t16_7)]) fun t17_8 =>
    M.bind (newCells b_4 [.int .u64 0, .int .u64 0, .slice none 0 0] 86) fun t5_9 =>
    M.bind (stN 3 t5_9 t17_8) fun tu_10 =>
    M.bind (addOff 2 t2_2) fun t18_11 =>
    M.bind (ld1 t18_11) fun t19_12 =>
    M.bind (lenSl t19_12) fun t20_13 =>
    M.bind (loopM (b36_p6 F64 F65 t20_13 t19_12 a1 t5_9) [(Go.Value.int Go.IntKind.u64 0), (Go.Value.int Go.IntKind.i64 0)]) (onJ (fun _ => M.stuck) (fun id_109 vs_109 =>
    cond (Nat.beq id_109 0) (
    M.bind (ldN 3 t5_9) fun t109_110 =>
    M.bind (stN 3 t4_3 t109_110) fun tu_111 =>
    M.bind (ldN 3 t4_3) fun tr_112 =>
    M.pure tr_112) (M.stuck)) (fun _ => M.stuck))
noncomputable def k36 : Value → Value → M Value := b36 f64 f65
noncomputable def f36 : List Value → M Value := ar2 k36
theorem b36_eq (F64 F65 : List Value → M Value) (a0 a1 : Value) : b36 F64 F65 a0 a1 = execFn TTab (T36 F64 F65) Go.Proofs.Tryd.f36 h36 [a0, a1] := by kernel_rfl
theorem k36_eq (a0 a1 : Value) : k36 a0 a1 = execFn TTab GT36 Go.Proofs.Tryd.f36 h36 [a0, a1] := b36_eq f64 f65 a0 a1
theorem f36_sum : Summ Go.Proofs.Tryd.prog 36 f36 := summ_of_exec tok GT36_sum (draw_sound tok GT36_sum mixed) Go.Proofs.Tryd.func36 (by kernel_rfl) rfl h36 (ar2_eq k36_eq)
/-- mailcoach/mailcoachlaw21.Made -/
def h14 : Hint := (.seq .nil (.seq .nil (.seq (.seq .nil (.seq .nil (.condJ [] [] [] none (.draw [0, 1, 2, 3, 4, 5, 6, 7, 8, 9, 10, 11]) .nil))) (.seq .nil (.seq (.seq .nil (.block (.loop [8, 38] [0] [8] none (.seq .nil (.seq (.cond .nil .nil) (.seq (.block (.seq .nil (.seq .nil (.condJ [8] [] [] none (.draw [0, 1, 2, 3, 4, 5, 6, 7, 8, 9, 10, 11, 12, 13, 14, 15, 16]) .nil)))) .nil)))))) (.seq .nil (.seq (.seq .nil (.block (.loop [11, 65] [2] [11] none (.seq .nil (.seq (.cond .nil .nil) (.seq (.block (.seq .nil (.seq .nil (.condJ [11] [] [] none (.seq .nil .nil) .nil)))) .nil)))))) (.seq .nil (.seq .nil .nil)))))))))
abbrev T14 (F35 F36 : List Value → M Value) : FT := [(35, F35), (36, F36)]
noncomputable abbrev GT14 : FT := T14 f35 f36
theorem GT14_sum : Summs Go.Proofs.Tryd.prog GT14 := summs_cons f35_sum (summs_cons f36_sum (summs_nil))
def b14_p0 (F35 F36 : List Value → M Value) (t3_2 : Value) (t21_9 : Value) : M J :=
    M.bind (bumpC 0) fun b_11 =>
    M.bind (addOff 1 t3_2) fun t24_12 =>
    M.bind (ld1 t24_12) fun t25_13 =>
    M.bind (addOff 2 t3_2) fun t26_14 =>
    M.bind (ld1 t26_14) fun t27_15 =>
    M.bind (bin (.cell .int) .sub t21_9 (Go.Value.int Go.IntKind.i64 1)) fun t29_16 =>
    M.bind (idxSl 3 t27_15 t29_16) fun t30_17 =>
    M.bind (addOff 0 t30_17) fun t31_18 =>
    M.bind (ld1 t31_18) fun t32_19 =>
    M.bind (most t25_13 t32_19) fun t33_20 =>
    M.bind (addOff 1 t3_2) fun t34_21 =>
    M.bind (st1 t34_21 t33_20) fun tu_22 =>
    M.pure (.norm [])
def b14_p1 (F35 F36 : List Value → M Value) (vs_27 : List Value) (t10_32 : Value) : M J :=
    M.bind (bumpC 5) fun b_35 =>
    M.bind (bin (.cell .int) .add (Go.Value.int Go.IntKind.i64 97) (nth vs_27 1)) fun t47_36 =>
    M.bind (cvInt .u8 t47_36) fun t48_37 =>
    M.bind (mkLitSl (b_35 + 1) 5 [.int .u8 0] 1 [(0, 1, t48_37)]) fun t49_38 =>
    M.bind (cvString t49_38) fun t50_39 =>
    M.bind (addOff 1 t10_32) fun t51_40 =>
    M.bind (ld1 t51_40) fun t52_41 =>
    M.bind (bin (.cell .int) .rem t52_41 (Go.Value.int Go.IntKind.u8 4)) fun t53_42 =>
    M.bind (bin (.cell .int) .add (Go.Value.int Go.IntKind.u8 1) t53_42) fun t54_43 =>
    M.bind (addOff 2 t10_32) fun t55_44 =>
    M.bind (ldN 3 t55_44) fun t56_45 =>
    M.bind (F36 [t56_45, (Go.Value.bool false)]) fun t57_46 =>
    same (ld1 t51_40) t52_41 (
    same (cvString t49_38) t50_39 (
    M.bind (mkAgg [.string ⟨#[]⟩, .int .u8 0, .int .u64 0, .int .u64 0, .slice none 0 0] [(0, 1, t50_39), (1, 1, t54_43), (2, 3, t57_46)]) fun t58_47 =>
    M.bind (mkLitSl (b_35 + 3) 88 [.string ⟨#[]⟩, .int .u8 0, .int .u64 0, .int .u64 0, .slice none 0 0] 1 [(0, 5, t58_47)]) fun t59_48 =>
    M.bind (app (b_35 + 4) 88 5 64 (nth vs_27 0) t59_48) fun t60_49 =>
    M.pure (.norm [t60_49])))
def b14_p2 (F35 F36 : List Value → M Value) (t36_25 : Value) (vs_27 : List Value) : M J :=
    M.bind (bump 1) fun b_29 =>
    M.bind (idxSl 5 t36_25 (nth vs_27 1)) fun t41_30 =>
    M.bind (ldN 5 t41_30) fun t42_31 =>
    M.bind (newCells b_29 [.string ⟨#[]⟩, .int .u8 0, .int .u64 0, .int .u64 0, .slice none 0 0] 88) fun t10_32 =>
    M.bind (stN 5 t10_32 t42_31) fun tu_33 =>
    M.bind (bin (.cell .int) .lss (nth vs_27 1) (Go.Value.int Go.IntKind.i64 2)) fun t44_34 =>
    M.bind (condM t44_34 (
    b14_p1 F35 F36 vs_27 t10_32) (
    M.pure (.norm [(nth vs_27 0)]))) (onJ (fun vs_50 =>
    M.bind (bin (.cell .int) .add (nth vs_27 1) (Go.Value.int Go.IntKind.i64 1)) fun t61_51 =>
    M.pure (.norm [(nth vs_50 0), t61_51])) (fun _ _ => M.stuck) (fun _ => M.stuck))
def b14_p3 (F35 F36 : List Value → M Value) (t37_26 : Value) (t36_25 : Value) (vs_27 : List Value) : M J :=
    M.bind (bin (.cell .int) .lss (nth vs_27 1) t37_26) fun t39_28 =>
    condM t39_28 (
    b14_p2 F35 F36 t36_25 vs_27) (
    M.pure (.exit 0 [(nth vs_27 0)]))
def b14_p4 (F35 F36 : List Value → M Value) (t13_61 : Value) (vs_56 : List Value) : M J :=
    M.bind (addOff 2 t13_61) fun t72_64 =>
    M.bind (ld1 t72_64) fun t73_65 =>
    M.bind (bin (.cell .int) .rem t73_65 (Go.Value.int Go.IntKind.u64 100)) fun t74_66 =>
    M.bind (bin (.cell .int) .add (Go.Value.int Go.IntKind.u64 1) t74_66) fun t75_67 =>
    M.bind (bump 5) fun b_68 =>
    M.bind (bin (.cell .int) .add (Go.Value.int Go.IntKind.i64 97) (nth vs_56 1)) fun t78_69 =>
    M.bind (cvInt .u8 t78_69) fun t79_70 =>
    M.bind (mkLitSl (b_68 + 1) 5 [.int .u8 0] 1 [(0, 1, t79_70)]) fun t80_71 =>
    M.bind (cvString t80_71) fun t81_72 =>
    M.bind (bin (.cell .str) .add (Go.Value.string (ByteArray.mk #[112])) t81_72) fun t82_73 =>
    M.bind (addOff 3 t13_61) fun t85_74 =>
    M.bind (ldN 2 t85_74) fun t86_75 =>
    M.bind (mkAgg [.string ⟨#[]⟩, .int .u64 0, .int .u64 0, .int .u64 0, .int .u64 0] [(0, 1, t82_73), (1, 1, t75_67), (2, 1, t75_67), (3, 2, t86_75)]) fun t87_76 =>
    M.bind (mkLitSl (b_68 + 3) 93 [.string ⟨#[]⟩, .int .u64 0, .int .u64 0, .int .u64 0, .int .u64 0] 1 [(0, 5, t87_76)]) fun t88_77 =>
    M.bind (app (b_68 + 4) 93 5 48 (nth vs_56 0) t88_77) fun t89_78 =>
    M.pure (.norm [t89_78])
def b14_p5 (F35 F36 : List Value → M Value) (t63_54 : Value) (vs_56 : List Value) : M J :=
    M.bind (bump 1) fun b_58 =>
    M.bind (idxSl 5 t63_54 (nth vs_56 1)) fun t68_59 =>
    M.bind (ldN 5 t68_59) fun t69_60 =>
    M.bind (newCells b_58 [.string ⟨#[]⟩, .int .u64 0, .int .u64 0, .int .u64 0, .int .u64 0] 93) fun t13_61 =>
    M.bind (stN 5 t13_61 t69_60) fun tu_62 =>
    M.bind (bin (.cell .int) .lss (nth vs_56 1) (Go.Value.int Go.IntKind.i64 16)) fun t71_63 =>
    M.bind (condM t71_63 (
    b14_p4 F35 F36 t13_61 vs_56) (
    M.pure (.norm [(nth vs_56 0)]))) (onJ (fun vs_79 =>
    M.bind (bin (.cell .int) .add (nth vs_56 1) (Go.Value.int Go.IntKind.i64 1)) fun t90_80 =>
    M.pure (.norm [(nth vs_79 0), t90_80])) (fun _ _ => M.stuck) (fun _ => M.stuck))
def b14_p6 (F35 F36 : List Value → M Value) (t64_55 : Value) (t63_54 : Value) (vs_56 : List Value) : M J :=
    M.bind (bin (.cell .int) .lss (nth vs_56 1) t64_55) fun t66_57 =>
    condM t66_57 (
    b14_p5 F35 F36 t63_54 vs_56) (
    M.pure (.exit 2 [(nth vs_56 0)]))
def b14_p7 (F35 F36 : List Value → M Value) (t3_2 : Value) (vs_52 : List Value) (t6_3 : Value) : M Value :=
    M.bind (addOff 4 t3_2) fun t62_53 =>
    M.bind (ld1 t62_53) fun t63_54 =>
    M.bind (lenSl t63_54) fun t64_55 =>
    M.bind (loopM (b14_p6 F35 F36 t64_55 t63_54) [(Go.Value.slice none 0 0), (Go.Value.int Go.IntKind.i64 0)]) (onJ (fun _ => M.stuck) (fun id_81 vs_81 =>
    cond (Nat.beq id_81 2) (
    M.bind (addOff 3 t3_2) fun t93_82 =>
    M.bind (st1 t93_82 (nth vs_52 0)) fun tu_83 =>
    M.bind (addOff 4 t3_2) fun t94_84 =>
    M.bind (st1 t94_84 (nth vs_81 0)) fun tu_85 =>
    M.bind (ldN 5 t3_2) fun t95_86 =>
    M.bind (stN 5 t6_3 t95_86) fun tu_87 =>
    M.bind (ldN 5 t6_3) fun tr_88 =>
    M.pure tr_88) (M.stuck)) (fun _ => M.stuck))
def b14 (F35 F36 : List Value → M Value) : Value → Value → Value → M Value := fun a0 a1 a2 =>

    M.bind (bump 2) fun b_1 =>
    M.bind (newCells b_1 (Value.cells a0).toList 43) fun t3_2 =>
    M.bind (newCells (b_1 + 1) [.int .u64 0, .int .u64 0, .slice none 0 0, .slice none 0 0, .slice none 0 0] 43) fun t6_3 =>
    M.bind (F35 [a1, a2]) fun t17_4 =>
    M.bind (addOff 2 t3_2) fun t18_5 =>
    M.bind (st1 t18_5 t17_4) fun tu_6 =>
    M.bind (addOff 2 t3_2) fun t19_7 =>
    M.bind (ld1 t19_7) fun t20_8 =>
    M.bind (lenSl t20_8) fun t21_9 =>
    M.bind (bin (.cell .int) .gtr t21_9 (Go.Value.int Go.IntKind.i64 0)) fun t23_10 =>
    M.bind (condM t23_10 (
    b14_p0 F35 F36 t3_2 t21_9) (
    M.pure (.norm []))) (onJ (fun vs_23 =>
    M.bind (addOff 3 t3_2) fun t35_24 =>
    M.bind (ld1 t35_24) fun t36_25 =>
    M.bind (lenSl t36_25) fun t37_26 =>
    M.bind (loopM (b14_p3 F35 F36 t37_26 t36_25) [(Go.Value.slice none 0 0), (Go.Value.int Go.IntKind.i64 0)]) (onJ (fun _ => M.stuck) (fun id_52 vs_52 =>
    cond (Nat.beq id_52 0) (
    b14_p7 F35 F36 t3_2 vs_52 t6_3) (M.stuck)) (fun _ => M.stuck))) (fun _ _ => M.stuck) (fun _ => M.stuck))
noncomputable def k14 : Value → Value → Value → M Value := b14 f35 f36
noncomputable def f14 : List Value → M Value := ar3 k14
theorem b14_eq (F35 F36 : List Value → M Value) (a0 a1 a2 : Value) : b14 F35 F36 a0 a1 a2 = execFn TTab (T14 F35 F36) Go.Proofs.Tryd.f14 h14 [a0, a1, a2] := by kernel_rfl
theorem k14_eq (a0 a1 a2 : Value) : k14 a0 a1 a2 = execFn TTab GT14 Go.Proofs.Tryd.f14 h14 [a0, a1, a2] := b14_eq f35 f36 a0 a1 a2
theorem f14_sum : Summ Go.Proofs.Tryd.prog 14 f14 := summ_of_exec tok GT14_sum (draw_sound tok GT14_sum mixed) Go.Proofs.Tryd.func14 (by kernel_rfl) rfl h14 (ar3_eq k14_eq)
/-- mailcoach/codec.Decode -/
def h16 : Hint := (.seq .nil (.seq .nil (.seq .nil (.seq (.seq .nil (.cond (.seq .nil .nil) .nil)) (.seq .nil .nil)))))
abbrev T16 (F26 F44 : List Value → M Value) : FT := [(26, F26), (44, F44)]
noncomputable abbrev GT16 : FT := T16 f26 f44
theorem GT16_sum : Summs Go.Proofs.Tryd.prog GT16 := summs_cons f26_sum (summs_cons f44_sum (summs_nil))
def b16 (F26 F44 : List Value → M Value) : Value → M Value := fun a0 =>

    M.bind (bump 1) fun b_1 =>
    M.bind (newCells b_1 [.int .u64 0, .int .u64 0, .slice none 0 0, .slice none 0 0, .slice none 0 0] 43) fun t2_2 =>
    M.bind (bump 1) fun b_3 =>
    M.bind (newCells b_3 [.int .u64 0, .int .u64 0, .slice none 0 0, .slice none 0 0, .slice none 0 0] 43) fun t4_4 =>
    M.bind (M.pure (.func (Go.Fn.func 44) #[] #[t4_4])) fun t7_5 =>
    M.bind (F26 [a0, t7_5]) fun t8_6 =>
    M.bind (bin (.cell .int) .neq t8_6 (Go.Value.int Go.IntKind.i64 0)) fun t10_7 =>
    condM t10_7 (
    M.bind (mkAgg [.int .u64 0, .int .u64 0, .slice none 0 0, .slice none 0 0, .slice none 0 0] []) fun t11_8 =>
    M.bind (stN 5 t2_2 t11_8) fun tu_9 =>
    M.bind (ldN 5 t2_2) fun tr_10 =>
    M.pure (.tuple #[tr_10, t8_6])) (
    M.bind (ldN 5 t4_4) fun t13_11 =>
    M.bind (stN 5 t2_2 t13_11) fun tu_12 =>
    M.bind (ldN 5 t2_2) fun tr_13 =>
    M.pure (.tuple #[tr_13, (Go.Value.int Go.IntKind.i64 0)]))
noncomputable def k16 : Value → M Value := b16 f26 f44
noncomputable def f16 : List Value → M Value := ar1 k16
theorem b16_eq (F26 F44 : List Value → M Value) (a0 : Value) : b16 F26 F44 a0 = execFn TTab (T16 F26 F44) Go.Proofs.Tryd.f16 h16 [a0] := by kernel_rfl
theorem k16_eq (a0 : Value) : k16 a0 = execFn TTab GT16 Go.Proofs.Tryd.f16 h16 [a0] := b16_eq f26 f44 a0
theorem f16_sum : Summ Go.Proofs.Tryd.prog 16 f16 := summ_of_exec tok GT16_sum (draw_sound tok GT16_sum mixed) Go.Proofs.Tryd.func16 (by kernel_rfl) rfl h16 (ar1_eq k16_eq)
end Go.Vm.Tryd
end
