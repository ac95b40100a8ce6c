/- Parts of the proof. -/
import Derived.Test.YtglbdcndgfnhkaaDoorKT
import Derived.Test.YtglbdcndgfnhkaaDoorKX
section
set_option linter.unusedVariables false
set_option maxRecDepth 100000
set_option maxHeartbeats 1000000
namespace Go.Vm.Tryd
open Go Go.Vm
/-- (*mailcoach/pack.Writer).number -/
def h58 : Hint := (.seq .nil (.seq (.seq .nil (.block (.loop [8] [0] [] none (.seq .nil (.seq (.cond .nil .nil) (.seq (.block (.seq .nil .nil)) .nil)))))) (.seq .nil (.condJ [] [] [] none (.draw [0, 1, 2, 3, 4, 5, 6, 7, 8, 9, 10, 11]) .nil))))
abbrev T58 : FT := []
noncomputable abbrev GT58 : FT := T58 
theorem GT58_sum : Summs Go.Proofs.Tryd.prog GT58 := summs_nil
def b58 : Value → Value → Value → M Value := fun a0 a1 a2 =>

    M.bind (bump 1) fun b_1 =>
    M.bind (newCells b_1 [.int .u8 0, .int .u8 0, .int .u8 0, .int .u8 0, .int .u8 0, .int .u8 0, .int .u8 0, .int .u8 0] 155) fun t6_2 =>
    M.bind (loopM (fun vs_3 =>
    M.bind (bin (.cell .int) .lss (nth vs_3 0) (Go.Value.int Go.IntKind.i64 8)) fun t9_4 =>
    condM t9_4 (
    M.bind (bump 1) fun b_5 =>
    M.bind (bin (.cell .int) .sub (Go.Value.int Go.IntKind.i64 7) (nth vs_3 0)) fun t12_6 =>
    M.bind (bin (.cell .int) .mul (Go.Value.int Go.IntKind.i64 8) (nth vs_3 0)) fun t15_7 =>
    M.bind (bin (.cell .int) .shr a1 t15_7) fun t16_8 =>
    M.bind (cvInt .u8 t16_8) fun t17_9 =>
    M.bind (idxArr 1 8 t6_2 t12_6) fun t18_10 =>
    M.bind (st1 t18_10 t17_9) fun tu_11 =>
    M.bind (bin (.cell .int) .add (nth vs_3 0) (Go.Value.int Go.IntKind.i64 1)) fun t19_12 =>
    M.pure (.norm [t19_12])) (
    M.pure (.exit 0 []))) [(Go.Value.int Go.IntKind.i64 0)]) (onJ (fun _ => M.stuck) (fun id_13 vs_13 =>
    cond (Nat.beq id_13 0) (
    M.bind (bin .ptr .neq a0 (Go.Value.pointer none)) fun t21_14 =>
    M.bind (condM t21_14 (
    M.bind (bumpC 1) fun b_15 =>
    M.bind (nilChk a0) fun t24_16 =>
    M.bind (addOff 0 t24_16) fun t25_17 =>
    M.bind (ld1 t25_17) fun t26_18 =>
    M.bind (bin (.cell .int) .sub (Go.Value.int Go.IntKind.i64 8) a2) fun t28_19 =>
    M.bind (slArr 1 8 t6_2 (some t28_19) none none) fun t29_20 =>
    M.bind (app b_15 5 1 1 t26_18 t29_20) fun t30_21 =>
    M.bind (nilChk a0) fun t31_22 =>
    M.bind (addOff 0 t31_22) fun t32_23 =>
    M.bind (st1 t32_23 t30_21) fun tu_24 =>
    M.pure (.norm [])) (
    M.pure (.norm []))) (onJ (fun vs_25 =>
    M.pure (.tuple #[])) (fun _ _ => M.stuck) (fun _ => M.stuck))) (M.stuck)) (fun _ => M.stuck))
noncomputable def k58 : Value → Value → Value → M Value := b58 
noncomputable def f58 : List Value → M Value := ar3 k58
theorem b58_eq (a0 a1 a2 : Value) : b58  a0 a1 a2 = execFn TTab (T58 ) Go.Proofs.Tryd.f58 h58 [a0, a1, a2] := by kernel_rfl
theorem k58_eq (a0 a1 a2 : Value) : k58 a0 a1 a2 = execFn TTab GT58 Go.Proofs.Tryd.f58 h58 [a0, a1, a2] := b58_eq  a0 a1 a2
theorem f58_sum : Summ Go.Proofs.Tryd.prog 58 f58 := summ_of_exec tok GT58_sum (draw_sound tok GT58_sum mixed) Go.Proofs.Tryd.func58 (by kernel_rfl) rfl h58 (ar3_eq k58_eq)
/-- (*mailcoach/pack.Writer).Bytes -/
def h22 : Hint := (.seq .nil (.seq .nil (.condJ [] [] [] none .nil .nil)))
abbrev T22 (F58 : List Value → M Value) : FT := [(58, F58)]
noncomputable abbrev GT22 : FT := T22 f58
theorem GT22_sum : Summs Go.Proofs.Tryd.prog GT22 := summs_cons f58_sum (summs_nil)
def b22 (F58 : List Value → M Value) : Value → Value → M Value := fun a0 a1 =>

    M.bind (bump 1) fun b_1 =>
    M.bind (lenSl a1) fun t6_2 =>
    M.bind (cvInt .u64 t6_2) fun t7_3 =>
    M.bind (F58 [a0, t7_3, (Go.Value.int Go.IntKind.i64 4)]) fun t8_4 =>
    M.bind (bin .ptr .neq a0 (Go.Value.pointer none)) fun t10_5 =>
    M.bind (condM t10_5 (
    M.bind (bump 1) fun b_6 =>
    M.bind (nilChk a0) fun t13_7 =>
    M.bind (addOff 0 t13_7) fun t14_8 =>
    M.bind (ld1 t14_8) fun t15_9 =>
    M.bind (app b_6 5 1 1 t15_9 a1) fun t17_10 =>
    M.bind (nilChk a0) fun t18_11 =>
    M.bind (addOff 0 t18_11) fun t19_12 =>
    M.bind (st1 t19_12 t17_10) fun tu_13 =>
    M.pure (.norm [])) (
    M.pure (.norm []))) (onJ (fun vs_14 =>
    M.pure (.tuple #[])) (fun _ _ => M.stuck) (fun _ => M.stuck))
noncomputable def k22 : Value → Value → M Value := b22 f58
noncomputable def f22 : List Value → M Value := ar2 k22
theorem b22_eq (F58 : List Value → M Value) (a0 a1 : Value) : b22 F58 a0 a1 = execFn TTab (T22 F58) Go.Proofs.Tryd.f22 h22 [a0, a1] := by kernel_rfl
theorem k22_eq (a0 a1 : Value) : k22 a0 a1 = execFn TTab GT22 Go.Proofs.Tryd.f22 h22 [a0, a1] := b22_eq f58 a0 a1
theorem f22_sum : Summ Go.Proofs.Tryd.prog 22 f22 := summ_of_exec tok GT22_sum (draw_sound tok GT22_sum mixed) Go.Proofs.Tryd.func22 (by kernel_rfl) rfl h22 (ar2_eq k22_eq)
/-- (*mailcoach/pack.Writer).Text -/
def h20 : Hint := .nil
abbrev T20 (F22 : List Value → M Value) : FT := [(22, F22)]
noncomputable abbrev GT20 : FT := T20 f22
theorem GT20_sum : Summs Go.Proofs.Tryd.prog GT20 := summs_cons f22_sum (summs_nil)
def b20 (F22 : List Value → M Value) : Value → Value → M Value := fun a0 a1 =>

    M.bind (bump 1) fun b_1 =>
    M.bind (cvBytes b_1 5 a1) fun t6_2 =>
    M.bind (F22 [a0, t6_2]) fun t7_3 =>
    M.pure (.tuple #[])
noncomputable def k20 : Value → Value → M Value := b20 f22
noncomputable def f20 : List Value → M Value := ar2 k20
theorem b20_eq (F22 : List Value → M Value) (a0 a1 : Value) : b20 F22 a0 a1 = execFn TTab (T20 F22) Go.Proofs.Tryd.f20 h20 [a0, a1] := by kernel_rfl
theorem k20_eq (a0 a1 : Value) : k20 a0 a1 = execFn TTab GT20 Go.Proofs.Tryd.f20 h20 [a0, a1] := b20_eq f22 a0 a1
theorem f20_sum : Summ Go.Proofs.Tryd.prog 20 f20 := summ_of_exec tok GT20_sum (draw_sound tok GT20_sum mixed) Go.Proofs.Tryd.func20 (by kernel_rfl) rfl h20 (ar2_eq k20_eq)
/-- (*mailcoach/pack.Writer).U64 -/
def h21 : Hint := .nil
abbrev T21 (F58 : List Value → M Value) : FT := [(58, F58)]
noncomputable abbrev GT21 : FT := T21 f58
theorem GT21_sum : Summs Go.Proofs.Tryd.prog GT21 := summs_cons f58_sum (summs_nil)
def b21 (F58 : List Value → M Value) : Value → Value → M Value := fun a0 a1 =>

    M.bind (F58 [a0, a1, (Go.Value.int Go.IntKind.i64 8)]) fun t6_1 =>
    M.pure (.tuple #[])
noncomputable def k21 : Value → Value → M Value := b21 f58
noncomputable def f21 : List Value → M Value := ar2 k21
theorem b21_eq (F58 : List Value → M Value) (a0 a1 : Value) : b21 F58 a0 a1 = execFn TTab (T21 F58) Go.Proofs.Tryd.f21 h21 [a0, a1] := by kernel_rfl
theorem k21_eq (a0 a1 : Value) : k21 a0 a1 = execFn TTab GT21 Go.Proofs.Tryd.f21 h21 [a0, a1] := b21_eq f58 a0 a1
theorem f21_sum : Summ Go.Proofs.Tryd.prog 21 f21 := summ_of_exec tok GT21_sum (draw_sound tok GT21_sum mixed) Go.Proofs.Tryd.func21 (by kernel_rfl) rfl h21 (ar2_eq k21_eq)
/-- slices.Clone[[]byte,byte] -/
def h59 : Hint := (.seq .nil (.seq (.seq .nil (.cond (.seq .nil .nil) .nil)) (.seq .nil .nil)))
abbrev T59 : FT := []
noncomputable abbrev GT59 : FT := T59 
theorem GT59_sum : Summs Go.Proofs.Tryd.prog GT59 := summs_nil
def b59 : Value → M Value := fun a0 =>

    M.bind (bin .slice .eql a0 (Go.Value.slice none 0 0)) fun t4_1 =>
    condM t4_1 (
    M.pure (Go.Value.slice none 0 0)) (
    M.bind (bump 2) fun b_2 =>
    M.bind (mkLitSl b_2 5 [.int .u8 0] 0 []) fun t5_3 =>
    M.bind (app (b_2 + 1) 5 1 1 t5_3 a0) fun t7_4 =>
    M.pure t7_4)
noncomputable def k59 : Value → M Value := b59 
noncomputable def f59 : List Value → M Value := ar1 k59
theorem b59_eq (a0 : Value) : b59  a0 = execFn TTab (T59 ) Go.Proofs.Tryd.f59 h59 [a0] := by kernel_rfl
theorem k59_eq (a0 : Value) : k59 a0 = execFn TTab GT59 Go.Proofs.Tryd.f59 h59 [a0] := b59_eq  a0
theorem f59_sum : Summ Go.Proofs.Tryd.prog 59 f59 := summ_of_exec tok GT59_sum (draw_sound tok GT59_sum mixed) Go.Proofs.Tryd.func59 (by kernel_rfl) rfl h59 (ar1_eq k59_eq)
/-- (*mailcoach/pack.Writer).Done -/
def h23 : Hint := (.seq .nil (.seq (.seq .nil (.cond (.seq .nil .nil) .nil)) (.seq .nil .nil)))
abbrev T23 (F59 : List Value → M Value) : FT := [(59, F59)]
noncomputable abbrev GT23 : FT := T23 f59
theorem GT23_sum : Summs Go.Proofs.Tryd.prog GT23 := summs_cons f59_sum (summs_nil)
def b23 (F59 : List Value → M Value) : Value → M Value := fun a0 =>

    M.bind (bin .ptr .eql a0 (Go.Value.pointer none)) fun t4_1 =>
    condM t4_1 (
    M.pure (Go.Value.slice none 0 0)) (
    M.bind (nilChk a0) fun t6_2 =>
    M.bind (addOff 0 t6_2) fun t7_3 =>
    M.bind (ld1 t7_3) fun t8_4 =>
    M.bind (F59 [t8_4]) fun t9_5 =>
    M.pure t9_5)
noncomputable def k23 : Value → M Value := b23 f59
noncomputable def f23 : List Value → M Value := ar1 k23
theorem b23_eq (F59 : List Value → M Value) (a0 : Value) : b23 F59 a0 = execFn TTab (T23 F59) Go.Proofs.Tryd.f23 h23 [a0] := by kernel_rfl
theorem k23_eq (a0 : Value) : k23 a0 = execFn TTab GT23 Go.Proofs.Tryd.f23 h23 [a0] := b23_eq f59 a0
theorem f23_sum : Summ Go.Proofs.Tryd.prog 23 f23 := summ_of_exec tok GT23_sum (draw_sound tok GT23_sum mixed) Go.Proofs.Tryd.func23 (by kernel_rfl) rfl h23 (ar1_eq k23_eq)
/-- mailcoach/dedup.New -/
def h66 : Hint := (.seq .nil (.seq .nil .nil))
abbrev T66 : FT := []
noncomputable abbrev GT66 : FT := T66 
theorem GT66_sum : Summs Go.Proofs.Tryd.prog GT66 := summs_nil
def b66 : M Value := 
    M.bind (bump 2) fun b_1 =>
    M.bind (newMap b_1) fun t1_2 =>
    M.bind (mkAgg [.map none] [(0, 1, t1_2)]) fun t2_3 =>
    M.bind (newCells (b_1 + 1) (Value.cells t2_3).toList 147) fun t3_4 =>
    M.pure t3_4
noncomputable def k66 : M Value := b66 
noncomputable def f66 : List Value → M Value := ar0 k66
theorem b66_eq : b66   = execFn TTab (T66 ) Go.Proofs.Tryd.f66 h66 [] := by kernel_rfl
theorem k66_eq : k66  = execFn TTab GT66 Go.Proofs.Tryd.f66 h66 [] := b66_eq  
theorem f66_sum : Summ Go.Proofs.Tryd.prog 66 f66 := summ_of_exec tok GT66_sum (draw_sound tok GT66_sum mixed) Go.Proofs.Tryd.func66 (by kernel_rfl) rfl h66 (ar0_eq (fun _ => k66_eq))
/-- (*mailcoach/dedup.Table).Begin -/
def h67 : Hint := (.seq .nil (.seq (.seq .nil (.cond (.seq .nil .nil) .nil)) (.seq .nil (.seq (.block (.seq .nil (.cond (.seq .nil .nil) (.seq .nil (.cond (.seq .nil .nil) (.seq .nil (.cond (.seq .nil .nil) (.seq .nil (.cond (.seq .nil .nil) (.seq .nil (.cond (.seq .nil .nil) .nil))))))))))) (.seq .nil (.seq (.draw [0, 1, 2, 3, 4, 5, 6]) (.seq .nil .nil)))))))
abbrev T67 : FT := []
noncomputable abbrev GT67 : FT := T67 
theorem GT67_sum : Summs Go.Proofs.Tryd.prog GT67 := summs_nil
def b67_p0 (t7_9 : Value) (a1 : Value) (a2 : Value) (a0 : Value) : M Value :=
    M.bind (addOff 0 t7_9) fun t60_35 =>
    M.bind (st1 t60_35 a1) fun tu_36 =>
    M.bind (addOff 1 t7_9) fun t61_37 =>
    M.bind (st1 t61_37 a2) fun tu_38 =>
    M.bind (bumpC 0) fun b_39 =>
    M.bind (nilChk a0) fun t63_40 =>
    M.bind (addOff 0 t63_40) fun t64_41 =>
    M.bind (ld1 t64_41) fun t65_42 =>
    M.bind (ldN 5 t7_9) fun t67_43 =>
    M.bind (upd (.cell .str) t65_42 a1 t67_43) fun tu_44 =>
    M.pure (Go.Value.int Go.IntKind.i64 0)
def b67_p1 (t19_8 : Value) (a0 : Value) (t7_9 : Value) (a1 : Value) (a2 : Value) : M Value :=
    M.bind (un .not t19_8) fun t49_27 =>
    M.bind (guardM true t49_27 (M.pure a0)) fun t51_28 =>
    M.bind (guardM true t49_27 (nilChk t51_28)) fun t52_29 =>
    M.bind (guardM true t49_27 (addOff 0 t52_29)) fun t53_30 =>
    M.bind (guardM true t49_27 (ld1 t53_30)) fun t54_31 =>
    M.bind (guardM true t49_27 (lenMap t54_31)) fun t55_32 =>
    M.bind (guardM true t49_27 (bin (.cell .int) .geq t55_32 (Go.Value.int Go.IntKind.i64 16))) fun t56_33 =>
    M.bind (pick t49_27 t56_33 (Go.Value.bool false)) fun t57_34 =>
    condM t57_34 (
    M.pure (Go.Value.int Go.IntKind.i64 14)) (
    b67_p0 t7_9 a1 a2 a0)
def b67_p2 (t19_8 : Value) (a2 : Value) (t7_9 : Value) (a0 : Value) (a1 : Value) : M Value :=
    M.bind (guardM true t19_8 (M.pure a2)) fun t34_17 =>
    M.bind (guardM true t19_8 (addOff 2 t7_9)) fun t35_18 =>
    M.bind (guardM true t19_8 (ld1 t35_18)) fun t36_19 =>
    M.bind (guardM true t19_8 (bin (.cell .int) .leq t34_17 t36_19)) fun t37_20 =>
    M.bind (pick t19_8 t37_20 (Go.Value.bool false)) fun t38_21 =>
    condM t38_21 (
    M.pure (Go.Value.int Go.IntKind.i64 40)) (
    M.bind (guardM true t19_8 (M.pure a2)) fun t42_22 =>
    M.bind (guardM true t19_8 (addOff 1 t7_9)) fun t43_23 =>
    M.bind (guardM true t19_8 (ld1 t43_23)) fun t44_24 =>
    M.bind (guardM true t19_8 (bin (.cell .int) .leq t42_22 t44_24)) fun t45_25 =>
    M.bind (pick t19_8 t45_25 (Go.Value.bool false)) fun t46_26 =>
    condM t46_26 (
    M.pure (Go.Value.int Go.IntKind.i64 41)) (
    b67_p1 t19_8 a0 t7_9 a1 a2))
def b67_p3 (a0 : Value) (a1 : Value) (a2 : Value) : M Value :=
    M.bind (bump 1) fun b_2 =>
    M.bind (nilChk a0) fun t13_3 =>
    M.bind (addOff 0 t13_3) fun t14_4 =>
    M.bind (ld1 t14_4) fun t15_5 =>
    M.bind (look (.cell .str) (.agg #[.string ⟨#[]⟩, .int .u64 0, .int .u64 0, .int .u64 0, .int .u64 0]) true t15_5 a1) fun t17_6 =>
    M.bind (extr 0 t17_6) fun t18_7 =>
    M.bind (extr 1 t17_6) fun t19_8 =>
    M.bind (newCells b_2 [.string ⟨#[]⟩, .int .u64 0, .int .u64 0, .int .u64 0, .int .u64 0] 93) fun t7_9 =>
    M.bind (stN 5 t7_9 t18_7) fun tu_10 =>
    M.bind (bin (.cell .str) .eql a1 (Go.Value.string (ByteArray.mk #[]))) fun t22_11 =>
    M.bind (guardM false t22_11 (M.pure a1)) fun t24_12 =>
    M.bind (guardM false t22_11 (lenStr t24_12)) fun t25_13 =>
    M.bind (guardM false t22_11 (bin (.cell .int) .gtr t25_13 (Go.Value.int Go.IntKind.i64 64))) fun t26_14 =>
    M.bind (pick t22_11 (Go.Value.bool true) t26_14) fun t27_15 =>
    condM t27_15 (
    M.pure (Go.Value.int Go.IntKind.i64 10)) (
    M.bind (bin (.cell .int) .eql a2 (Go.Value.int Go.IntKind.u64 0)) fun t30_16 =>
    condM t30_16 (
    M.pure (Go.Value.int Go.IntKind.i64 2)) (
    b67_p2 t19_8 a2 t7_9 a0 a1))
def b67 : Value → Value → Value → M Value := fun a0 a1 a2 =>

    M.bind (bin .ptr .eql a0 (Go.Value.pointer none)) fun t10_1 =>
    condM t10_1 (
    M.pure (Go.Value.int Go.IntKind.i64 1)) (
    b67_p3 a0 a1 a2)
noncomputable def k67 : Value → Value → Value → M Value := b67 
noncomputable def f67 : List Value → M Value := ar3 k67
theorem b67_eq (a0 a1 a2 : Value) : b67  a0 a1 a2 = execFn TTab (T67 ) Go.Proofs.Tryd.f67 h67 [a0, a1, a2] := by kernel_rfl
theorem k67_eq (a0 a1 a2 : Value) : k67 a0 a1 a2 = execFn TTab GT67 Go.Proofs.Tryd.f67 h67 [a0, a1, a2] := b67_eq  a0 a1 a2
theorem f67_sum : Summ Go.Proofs.Tryd.prog 67 f67 := summ_of_exec tok GT67_sum (draw_sound tok GT67_sum mixed) Go.Proofs.Tryd.func67 (by kernel_rfl) rfl h67 (ar3_eq k67_eq)
/-- (*mailcoach/dedup.Table).Done -/
def h68 : Hint := (.seq .nil (.seq (.seq .nil (.cond (.seq .nil .nil) .nil)) (.seq .nil (.seq (.block (.seq .nil (.cond (.seq .nil .nil) (.seq .nil (.cond (.seq .nil .nil) .nil))))) (.seq (.draw [0, 1, 2, 3, 4, 5]) (.seq (.draw [0, 1, 2, 3, 4, 5, 6]) (.seq .nil .nil)))))))
abbrev T68 : FT := []
noncomputable abbrev GT68 : FT := T68 
theorem GT68_sum : Summs Go.Proofs.Tryd.prog GT68 := summs_nil
def b68_p0 (t7_2 : Value) (t9_11 : Value) (a2 : Value) (a0 : Value) (a1 : Value) : M Value :=
    M.bind (bumpC 0) fun b_22 =>
    M.bind (ldN 2 t7_2) fun t37_23 =>
    M.bind (addOff 2 t9_11) fun t38_24 =>
    M.bind (st1 t38_24 a2) fun tu_25 =>
    same (ldN 2 t7_2) t37_23 (
    M.bind (addOff 3 t9_11) fun t39_26 =>
    M.bind (stN 2 t39_26 t37_23) fun tu_27 =>
    M.bind (bumpC 0) fun b_28 =>
    M.bind (nilChk a0) fun t41_29 =>
    M.bind (addOff 0 t41_29) fun t42_30 =>
    M.bind (ld1 t42_30) fun t43_31 =>
    M.bind (ldN 5 t9_11) fun t45_32 =>
    M.bind (upd (.cell .str) t43_31 a1 t45_32) fun tu_33 =>
    M.pure (Go.Value.int Go.IntKind.i64 0))
def b68_p1 (a0 : Value) (a1 : Value) (a2 : Value) (t7_2 : Value) : M Value :=
    M.bind (bump 1) fun b_4 =>
    M.bind (nilChk a0) fun t15_5 =>
    M.bind (addOff 0 t15_5) fun t16_6 =>
    M.bind (ld1 t16_6) fun t17_7 =>
    M.bind (look (.cell .str) (.agg #[.string ⟨#[]⟩, .int .u64 0, .int .u64 0, .int .u64 0, .int .u64 0]) true t17_7 a1) fun t19_8 =>
    M.bind (extr 0 t19_8) fun t20_9 =>
    M.bind (extr 1 t19_8) fun t21_10 =>
    M.bind (newCells b_4 [.string ⟨#[]⟩, .int .u64 0, .int .u64 0, .int .u64 0, .int .u64 0] 93) fun t9_11 =>
    M.bind (stN 5 t9_11 t20_9) fun tu_12 =>
    M.bind (un .not t21_10) fun t24_13 =>
    M.bind (guardM false t24_13 (M.pure a2)) fun t26_14 =>
    M.bind (guardM false t24_13 (addOff 1 t9_11)) fun t27_15 =>
    M.bind (guardM false t24_13 (ld1 t27_15)) fun t28_16 =>
    M.bind (guardM false t24_13 (bin (.cell .int) .gtr t26_14 t28_16)) fun t29_17 =>
    M.bind (pick t24_13 (Go.Value.bool true) t29_17) fun t30_18 =>
    condM t30_18 (
    M.pure (Go.Value.int Go.IntKind.i64 11)) (
    M.bind (addOff 2 t9_11) fun t33_19 =>
    M.bind (ld1 t33_19) fun t34_20 =>
    M.bind (bin (.cell .int) .leq a2 t34_20) fun t35_21 =>
    condM t35_21 (
    M.pure (Go.Value.int Go.IntKind.i64 40)) (
    b68_p0 t7_2 t9_11 a2 a0 a1))
def b68 : Value → Value → Value → Value → M Value := fun a0 a1 a2 a3 =>

    M.bind (bump 1) fun b_1 =>
    M.bind (newCells b_1 (Value.cells a3).toList 53) fun t7_2 =>
    M.bind (bin .ptr .eql a0 (Go.Value.pointer none)) fun t12_3 =>
    condM t12_3 (
    M.pure (Go.Value.int Go.IntKind.i64 1)) (
    b68_p1 a0 a1 a2 t7_2)
noncomputable def k68 : Value → Value → Value → Value → M Value := b68 
noncomputable def f68 : List Value → M Value := ar4 k68
theorem b68_eq (a0 a1 a2 a3 : Value) : b68  a0 a1 a2 a3 = execFn TTab (T68 ) Go.Proofs.Tryd.f68 h68 [a0, a1, a2, a3] := by kernel_rfl
theorem k68_eq (a0 a1 a2 a3 : Value) : k68 a0 a1 a2 a3 = execFn TTab GT68 Go.Proofs.Tryd.f68 h68 [a0, a1, a2, a3] := b68_eq  a0 a1 a2 a3
theorem f68_sum : Summ Go.Proofs.Tryd.prog 68 f68 := summ_of_exec tok GT68_sum (draw_sound tok GT68_sum mixed) Go.Proofs.Tryd.func68 (by kernel_rfl) rfl h68 (ar4_eq k68_eq)
/-- mailcoach/codec.table -/
def h37 : Hint := (.seq .nil (.seq .nil (.seq (.seq .nil (.block (.loop [10] [0] [] (some [2, 3]) (.seq .nil (.seq (.cond .nil .nil) (.seq (.block (.seq .nil (.seq (.draw [0, 1, 2, 3, 4, 5, 6, 7, 8, 9, 10, 11, 12, 13, 14, 15, 16, 17, 18, 19, 20, 21, 22, 23, 24, 25, 26, 27, 28, 29, 30, 31, 32, 33, 34, 35, 36, 37, 38, 39]) (.cond (.seq .nil .nil) .nil)))) .nil)))))) (.seq .nil .nil))))
abbrev T37 (F66 F67 F68 : List Value → M Value) : FT := [(66, F66), (67, F67), (68, F68)]
noncomputable abbrev GT37 : FT := T37 f66 f67 f68
theorem GT37_sum : Summs Go.Proofs.Tryd.prog GT37 := summs_cons f66_sum (summs_cons f67_sum (summs_cons f68_sum (summs_nil)))
def b37_p0 (F66 F67 F68 : List Value → M Value) (a0 : Value) (vs_3 : List Value) (t7_1 : Value) : M J :=
    M.bind (bump 1) fun b_5 =>
    M.bind (idxSl 5 a0 (nth vs_3 0)) fun t13_6 =>
    M.bind (ldN 5 t13_6) fun t14_7 =>
    M.bind (newCells b_5 [.string ⟨#[]⟩, .int .u64 0, .int .u64 0, .int .u64 0, .int .u64 0] 93) fun t6_8 =>
    M.bind (stN 5 t6_8 t14_7) fun tu_9 =>
    M.bind (bumpC 0) fun b_10 =>
    M.bind (bin (.cell .int) .gtr (nth vs_3 0) (Go.Value.int Go.IntKind.i64 0)) fun t16_11 =>
    M.bind (guardM true t16_11 (M.pure a0)) fun t18_12 =>
    M.bind (guardM true t16_11 (M.pure (nth vs_3 0))) fun t19_13 =>
    M.bind (guardM true t16_11 (bin (.cell .int) .sub t19_13 (Go.Value.int Go.IntKind.i64 1))) fun t20_14 =>
    M.bind (guardM true t16_11 (idxSl 5 t18_12 t20_14)) fun t21_15 =>
    M.bind (guardM true t16_11 (addOff 0 t21_15)) fun t22_16 =>
    M.bind (guardM true t16_11 (ld1 t22_16)) fun t23_17 =>
    M.bind (guardM true t16_11 (addOff 0 t6_8)) fun t24_18 =>
    M.bind (guardM true t16_11 (ld1 t24_18)) fun t25_19 =>
    M.bind (guardM true t16_11 (bin (.cell .str) .geq t23_17 t25_19)) fun t26_20 =>
    M.bind (pick t16_11 t26_20 (Go.Value.bool false)) fun t27_21 =>
    M.bind (guardM false t27_21 (addOff 1 t6_8)) fun t29_22 =>
    M.bind (guardM false t27_21 (ld1 t29_22)) fun t30_23 =>
    M.bind (guardM false t27_21 (addOff 2 t6_8)) fun t31_24 =>
    M.bind (guardM false t27_21 (ld1 t31_24)) fun t32_25 =>
    M.bind (guardM false t27_21 (bin (.cell .int) .neq t30_23 t32_25)) fun t33_26 =>
    M.bind (pick t27_21 (Go.Value.bool true) t33_26) fun t34_27 =>
    M.bind (guardM false t34_27 (M.pure t7_1)) fun t36_28 =>
    M.bind (guardM false t34_27 (addOff 0 t6_8)) fun t37_29 =>
    M.bind (guardM false t34_27 (ld1 t37_29)) fun t38_30 =>
    M.bind (guardM false t34_27 (addOff 1 t6_8)) fun t39_31 =>
    M.bind (guardM false t34_27 (ld1 t39_31)) fun t40_32 =>
    M.bind (guardM false t34_27 (F67 [t36_28, t38_30, t40_32])) fun t41_33 =>
    M.bind (guardM false t34_27 (bin (.cell .int) .neq t41_33 (Go.Value.int Go.IntKind.i64 0))) fun t42_34 =>
    M.bind (pick t34_27 (Go.Value.bool true) t42_34) fun t43_35 =>
    M.bind (guardM false t43_35 (M.pure t7_1)) fun t45_36 =>
    M.bind (guardM false t43_35 (addOff 0 t6_8)) fun t46_37 =>
    M.bind (guardM false t43_35 (ld1 t46_37)) fun t47_38 =>
    M.bind (guardM false t43_35 (addOff 2 t6_8)) fun t48_39 =>
    M.bind (guardM false t43_35 (ld1 t48_39)) fun t49_40 =>
    M.bind (guardM false t43_35 (addOff 3 t6_8)) fun t50_41 =>
    M.bind (guardM false t43_35 (ldN 2 t50_41)) fun t51_42 =>
    M.bind (guardM false t43_35 (F68 [t45_36, t47_38, t49_40, t51_42])) fun t52_43 =>
    M.bind (guardM false t43_35 (bin (.cell .int) .neq t52_43 (Go.Value.int Go.IntKind.i64 0))) fun t53_44 =>
    M.bind (pick t43_35 (Go.Value.bool true) t53_44) fun t54_45 =>
    condM t54_45 (
    M.pure (.ret [(Go.Value.pointer none), (Go.Value.bool false)])) (
    M.bind (bin (.cell .int) .add (nth vs_3 0) (Go.Value.int Go.IntKind.i64 1)) fun t55_46 =>
    M.pure (.norm [t55_46]))
def b37_p1 (F66 F67 F68 : List Value → M Value) (t9_2 : Value) (a0 : Value) (t7_1 : Value) (vs_3 : List Value) : M J :=
    M.bind (bin (.cell .int) .lss (nth vs_3 0) t9_2) fun t11_4 =>
    condM t11_4 (
    b37_p0 F66 F67 F68 a0 vs_3 t7_1) (
    M.pure (.exit 0 []))
def b37 (F66 F67 F68 : List Value → M Value) : Value → M Value := fun a0 =>

    M.bind (F66 []) fun t7_1 =>
    M.bind (lenSl a0) fun t9_2 =>
    M.bind (loopM (b37_p1 F66 F67 F68 t9_2 a0 t7_1) [(Go.Value.int Go.IntKind.i64 0)]) (onJ (fun _ => M.stuck) (fun id_47 vs_47 =>
    cond (Nat.beq id_47 0) (
    M.pure (.tuple #[t7_1, (Go.Value.bool true)])) (M.stuck)) (fun vs_47 =>
    M.pure (.tuple #[(nth vs_47 0), (nth vs_47 1)])))
noncomputable def k37 : Value → M Value := b37 f66 f67 f68
noncomputable def f37 : List Value → M Value := ar1 k37
theorem b37_eq (F66 F67 F68 : List Value → M Value) (a0 : Value) : b37 F66 F67 F68 a0 = execFn TTab (T37 F66 F67 F68) Go.Proofs.Tryd.f37 h37 [a0] := by kernel_rfl
theorem k37_eq (a0 : Value) : k37 a0 = execFn TTab GT37 Go.Proofs.Tryd.f37 h37 [a0] := b37_eq f66 f67 f68 a0
theorem f37_sum : Summ Go.Proofs.Tryd.prog 37 f37 := summ_of_exec tok GT37_sum (draw_sound tok GT37_sum mixed) Go.Proofs.Tryd.func37 (by kernel_rfl) rfl h37 (ar1_eq k37_eq)
/-- mailcoach/ledgers.Check -/
def h69 : Hint := (.seq .nil (.seq (.seq .nil (.cond (.seq .nil .nil) .nil)) (.seq (.seq .nil (.block (.loop [10] [0] [] (some [2]) (.seq .nil (.seq (.cond .nil .nil) (.seq (.block (.seq .nil (.seq (.draw [0, 1, 2, 3, 4, 5, 6, 7, 8, 9, 10, 11, 12, 13, 14, 15, 16, 17, 18, 19, 20, 21, 22, 23, 24, 25, 26, 27, 28, 29, 30, 31, 32, 33, 34, 35, 36, 37, 38, 39]) (.cond (.seq .nil .nil) .nil)))) .nil)))))) (.seq .nil .nil))))
abbrev T69 : FT := []
noncomputable abbrev GT69 : FT := T69 
theorem GT69_sum : Summs Go.Proofs.Tryd.prog GT69 := summs_nil
def b69_p0 (a0 : Value) (vs_4 : List Value) : M J :=
    M.bind (bump 1) fun b_6 =>
    M.bind (idxSl 3 a0 (nth vs_4 0)) fun t13_7 =>
    M.bind (ldN 3 t13_7) fun t14_8 =>
    M.bind (newCells b_6 [.int .u64 0, .bool false, .int .u64 0] 96) fun t4_9 =>
    M.bind (stN 3 t4_9 t14_8) fun tu_10 =>
    M.bind (bumpC 0) fun b_11 =>
    M.bind (addOff 0 t4_9) fun t15_12 =>
    M.bind (ld1 t15_12) fun t16_13 =>
    M.bind (bin (.cell .int) .eql t16_13 (Go.Value.int Go.IntKind.u64 0)) fun t17_14 =>
    M.bind (guardM false t17_14 (addOff 2 t4_9)) fun t19_15 =>
    M.bind (guardM false t17_14 (ld1 t19_15)) fun t20_16 =>
    M.bind (guardM false t17_14 (bin (.cell .int) .gtr t20_16 (Go.Value.int Go.IntKind.u64 1048576))) fun t21_17 =>
    M.bind (pick t17_14 (Go.Value.bool true) t21_17) fun t22_18 =>
    M.bind (guardM false t22_18 (M.pure (nth vs_4 0))) fun t24_19 =>
    M.bind (guardM false t22_18 (bin (.cell .int) .gtr t24_19 (Go.Value.int Go.IntKind.i64 0))) fun t25_20 =>
    M.bind (guardM false t22_18 (M.pure t25_20)) fun t26_21 =>
    M.bind (guardM true t26_21 (M.pure a0)) fun t27_22 =>
    M.bind (guardM true t26_21 (M.pure (nth vs_4 0))) fun t28_23 =>
    M.bind (guardM true t26_21 (bin (.cell .int) .sub t28_23 (Go.Value.int Go.IntKind.i64 1))) fun t29_24 =>
    M.bind (guardM true t26_21 (idxSl 3 t27_22 t29_24)) fun t30_25 =>
    M.bind (guardM true t26_21 (addOff 0 t30_25)) fun t31_26 =>
    M.bind (guardM true t26_21 (ld1 t31_26)) fun t32_27 =>
    M.bind (guardM true t26_21 (addOff 0 t4_9)) fun t33_28 =>
    M.bind (guardM true t26_21 (ld1 t33_28)) fun t34_29 =>
    M.bind (guardM true t26_21 (bin (.cell .int) .geq t32_27 t34_29)) fun t35_30 =>
    M.bind (guardM false t22_18 (pick t26_21 t35_30 (Go.Value.bool false))) fun t36_31 =>
    M.bind (pick t22_18 (Go.Value.bool true) t36_31) fun t37_32 =>
    M.bind (guardM false t37_32 (addOff 1 t4_9)) fun t39_33 =>
    M.bind (guardM false t37_32 (ld1 t39_33)) fun t40_34 =>
    M.bind (guardM false t37_32 (un .not t40_34)) fun t41_35 =>
    M.bind (guardM false t37_32 (M.pure t41_35)) fun t42_36 =>
    M.bind (guardM true t42_36 (addOff 2 t4_9)) fun t43_37 =>
    M.bind (guardM true t42_36 (ld1 t43_37)) fun t44_38 =>
    M.bind (guardM true t42_36 (bin (.cell .int) .gtr t44_38 (Go.Value.int Go.IntKind.u64 0))) fun t45_39 =>
    M.bind (guardM true t42_36 (M.pure t45_39)) fun t46_40 =>
    M.bind (guardM false t46_40 (M.pure (nth vs_4 0))) fun t47_41 =>
    M.bind (guardM false t46_40 (M.pure a0)) fun t48_42 =>
    M.bind (guardM false t46_40 (lenSl t48_42)) fun t49_43 =>
    M.bind (guardM false t46_40 (bin (.cell .int) .sub t49_43 (Go.Value.int Go.IntKind.i64 1))) fun t50_44 =>
    M.bind (guardM false t46_40 (bin (.cell .int) .lss t47_41 t50_44)) fun t51_45 =>
    M.bind (guardM true t42_36 (pick t46_40 (Go.Value.bool true) t51_45)) fun t52_46 =>
    M.bind (guardM false t37_32 (pick t42_36 t52_46 (Go.Value.bool false))) fun t53_47 =>
    M.bind (pick t37_32 (Go.Value.bool true) t53_47) fun t54_48 =>
    condM t54_48 (
    M.pure (.ret [(Go.Value.bool false)])) (
    M.bind (bin (.cell .int) .add (nth vs_4 0) (Go.Value.int Go.IntKind.i64 1)) fun t55_49 =>
    M.pure (.norm [t55_49]))
def b69_p1 (t9_3 : Value) (a0 : Value) (vs_4 : List Value) : M J :=
    M.bind (bin (.cell .int) .lss (nth vs_4 0) t9_3) fun t11_5 =>
    condM t11_5 (
    b69_p0 a0 vs_4) (
    M.pure (.exit 0 []))
def b69 : Value → M Value := fun a0 =>

    M.bind (lenSl a0) fun t6_1 =>
    M.bind (bin (.cell .int) .gtr t6_1 (Go.Value.int Go.IntKind.i64 64)) fun t7_2 =>
    condM t7_2 (
    M.pure (Go.Value.bool false)) (
    M.bind (lenSl a0) fun t9_3 =>
    M.bind (loopM (b69_p1 t9_3 a0) [(Go.Value.int Go.IntKind.i64 0)]) (onJ (fun _ => M.stuck) (fun id_50 vs_50 =>
    cond (Nat.beq id_50 0) (
    M.pure (Go.Value.bool true)) (M.stuck)) (fun vs_50 =>
    M.pure (nth vs_50 0))))
noncomputable def k69 : Value → M Value := b69 
noncomputable def f69 : List Value → M Value := ar1 k69
theorem b69_eq (a0 : Value) : b69  a0 = execFn TTab (T69 ) Go.Proofs.Tryd.f69 h69 [a0] := by kernel_rfl
theorem k69_eq (a0 : Value) : k69 a0 = execFn TTab GT69 Go.Proofs.Tryd.f69 h69 [a0] := b69_eq  a0
theorem f69_sum : Summ Go.Proofs.Tryd.prog 69 f69 := summ_of_exec tok GT69_sum (draw_sound tok GT69_sum mixed) Go.Proofs.Tryd.func69 (by kernel_rfl) rfl h69 (ar1_eq k69_eq)
/-- mailcoach/ranges.Check -/
def h79 : Hint := (.seq .nil (.seq (.seq .nil (.block (.loop [7] [0] [] (some [2]) (.seq .nil (.seq (.cond .nil .nil) (.seq (.block (.seq .nil (.seq (.draw [0, 1, 2, 3, 4, 5, 6, 7, 8, 9, 10, 11, 12, 13, 14, 15, 16, 17, 18, 19]) (.cond (.seq .nil .nil) .nil)))) .nil)))))) (.seq .nil .nil)))
abbrev T79 : FT := []
noncomputable abbrev GT79 : FT := T79 
theorem GT79_sum : Summs Go.Proofs.Tryd.prog GT79 := summs_nil
def b79_p0 (a0 : Value) (vs_2 : List Value) : M J :=
    M.bind (bump 1) fun b_4 =>
    M.bind (idxSl 2 a0 (nth vs_2 0)) fun t10_5 =>
    M.bind (ldN 2 t10_5) fun t11_6 =>
    M.bind (newCells b_4 [.int .u64 0, .int .u64 0] 137) fun t4_7 =>
    M.bind (stN 2 t4_7 t11_6) fun tu_8 =>
    M.bind (bumpC 0) fun b_9 =>
    M.bind (addOff 0 t4_7) fun t12_10 =>
    M.bind (ld1 t12_10) fun t13_11 =>
    M.bind (addOff 1 t4_7) fun t14_12 =>
    M.bind (ld1 t14_12) fun t15_13 =>
    M.bind (bin (.cell .int) .geq t13_11 t15_13) fun t16_14 =>
    M.bind (guardM false t16_14 (M.pure (nth vs_2 0))) fun t18_15 =>
    M.bind (guardM false t16_14 (bin (.cell .int) .gtr t18_15 (Go.Value.int Go.IntKind.i64 0))) fun t19_16 =>
    M.bind (guardM false t16_14 (M.pure t19_16)) fun t20_17 =>
    M.bind (guardM true t20_17 (M.pure a0)) fun t21_18 =>
    M.bind (guardM true t20_17 (M.pure (nth vs_2 0))) fun t22_19 =>
    M.bind (guardM true t20_17 (bin (.cell .int) .sub t22_19 (Go.Value.int Go.IntKind.i64 1))) fun t23_20 =>
    M.bind (guardM true t20_17 (idxSl 2 t21_18 t23_20)) fun t24_21 =>
    M.bind (guardM true t20_17 (addOff 1 t24_21)) fun t25_22 =>
    M.bind (guardM true t20_17 (ld1 t25_22)) fun t26_23 =>
    M.bind (guardM true t20_17 (addOff 0 t4_7)) fun t27_24 =>
    M.bind (guardM true t20_17 (ld1 t27_24)) fun t28_25 =>
    M.bind (guardM true t20_17 (bin (.cell .int) .geq t26_23 t28_25)) fun t29_26 =>
    M.bind (guardM false t16_14 (pick t20_17 t29_26 (Go.Value.bool false))) fun t30_27 =>
    M.bind (pick t16_14 (Go.Value.bool true) t30_27) fun t31_28 =>
    condM t31_28 (
    M.pure (.ret [(Go.Value.bool false)])) (
    M.bind (bin (.cell .int) .add (nth vs_2 0) (Go.Value.int Go.IntKind.i64 1)) fun t32_29 =>
    M.pure (.norm [t32_29]))
def b79_p1 (t6_1 : Value) (a0 : Value) (vs_2 : List Value) : M J :=
    M.bind (bin (.cell .int) .lss (nth vs_2 0) t6_1) fun t8_3 =>
    condM t8_3 (
    b79_p0 a0 vs_2) (
    M.pure (.exit 0 []))
def b79 : Value → M Value := fun a0 =>

    M.bind (lenSl a0) fun t6_1 =>
    M.bind (loopM (b79_p1 t6_1 a0) [(Go.Value.int Go.IntKind.i64 0)]) (onJ (fun _ => M.stuck) (fun id_30 vs_30 =>
    cond (Nat.beq id_30 0) (
    M.pure (Go.Value.bool true)) (M.stuck)) (fun vs_30 =>
    M.pure (nth vs_30 0)))
noncomputable def k79 : Value → M Value := b79 
noncomputable def f79 : List Value → M Value := ar1 k79
theorem b79_eq (a0 : Value) : b79  a0 = execFn TTab (T79 ) Go.Proofs.Tryd.f79 h79 [a0] := by kernel_rfl
theorem k79_eq (a0 : Value) : k79 a0 = execFn TTab GT79 Go.Proofs.Tryd.f79 h79 [a0] := b79_eq  a0
theorem f79_sum : Summ Go.Proofs.Tryd.prog 79 f79 := summ_of_exec tok GT79_sum (draw_sound tok GT79_sum mixed) Go.Proofs.Tryd.func79 (by kernel_rfl) rfl h79 (ar1_eq k79_eq)
/-- cmp.Or[int] -/
def h86 : Hint := (.seq .nil (.seq .nil (.seq (.seq .nil (.block (.loop [8] [0] [] (some [2]) (.seq .nil (.seq (.cond .nil .nil) (.seq (.block (.seq .nil (.seq .nil (.cond (.seq .nil .nil) .nil)))) .nil)))))) (.seq .nil .nil))))
abbrev T86 : FT := []
noncomputable abbrev GT86 : FT := T86 
theorem GT86_sum : Summs Go.Proofs.Tryd.prog GT86 := summs_nil
def b86_p0 (t7_1 : Value) (a0 : Value) (vs_2 : List Value) : M J :=
    M.bind (bin (.cell .int) .lss (nth vs_2 0) t7_1) fun t9_3 =>
    condM t9_3 (
    M.bind (idxSl 1 a0 (nth vs_2 0)) fun t10_4 =>
    M.bind (ld1 t10_4) fun t11_5 =>
    M.bind (bin (.cell .int) .neq t11_5 (Go.Value.int Go.IntKind.i64 0)) fun t14_6 =>
    condM t14_6 (
    M.pure (.ret [t11_5])) (
    M.bind (bin (.cell .int) .add (nth vs_2 0) (Go.Value.int Go.IntKind.i64 1)) fun t16_7 =>
    M.pure (.norm [t16_7]))) (
    M.pure (.exit 0 []))
def b86 : Value → M Value := fun a0 =>

    M.bind (lenSl a0) fun t7_1 =>
    M.bind (loopM (b86_p0 t7_1 a0) [(Go.Value.int Go.IntKind.i64 0)]) (onJ (fun _ => M.stuck) (fun id_8 vs_8 =>
    cond (Nat.beq id_8 0) (
    M.pure (Go.Value.int Go.IntKind.i64 0)) (M.stuck)) (fun vs_8 =>
    M.pure (nth vs_8 0)))
noncomputable def k86 : Value → M Value := b86 
noncomputable def f86 : List Value → M Value := ar1 k86
theorem b86_eq (a0 : Value) : b86  a0 = execFn TTab (T86 ) Go.Proofs.Tryd.f86 h86 [a0] := by kernel_rfl
theorem k86_eq (a0 : Value) : k86 a0 = execFn TTab GT86 Go.Proofs.Tryd.f86 h86 [a0] := b86_eq  a0
theorem f86_sum : Summ Go.Proofs.Tryd.prog 86 f86 := summ_of_exec tok GT86_sum (draw_sound tok GT86_sum mixed) Go.Proofs.Tryd.func86 (by kernel_rfl) rfl h86 (ar1_eq k86_eq)
/-- cmp.isNaN[uint64] -/
def h91 : Hint := (.seq .nil (.seq .nil .nil))
abbrev T91 : FT := []
noncomputable abbrev GT91 : FT := T91 
theorem GT91_sum : Summs Go.Proofs.Tryd.prog GT91 := summs_nil
def b91 : Value → M Value := fun a0 =>

    M.bind (bin (.cell .int) .neq a0 a0) fun t5_1 =>
    M.pure t5_1
noncomputable def k91 : Value → M Value := b91 
noncomputable def f91 : List Value → M Value := ar1 k91
theorem b91_eq (a0 : Value) : b91  a0 = execFn TTab (T91 ) Go.Proofs.Tryd.f91 h91 [a0] := by kernel_rfl
theorem k91_eq (a0 : Value) : k91 a0 = execFn TTab GT91 Go.Proofs.Tryd.f91 h91 [a0] := b91_eq  a0
theorem f91_sum : Summ Go.Proofs.Tryd.prog 91 f91 := summ_of_exec tok GT91_sum (draw_sound tok GT91_sum mixed) Go.Proofs.Tryd.func91 (by kernel_rfl) rfl h91 (ar1_eq k91_eq)
/-- cmp.Compare[uint64] -/
def h87 : Hint := (.seq .nil (.seq .nil (.seq .nil (.seq (.seq .nil (.cond (.seq (.seq .nil (.cond (.seq .nil .nil) .nil)) (.seq .nil .nil)) .nil)) (.seq (.seq .nil (.cond (.seq .nil .nil) .nil)) (.seq (.seq .nil (.cond (.seq .nil .nil) .nil)) (.seq (.seq .nil (.cond (.seq .nil .nil) .nil)) (.seq .nil .nil))))))))
abbrev T87 (F91 : List Value → M Value) : FT := [(91, F91)]
noncomputable abbrev GT87 : FT := T87 f91
theorem GT87_sum : Summs Go.Proofs.Tryd.prog GT87 := summs_cons f91_sum (summs_nil)
def b87 (F91 : List Value → M Value) : Value → Value → M Value := fun a0 a1 =>

    M.bind (F91 [a0]) fun t8_1 =>
    M.bind (F91 [a1]) fun t10_2 =>
    condM t8_1 (
    condM t10_2 (
    M.pure (Go.Value.int Go.IntKind.i64 0)) (
    M.pure (Go.Value.int Go.IntKind.i64 (-1)))) (
    condM t10_2 (
    M.pure (Go.Value.int Go.IntKind.i64 1)) (
    M.bind (bin (.cell .int) .lss a0 a1) fun t16_3 =>
    condM t16_3 (
    M.pure (Go.Value.int Go.IntKind.i64 (-1))) (
    M.bind (bin (.cell .int) .gtr a0 a1) fun t19_4 =>
    condM t19_4 (
    M.pure (Go.Value.int Go.IntKind.i64 1)) (
    M.pure (Go.Value.int Go.IntKind.i64 0)))))
noncomputable def k87 : Value → Value → M Value := b87 f91
noncomputable def f87 : List Value → M Value := ar2 k87
theorem b87_eq (F91 : List Value → M Value) (a0 a1 : Value) : b87 F91 a0 a1 = execFn TTab (T87 F91) Go.Proofs.Tryd.f87 h87 [a0, a1] := by kernel_rfl
theorem k87_eq (a0 a1 : Value) : k87 a0 a1 = execFn TTab GT87 Go.Proofs.Tryd.f87 h87 [a0, a1] := b87_eq f91 a0 a1
theorem f87_sum : Summ Go.Proofs.Tryd.prog 87 f87 := summ_of_exec tok GT87_sum (draw_sound tok GT87_sum mixed) Go.Proofs.Tryd.func87 (by kernel_rfl) rfl h87 (ar2_eq k87_eq)
/-- mailcoach/ledgers.Order -/
def h80 : Hint := (.seq .nil (.seq (.draw [0, 1, 2, 3, 5, 6, 7, 8, 4, 9, 10, 11, 12]) .nil))
abbrev T80 (F86 F87 : List Value → M Value) : FT := [(86, F86), (87, F87)]
noncomputable abbrev GT80 : FT := T80 f86 f87
theorem GT80_sum : Summs Go.Proofs.Tryd.prog GT80 := summs_cons f86_sum (summs_cons f87_sum (summs_nil))
def b80 (F86 F87 : List Value → M Value) : Value → Value → M Value := fun a0 a1 =>

    M.bind (bump 2) fun b_1 =>
    M.bind (newCells b_1 (Value.cells a0).toList 53) fun t2_2 =>
    M.bind (newCells (b_1 + 1) (Value.cells a1).toList 53) fun t3_3 =>
    M.bind (bumpC 1) fun b_4 =>
    M.bind (addOff 0 t2_2) fun t5_5 =>
    M.bind (ld1 t5_5) fun t6_6 =>
    M.bind (addOff 0 t3_3) fun t7_7 =>
    M.bind (ld1 t7_7) fun t8_8 =>
    M.bind (addOff 1 t2_2) fun t10_9 =>
    M.bind (ld1 t10_9) fun t11_10 =>
    M.bind (addOff 1 t3_3) fun t12_11 =>
    M.bind (ld1 t12_11) fun t13_12 =>
    M.bind (F87 [t6_6, t8_8]) fun t9_13 =>
    same (ld1 t12_11) t13_12 (
    same (ld1 t10_9) t11_10 (
    M.bind (F87 [t11_10, t13_12]) fun t14_14 =>
    M.bind (mkLitSl b_4 3 [.int .i64 0] 2 [(0, 1, t9_13), (1, 1, t14_14)]) fun t15_15 =>
    M.bind (F86 [t15_15]) fun t16_16 =>
    M.pure t16_16))
noncomputable def k80 : Value → Value → M Value := b80 f86 f87
noncomputable def f80 : List Value → M Value := ar2 k80
theorem b80_eq (F86 F87 : List Value → M Value) (a0 a1 : Value) : b80 F86 F87 a0 a1 = execFn TTab (T80 F86 F87) Go.Proofs.Tryd.f80 h80 [a0, a1] := by kernel_rfl
theorem k80_eq (a0 a1 : Value) : k80 a0 a1 = execFn TTab GT80 Go.Proofs.Tryd.f80 h80 [a0, a1] := b80_eq f86 f87 a0 a1
theorem f80_sum : Summ Go.Proofs.Tryd.prog 80 f80 := summ_of_exec tok GT80_sum (draw_sound tok GT80_sum mixed) Go.Proofs.Tryd.func80 (by kernel_rfl) rfl h80 (ar2_eq k80_eq)
/-- mailcoach/cursor.Check -/
def h70 : Hint := (.seq .nil (.seq (.seq .nil (.block (.loop [8] [0] [] (some [2]) (.seq .nil (.seq (.cond .nil .nil) (.seq (.block (.seq .nil (.seq (.draw [0, 1, 2, 3, 4, 5, 6, 7, 8, 9, 10, 11, 12, 13, 14, 15, 16, 17, 18, 19, 20, 21, 22, 23, 24, 25, 26, 27, 28, 29, 30, 31, 32, 33, 34, 35, 36, 37, 38, 39]) (.cond (.seq .nil .nil) .nil)))) .nil)))))) (.seq .nil .nil)))
abbrev T70 (F79 F80 : List Value → M Value) : FT := [(79, F79), (80, F80)]
noncomputable abbrev GT70 : FT := T70 f79 f80
theorem GT70_sum : Summs Go.Proofs.Tryd.prog GT70 := summs_cons f79_sum (summs_cons f80_sum (summs_nil))
def b70_p0 (F79 F80 : List Value → M Value) (t6_4 : Value) (vs_6 : List Value) (t1_2 : Value) : M J :=
    M.bind (bump 1) fun b_8 =>
    M.bind (idxSl 2 t6_4 (nth vs_6 0)) fun t11_9 =>
    M.bind (ldN 2 t11_9) fun t12_10 =>
    M.bind (newCells b_8 [.int .u64 0, .slice none 0 0] 91) fun t4_11 =>
    M.bind (stN 2 t4_11 t12_10) fun tu_12 =>
    M.bind (bumpC 0) fun b_13 =>
    M.bind (addOff 1 t4_11) fun t13_14 =>
    M.bind (ld1 t13_14) fun t14_15 =>
    M.bind (lenSl t14_15) fun t15_16 =>
    M.bind (bin (.cell .int) .eql t15_16 (Go.Value.int Go.IntKind.i64 0)) fun t16_17 =>
    M.bind (guardM false t16_17 (addOff 1 t4_11)) fun t18_18 =>
    M.bind (guardM false t16_17 (ld1 t18_18)) fun t19_19 =>
    M.bind (guardM false t16_17 (F79 [t19_19])) fun t20_20 =>
    M.bind (guardM false t16_17 (un .not t20_20)) fun t21_21 =>
    M.bind (pick t16_17 (Go.Value.bool true) t21_21) fun t22_22 =>
    M.bind (guardM false t22_22 (M.pure (nth vs_6 0))) fun t24_23 =>
    M.bind (guardM false t22_22 (bin (.cell .int) .gtr t24_23 (Go.Value.int Go.IntKind.i64 0))) fun t25_24 =>
    M.bind (guardM false t22_22 (M.pure t25_24)) fun t26_25 =>
    M.bind (guardM true t26_25 (addOff 2 t1_2)) fun t27_26 =>
    M.bind (guardM true t26_25 (ld1 t27_26)) fun t28_27 =>
    M.bind (guardM true t26_25 (M.pure (nth vs_6 0))) fun t29_28 =>
    M.bind (guardM true t26_25 (bin (.cell .int) .sub t29_28 (Go.Value.int Go.IntKind.i64 1))) fun t30_29 =>
    M.bind (guardM true t26_25 (idxSl 2 t28_27 t30_29)) fun t31_30 =>
    M.bind (guardM true t26_25 (addOff 0 t31_30)) fun t32_31 =>
    M.bind (guardM true t26_25 (ld1 t32_31)) fun t33_32 =>
    M.bind (guardM true t26_25 (addOff 0 t4_11)) fun t34_33 =>
    M.bind (guardM true t26_25 (ld1 t34_33)) fun t35_34 =>
    M.bind (guardM true t26_25 (bin (.cell .int) .geq t33_32 t35_34)) fun t36_35 =>
    M.bind (guardM false t22_22 (pick t26_25 t36_35 (Go.Value.bool false))) fun t37_36 =>
    M.bind (pick t22_22 (Go.Value.bool true) t37_36) fun t38_37 =>
    M.bind (guardM false t38_37 (addOff 0 t4_11)) fun t40_38 =>
    M.bind (guardM false t38_37 (ld1 t40_38)) fun t41_39 =>
    M.bind (guardM false t38_37 (addOff 1 t4_11)) fun t42_40 =>
    M.bind (guardM false t38_37 (ld1 t42_40)) fun t43_41 =>
    M.bind (guardM false t38_37 (idxSl 2 t43_41 (Go.Value.int Go.IntKind.i64 0))) fun t44_42 =>
    M.bind (guardM false t38_37 (addOff 0 t44_42)) fun t45_43 =>
    M.bind (guardM false t38_37 (ld1 t45_43)) fun t46_44 =>
    M.bind (guardM false t38_37 (mkAgg [.int .u64 0, .int .u64 0] [(0, 1, t41_39), (1, 1, t46_44)])) fun t47_45 =>
    M.bind (guardM false t38_37 (addOff 0 t1_2)) fun t48_46 =>
    M.bind (guardM false t38_37 (ldN 2 t48_46)) fun t49_47 =>
    M.bind (guardM false t38_37 (F80 [t47_45, t49_47])) fun t50_48 =>
    M.bind (guardM false t38_37 (bin (.cell .int) .lss t50_48 (Go.Value.int Go.IntKind.i64 0))) fun t51_49 =>
    M.bind (pick t38_37 (Go.Value.bool true) t51_49) fun t52_50 =>
    condM t52_50 (
    M.pure (.ret [(Go.Value.bool false)])) (
    M.bind (bin (.cell .int) .add (nth vs_6 0) (Go.Value.int Go.IntKind.i64 1)) fun t53_51 =>
    M.pure (.norm [t53_51]))
def b70_p1 (F79 F80 : List Value → M Value) (t7_5 : Value) (t6_4 : Value) (t1_2 : Value) (vs_6 : List Value) : M J :=
    M.bind (bin (.cell .int) .lss (nth vs_6 0) t7_5) fun t9_7 =>
    condM t9_7 (
    b70_p0 F79 F80 t6_4 vs_6 t1_2) (
    M.pure (.exit 0 []))
def b70 (F79 F80 : List Value → M Value) : Value → M Value := fun a0 =>

    M.bind (bump 1) fun b_1 =>
    M.bind (newCells b_1 (Value.cells a0).toList 86) fun t1_2 =>
    M.bind (addOff 2 t1_2) fun t5_3 =>
    M.bind (ld1 t5_3) fun t6_4 =>
    M.bind (lenSl t6_4) fun t7_5 =>
    M.bind (loopM (b70_p1 F79 F80 t7_5 t6_4 t1_2) [(Go.Value.int Go.IntKind.i64 0)]) (onJ (fun _ => M.stuck) (fun id_52 vs_52 =>
    cond (Nat.beq id_52 0) (
    M.pure (Go.Value.bool true)) (M.stuck)) (fun vs_52 =>
    M.pure (nth vs_52 0)))
noncomputable def k70 : Value → M Value := b70 f79 f80
noncomputable def f70 : List Value → M Value := ar1 k70
theorem b70_eq (F79 F80 : List Value → M Value) (a0 : Value) : b70 F79 F80 a0 = execFn TTab (T70 F79 F80) Go.Proofs.Tryd.f70 h70 [a0] := by kernel_rfl
theorem k70_eq (a0 : Value) : k70 a0 = execFn TTab GT70 Go.Proofs.Tryd.f70 h70 [a0] := b70_eq f79 f80 a0
theorem f70_sum : Summ Go.Proofs.Tryd.prog 70 f70 := summ_of_exec tok GT70_sum (draw_sound tok GT70_sum mixed) Go.Proofs.Tryd.func70 (by kernel_rfl) rfl h70 (ar1_eq k70_eq)
/-- mailcoach/codec.Check -/
def h38 : Hint := (.seq .nil (.seq (.seq (.draw [0, 1, 2, 3, 4, 5, 6, 7, 8, 9, 10, 11, 12, 13, 14, 15, 16, 17, 18, 19, 20, 21, 22, 23, 24, 25, 26, 27, 28, 29]) (.cond (.seq .nil .nil) .nil)) (.seq (.seq .nil (.block (.loop [38] [0] [] (some [2]) (.seq .nil (.seq (.cond .nil .nil) (.seq (.block (.seq .nil (.seq (.draw [0, 1, 2, 3, 4, 5, 6, 7, 8, 9, 10, 11, 12, 13, 14, 15, 16, 17, 18, 19, 20, 21, 22, 23, 24, 25, 26, 27, 28, 29, 30, 31, 32, 33, 34, 35, 36, 37, 38, 39, 40]) (.cond (.seq .nil .nil) .nil)))) .nil)))))) (.seq .nil .nil))))
abbrev T38 (F69 F70 : List Value → M Value) : FT := [(69, F69), (70, F70)]
noncomputable abbrev GT38 : FT := T38 f69 f70
theorem GT38_sum : Summs Go.Proofs.Tryd.prog GT38 := summs_cons f69_sum (summs_cons f70_sum (summs_nil))
def b38_p0 (F69 F70 : List Value → M Value) (t36_33 : Value) (vs_35 : List Value) (t1_2 : Value) : M J :=
    M.bind (bump 1) fun b_37 =>
    M.bind (idxSl 5 t36_33 (nth vs_35 0)) fun t41_38 =>
    M.bind (ldN 5 t41_38) fun t42_39 =>
    M.bind (newCells b_37 [.string ⟨#[]⟩, .int .u8 0, .int .u64 0, .int .u64 0, .slice none 0 0] 88) fun t4_40 =>
    M.bind (stN 5 t4_40 t42_39) fun tu_41 =>
    M.bind (bumpC 0) fun b_42 =>
    M.bind (addOff 0 t4_40) fun t43_43 =>
    M.bind (ld1 t43_43) fun t44_44 =>
    M.bind (bin (.cell .str) .eql t44_44 (Go.Value.string (ByteArray.mk #[]))) fun t45_45 =>
    M.bind (guardM false t45_45 (addOff 0 t4_40)) fun t47_46 =>
    M.bind (guardM false t45_45 (ld1 t47_46)) fun t48_47 =>
    M.bind (guardM false t45_45 (lenStr t48_47)) fun t49_48 =>
    M.bind (guardM false t45_45 (bin (.cell .int) .gtr t49_48 (Go.Value.int Go.IntKind.i64 64))) fun t50_49 =>
    M.bind (pick t45_45 (Go.Value.bool true) t50_49) fun t51_50 =>
    M.bind (guardM false t51_50 (M.pure (nth vs_35 0))) fun t53_51 =>
    M.bind (guardM false t51_50 (bin (.cell .int) .gtr t53_51 (Go.Value.int Go.IntKind.i64 0))) fun t54_52 =>
    M.bind (guardM false t51_50 (M.pure t54_52)) fun t55_53 =>
    M.bind (guardM true t55_53 (addOff 3 t1_2)) fun t56_54 =>
    M.bind (guardM true t55_53 (ld1 t56_54)) fun t57_55 =>
    M.bind (guardM true t55_53 (M.pure (nth vs_35 0))) fun t58_56 =>
    M.bind (guardM true t55_53 (bin (.cell .int) .sub t58_56 (Go.Value.int Go.IntKind.i64 1))) fun t59_57 =>
    M.bind (guardM true t55_53 (idxSl 5 t57_55 t59_57)) fun t60_58 =>
    M.bind (guardM true t55_53 (addOff 0 t60_58)) fun t61_59 =>
    M.bind (guardM true t55_53 (ld1 t61_59)) fun t62_60 =>
    M.bind (guardM true t55_53 (addOff 0 t4_40)) fun t63_61 =>
    M.bind (guardM true t55_53 (ld1 t63_61)) fun t64_62 =>
    M.bind (guardM true t55_53 (bin (.cell .str) .geq t62_60 t64_62)) fun t65_63 =>
    M.bind (guardM false t51_50 (pick t55_53 t65_63 (Go.Value.bool false))) fun t66_64 =>
    M.bind (pick t51_50 (Go.Value.bool true) t66_64) fun t67_65 =>
    M.bind (guardM false t67_65 (addOff 1 t4_40)) fun t69_66 =>
    M.bind (guardM false t67_65 (ld1 t69_66)) fun t70_67 =>
    M.bind (guardM false t67_65 (bin (.cell .int) .lss t70_67 (Go.Value.int Go.IntKind.u8 1))) fun t71_68 =>
    M.bind (pick t67_65 (Go.Value.bool true) t71_68) fun t72_69 =>
    M.bind (guardM false t72_69 (addOff 1 t4_40)) fun t74_70 =>
    M.bind (guardM false t72_69 (ld1 t74_70)) fun t75_71 =>
    M.bind (guardM false t72_69 (bin (.cell .int) .gtr t75_71 (Go.Value.int Go.IntKind.u8 4))) fun t76_72 =>
    M.bind (pick t72_69 (Go.Value.bool true) t76_72) fun t77_73 =>
    M.bind (guardM false t77_73 (addOff 2 t4_40)) fun t79_74 =>
    M.bind (guardM false t77_73 (ldN 3 t79_74)) fun t80_75 =>
    M.bind (guardM false t77_73 (F70 [t80_75])) fun t81_76 =>
    M.bind (guardM false t77_73 (un .not t81_76)) fun t82_77 =>
    M.bind (pick t77_73 (Go.Value.bool true) t82_77) fun t83_78 =>
    condM t83_78 (
    M.pure (.ret [(Go.Value.bool false)])) (
    M.bind (bin (.cell .int) .add (nth vs_35 0) (Go.Value.int Go.IntKind.i64 1)) fun t84_79 =>
    M.pure (.norm [t84_79]))
def b38_p1 (F69 F70 : List Value → M Value) (t37_34 : Value) (t36_33 : Value) (t1_2 : Value) (vs_35 : List Value) : M J :=
    M.bind (bin (.cell .int) .lss (nth vs_35 0) t37_34) fun t39_36 =>
    condM t39_36 (
    b38_p0 F69 F70 t36_33 vs_35 t1_2) (
    M.pure (.exit 0 []))
def b38 (F69 F70 : List Value → M Value) : Value → M Value := fun a0 =>

    M.bind (bump 1) fun b_1 =>
    M.bind (newCells b_1 (Value.cells a0).toList 43) fun t1_2 =>
    M.bind (bumpC 0) fun b_3 =>
    M.bind (addOff 2 t1_2) fun t5_4 =>
    M.bind (ld1 t5_4) fun t6_5 =>
    M.bind (F69 [t6_5]) fun t7_6 =>
    M.bind (un .not t7_6) fun t8_7 =>
    M.bind (guardM false t8_7 (addOff 2 t1_2)) fun t10_8 =>
    M.bind (guardM false t8_7 (ld1 t10_8)) fun t11_9 =>
    M.bind (guardM false t8_7 (lenSl t11_9)) fun t12_10 =>
    M.bind (guardM false t8_7 (bin (.cell .int) .gtr t12_10 (Go.Value.int Go.IntKind.i64 0))) fun t13_11 =>
    M.bind (guardM false t8_7 (M.pure t13_11)) fun t14_12 =>
    M.bind (guardM true t14_12 (addOff 2 t1_2)) fun t15_13 =>
    M.bind (guardM true t14_12 (ld1 t15_13)) fun t16_14 =>
    M.bind (guardM true t14_12 (addOff 2 t1_2)) fun t17_15 =>
    M.bind (guardM true t14_12 (ld1 t17_15)) fun t18_16 =>
    M.bind (guardM true t14_12 (lenSl t18_16)) fun t19_17 =>
    M.bind (guardM true t14_12 (bin (.cell .int) .sub t19_17 (Go.Value.int Go.IntKind.i64 1))) fun t20_18 =>
    M.bind (guardM true t14_12 (idxSl 3 t16_14 t20_18)) fun t21_19 =>
    M.bind (guardM true t14_12 (addOff 0 t21_19)) fun t22_20 =>
    M.bind (guardM true t14_12 (ld1 t22_20)) fun t23_21 =>
    M.bind (guardM true t14_12 (addOff 1 t1_2)) fun t24_22 =>
    M.bind (guardM true t14_12 (ld1 t24_22)) fun t25_23 =>
    M.bind (guardM true t14_12 (bin (.cell .int) .gtr t23_21 t25_23)) fun t26_24 =>
    M.bind (guardM false t8_7 (pick t14_12 t26_24 (Go.Value.bool false))) fun t27_25 =>
    M.bind (pick t8_7 (Go.Value.bool true) t27_25) fun t28_26 =>
    M.bind (guardM false t28_26 (addOff 3 t1_2)) fun t30_27 =>
    M.bind (guardM false t28_26 (ld1 t30_27)) fun t31_28 =>
    M.bind (guardM false t28_26 (lenSl t31_28)) fun t32_29 =>
    M.bind (guardM false t28_26 (bin (.cell .int) .gtr t32_29 (Go.Value.int Go.IntKind.i64 2))) fun t33_30 =>
    M.bind (pick t28_26 (Go.Value.bool true) t33_30) fun t34_31 =>
    condM t34_31 (
    M.pure (Go.Value.bool false)) (
    M.bind (addOff 3 t1_2) fun t35_32 =>
    M.bind (ld1 t35_32) fun t36_33 =>
    M.bind (lenSl t36_33) fun t37_34 =>
    M.bind (loopM (b38_p1 F69 F70 t37_34 t36_33 t1_2) [(Go.Value.int Go.IntKind.i64 0)]) (onJ (fun _ => M.stuck) (fun id_80 vs_80 =>
    cond (Nat.beq id_80 0) (
    M.pure (Go.Value.bool true)) (M.stuck)) (fun vs_80 =>
    M.pure (nth vs_80 0))))
noncomputable def k38 : Value → M Value := b38 f69 f70
noncomputable def f38 : List Value → M Value := ar1 k38
theorem b38_eq (F69 F70 : List Value → M Value) (a0 : Value) : b38 F69 F70 a0 = execFn TTab (T38 F69 F70) Go.Proofs.Tryd.f38 h38 [a0] := by kernel_rfl
theorem k38_eq (a0 : Value) : k38 a0 = execFn TTab GT38 Go.Proofs.Tryd.f38 h38 [a0] := b38_eq f69 f70 a0
theorem f38_sum : Summ Go.Proofs.Tryd.prog 38 f38 := summ_of_exec tok GT38_sum (draw_sound tok GT38_sum mixed) Go.Proofs.Tryd.func38 (by kernel_rfl) rfl h38 (ar1_eq k38_eq)
/-- mailcoach/codec.puts -/
def h39 : Hint := (.seq .nil (.block (.loop [8] [0] [] none (.seq .nil (.seq (.cond .nil .nil) (.seq (.block (.seq .nil .nil)) .nil))))))
abbrev T39 (F21 : List Value → M Value) : FT := [(21, F21)]
noncomputable abbrev GT39 : FT := T39 f21
theorem GT39_sum : Summs Go.Proofs.Tryd.prog GT39 := summs_cons f21_sum (summs_nil)
def b39_p0 (F21 : List Value → M Value) (t7_1 : Value) (a1 : Value) (a0 : Value) (vs_2 : List Value) : M J :=
    M.bind (bin (.cell .int) .lss (nth vs_2 0) t7_1) fun t9_3 =>
    condM t9_3 (
    M.bind (idxSl 1 a1 (nth vs_2 0)) fun t10_4 =>
    M.bind (ld1 t10_4) fun t11_5 =>
    M.bind (F21 [a0, t11_5]) fun t14_6 =>
    M.bind (bin (.cell .int) .add (nth vs_2 0) (Go.Value.int Go.IntKind.i64 1)) fun t15_7 =>
    M.pure (.norm [t15_7])) (
    M.pure (.exit 0 []))
def b39 (F21 : List Value → M Value) : Value → Value → M Value := fun a0 a1 =>

    M.bind (lenSl a1) fun t7_1 =>
    M.bind (loopM (b39_p0 F21 t7_1 a1 a0) [(Go.Value.int Go.IntKind.i64 0)]) (onJ (fun _ => M.stuck) (fun id_8 vs_8 =>
    cond (Nat.beq id_8 0) (
    M.pure (.tuple #[])) (M.stuck)) (fun _ => M.stuck))
noncomputable def k39 : Value → Value → M Value := b39 f21
noncomputable def f39 : List Value → M Value := ar2 k39
theorem b39_eq (F21 : List Value → M Value) (a0 a1 : Value) : b39 F21 a0 a1 = execFn TTab (T39 F21) Go.Proofs.Tryd.f39 h39 [a0, a1] := by kernel_rfl
theorem k39_eq (a0 a1 : Value) : k39 a0 a1 = execFn TTab GT39 Go.Proofs.Tryd.f39 h39 [a0, a1] := b39_eq f21 a0 a1
theorem f39_sum : Summ Go.Proofs.Tryd.prog 39 f39 := summ_of_exec tok GT39_sum (draw_sound tok GT39_sum mixed) Go.Proofs.Tryd.func39 (by kernel_rfl) rfl h39 (ar2_eq k39_eq)
/-- (*mailcoach/pack.Writer).U8 -/
def h40 : Hint := .nil
abbrev T40 (F58 : List Value → M Value) : FT := [(58, F58)]
noncomputable abbrev GT40 : FT := T40 f58
theorem GT40_sum : Summs Go.Proofs.Tryd.prog GT40 := summs_cons f58_sum (summs_nil)
def b40 (F58 : List Value → M Value) : Value → Value → M Value := fun a0 a1 =>

    M.bind (bump 1) fun b_1 =>
    M.bind (cvInt .u64 a1) fun t6_2 =>
    M.bind (F58 [a0, t6_2, (Go.Value.int Go.IntKind.i64 1)]) fun t7_3 =>
    M.pure (.tuple #[])
noncomputable def k40 : Value → Value → M Value := b40 f58
noncomputable def f40 : List Value → M Value := ar2 k40
theorem b40_eq (F58 : List Value → M Value) (a0 a1 : Value) : b40 F58 a0 a1 = execFn TTab (T40 F58) Go.Proofs.Tryd.f40 h40 [a0, a1] := by kernel_rfl
theorem k40_eq (a0 a1 : Value) : k40 a0 a1 = execFn TTab GT40 Go.Proofs.Tryd.f40 h40 [a0, a1] := b40_eq f58 a0 a1
theorem f40_sum : Summ Go.Proofs.Tryd.prog 40 f40 := summ_of_exec tok GT40_sum (draw_sound tok GT40_sum mixed) Go.Proofs.Tryd.func40 (by kernel_rfl) rfl h40 (ar2_eq k40_eq)
/-- mailcoach/codec.flag -/
def h41 : Hint := (.seq .nil (.seq (.seq .nil (.cond (.seq .nil .nil) .nil)) (.seq .nil .nil)))
abbrev T41 : FT := []
noncomputable abbrev GT41 : FT := T41 
theorem GT41_sum : Summs Go.Proofs.Tryd.prog GT41 := summs_nil
def b41 : Value → M Value := fun a0 =>

    condM a0 (
    M.pure (Go.Value.int Go.IntKind.u8 1)) (
    M.pure (Go.Value.int Go.IntKind.u8 0))
noncomputable def k41 : Value → M Value := b41 
noncomputable def f41 : List Value → M Value := ar1 k41
theorem b41_eq (a0 : Value) : b41  a0 = execFn TTab (T41 ) Go.Proofs.Tryd.f41 h41 [a0] := by kernel_rfl
theorem k41_eq (a0 : Value) : k41 a0 = execFn TTab GT41 Go.Proofs.Tryd.f41 h41 [a0] := b41_eq  a0
theorem f41_sum : Summ Go.Proofs.Tryd.prog 41 f41 := summ_of_exec tok GT41_sum (draw_sound tok GT41_sum mixed) Go.Proofs.Tryd.func41 (by kernel_rfl) rfl h41 (ar1_eq k41_eq)
/-- (*mailcoach/pack.Writer).U16 -/
def h55 : Hint := .nil
abbrev T55 (F58 : List Value → M Value) : FT := [(58, F58)]
noncomputable abbrev GT55 : FT := T55 f58
theorem GT55_sum : Summs Go.Proofs.Tryd.prog GT55 := summs_cons f58_sum (summs_nil)
def b55 (F58 : List Value → M Value) : Value → Value → M Value := fun a0 a1 =>

    M.bind (bump 1) fun b_1 =>
    M.bind (cvInt .u64 a1) fun t6_2 =>
    M.bind (F58 [a0, t6_2, (Go.Value.int Go.IntKind.i64 2)]) fun t7_3 =>
    M.pure (.tuple #[])
noncomputable def k55 : Value → Value → M Value := b55 f58
noncomputable def f55 : List Value → M Value := ar2 k55
theorem b55_eq (F58 : List Value → M Value) (a0 a1 : Value) : b55 F58 a0 a1 = execFn TTab (T55 F58) Go.Proofs.Tryd.f55 h55 [a0, a1] := by kernel_rfl
theorem k55_eq (a0 a1 : Value) : k55 a0 a1 = execFn TTab GT55 Go.Proofs.Tryd.f55 h55 [a0, a1] := b55_eq f58 a0 a1
theorem f55_sum : Summ Go.Proofs.Tryd.prog 55 f55 := summ_of_exec tok GT55_sum (draw_sound tok GT55_sum mixed) Go.Proofs.Tryd.func55 (by kernel_rfl) rfl h55 (ar2_eq k55_eq)
/-- mailcoach/cursor.Write -/
def h42 : Hint := (.seq .nil (.seq .nil (.seq .nil (.seq .nil (.seq .nil (.block (.loop [27] [0] [] none (.seq .nil (.seq (.cond .nil .nil) (.seq (.block (.seq .nil (.seq .nil (.seq .nil (.seq .nil (.block (.loop [44] [2] [] none (.seq .nil (.seq (.cond .nil .nil) (.seq (.block (.seq .nil (.seq .nil .nil))) .nil)))))))))) .nil))))))))))
abbrev T42 (F21 F55 : List Value → M Value) : FT := [(21, F21), (55, F55)]
noncomputable abbrev GT42 : FT := T42 f21 f55
theorem GT42_sum : Summs Go.Proofs.Tryd.prog GT42 := summs_cons f21_sum (summs_cons f55_sum (summs_nil))
def b42_p0 (F21 F55 : List Value → M Value) (t42_37 : Value) (vs_39 : List Value) (a0 : Value) : M J :=
    M.bind (bump 1) fun b_41 =>
    M.bind (idxSl 2 t42_37 (nth vs_39 0)) fun t46_42 =>
    M.bind (ldN 2 t46_42) fun t47_43 =>
    M.bind (newCells b_41 [.int .u64 0, .int .u64 0] 137) fun t7_44 =>
    M.bind (stN 2 t7_44 t47_43) fun tu_45 =>
    M.bind (addOff 0 t7_44) fun t49_46 =>
    M.bind (ld1 t49_46) fun t50_47 =>
    M.bind (F21 [a0, t50_47]) fun t51_48 =>
    M.bind (addOff 1 t7_44) fun t53_49 =>
    M.bind (ld1 t53_49) fun t54_50 =>
    M.bind (F21 [a0, t54_50]) fun t55_51 =>
    M.bind (bin (.cell .int) .add (nth vs_39 0) (Go.Value.int Go.IntKind.i64 1)) fun t56_52 =>
    M.pure (.norm [t56_52])
def b42_p1 (F21 F55 : List Value → M Value) (t43_38 : Value) (t42_37 : Value) (a0 : Value) (vs_39 : List Value) : M J :=
    M.bind (bin (.cell .int) .lss (nth vs_39 0) t43_38) fun t45_40 =>
    condM t45_40 (
    b42_p0 F21 F55 t42_37 vs_39 a0) (
    M.pure (.exit 2 []))
def b42_p2 (F21 F55 : List Value → M Value) (t25_18 : Value) (vs_20 : List Value) (a0 : Value) : M J :=
    M.bind (bump 1) fun b_22 =>
    M.bind (idxSl 2 t25_18 (nth vs_20 0)) fun t29_23 =>
    M.bind (ldN 2 t29_23) fun t30_24 =>
    M.bind (newCells b_22 [.int .u64 0, .slice none 0 0] 91) fun t5_25 =>
    M.bind (stN 2 t5_25 t30_24) fun tu_26 =>
    M.bind (addOff 0 t5_25) fun t32_27 =>
    M.bind (ld1 t32_27) fun t33_28 =>
    M.bind (F21 [a0, t33_28]) fun t34_29 =>
    M.bind (bump 1) fun b_30 =>
    M.bind (addOff 1 t5_25) fun t36_31 =>
    M.bind (ld1 t36_31) fun t37_32 =>
    M.bind (lenSl t37_32) fun t38_33 =>
    M.bind (cvInt .u16 t38_33) fun t39_34 =>
    M.bind (F55 [a0, t39_34]) fun t40_35 =>
    M.bind (addOff 1 t5_25) fun t41_36 =>
    M.bind (ld1 t41_36) fun t42_37 =>
    M.bind (lenSl t42_37) fun t43_38 =>
    M.bind (loopM (b42_p1 F21 F55 t43_38 t42_37 a0) [(Go.Value.int Go.IntKind.i64 0)]) (onJ (fun _ => M.stuck) (fun id_53 vs_53 =>
    cond (Nat.beq id_53 2) (
    M.bind (bin (.cell .int) .add (nth vs_20 0) (Go.Value.int Go.IntKind.i64 1)) fun t57_54 =>
    M.pure (.norm [t57_54])) (M.stuck)) (fun _ => M.stuck))
def b42_p3 (F21 F55 : List Value → M Value) (t26_19 : Value) (t25_18 : Value) (a0 : Value) (vs_20 : List Value) : M J :=
    M.bind (bin (.cell .int) .lss (nth vs_20 0) t26_19) fun t28_21 =>
    condM t28_21 (
    b42_p2 F21 F55 t25_18 vs_20 a0) (
    M.pure (.exit 0 []))
def b42 (F21 F55 : List Value → M Value) : Value → Value → M Value := fun a0 a1 =>

    M.bind (bump 1) fun b_1 =>
    M.bind (newCells b_1 (Value.cells a1).toList 86) fun t3_2 =>
    M.bind (addOff 0 t3_2) fun t9_3 =>
    M.bind (addOff 0 t9_3) fun t10_4 =>
    M.bind (ld1 t10_4) fun t11_5 =>
    M.bind (F21 [a0, t11_5]) fun t12_6 =>
    M.bind (addOff 0 t3_2) fun t14_7 =>
    M.bind (addOff 1 t14_7) fun t15_8 =>
    M.bind (ld1 t15_8) fun t16_9 =>
    M.bind (F21 [a0, t16_9]) fun t17_10 =>
    M.bind (bump 1) fun b_11 =>
    M.bind (addOff 2 t3_2) fun t19_12 =>
    M.bind (ld1 t19_12) fun t20_13 =>
    M.bind (lenSl t20_13) fun t21_14 =>
    M.bind (cvInt .u16 t21_14) fun t22_15 =>
    M.bind (F55 [a0, t22_15]) fun t23_16 =>
    M.bind (addOff 2 t3_2) fun t24_17 =>
    M.bind (ld1 t24_17) fun t25_18 =>
    M.bind (lenSl t25_18) fun t26_19 =>
    M.bind (loopM (b42_p3 F21 F55 t26_19 t25_18 a0) [(Go.Value.int Go.IntKind.i64 0)]) (onJ (fun _ => M.stuck) (fun id_55 vs_55 =>
    cond (Nat.beq id_55 0) (
    M.pure (.tuple #[])) (M.stuck)) (fun _ => M.stuck))
noncomputable def k42 : Value → Value → M Value := b42 f21 f55
noncomputable def f42 : List Value → M Value := ar2 k42
theorem b42_eq (F21 F55 : List Value → M Value) (a0 a1 : Value) : b42 F21 F55 a0 a1 = execFn TTab (T42 F21 F55) Go.Proofs.Tryd.f42 h42 [a0, a1] := by kernel_rfl
theorem k42_eq (a0 a1 : Value) : k42 a0 a1 = execFn TTab GT42 Go.Proofs.Tryd.f42 h42 [a0, a1] := b42_eq f21 f55 a0 a1
theorem f42_sum : Summ Go.Proofs.Tryd.prog 42 f42 := summ_of_exec tok GT42_sum (draw_sound tok GT42_sum mixed) Go.Proofs.Tryd.func42 (by kernel_rfl) rfl h42 (ar2_eq k42_eq)
/-- slices.Collect[mailcoach/api.Line] -/
def h81 : Hint := (.seq .nil (.seq .nil .nil))
abbrev T81 (F88 : List Value → M Value) : FT := [(88, F88)]
noncomputable abbrev GT81 : FT := T81 f88
theorem GT81_sum : Summs Go.Proofs.Tryd.prog GT81 := summs_cons f88_sum (summs_nil)
def b81 (F88 : List Value → M Value) : Value → M Value := fun a0 =>

    M.bind (F88 [(Go.Value.slice none 0 0), a0]) fun t4_1 =>
    M.pure t4_1
noncomputable def k81 : Value → M Value := b81 f88
noncomputable def f81 : List Value → M Value := ar1 k81
theorem b81_eq (F88 : List Value → M Value) (a0 : Value) : b81 F88 a0 = execFn TTab (T81 F88) Go.Proofs.Tryd.f81 h81 [a0] := by kernel_rfl
theorem k81_eq (a0 : Value) : k81 a0 = execFn TTab GT81 Go.Proofs.Tryd.f81 h81 [a0] := b81_eq f88 a0
theorem f81_sum : Summ Go.Proofs.Tryd.prog 81 f81 := summ_of_exec tok GT81_sum (draw_sound tok GT81_sum mixed) Go.Proofs.Tryd.func81 (by kernel_rfl) rfl h81 (ar1_eq k81_eq)
/-- slices.insertionSortCmpFunc[mailcoach/api.Line] -/
def h92 : Hint := (.seq .nil (.block (.loop [8] [0] [] none (.seq (.seq .nil (.cond .nil .nil)) (.seq (.block (.seq .nil (.block (.loop [9] [2] [] none (.seq (.seq (.draw [0, 1, 2, 3, 4, 5, 6, 7, 8, 9, 10, 11, 12, 13, 14, 15, 16]) (.cond .nil .nil)) (.seq (.block (.draw [0, 1, 2, 3, 4, 5, 6, 7, 8, 9, 10, 11, 12, 13, 14, 15, 16, 17])) .nil)))))) .nil)))))
abbrev T92 : FT := []
noncomputable abbrev GT92 : FT := T92 
theorem GT92_sum : Summs Go.Proofs.Tryd.prog GT92 := summs_nil
def b92_p0 (vs_4 : List Value) (a0 : Value) : M J :=
    M.bind (bumpC 0) fun b_20 =>
    M.bind (bin (.cell .int) .sub (nth vs_4 0) (Go.Value.int Go.IntKind.i64 1)) fun t41_21 =>
    M.bind (bin (.cell .int) .sub (nth vs_4 0) (Go.Value.int Go.IntKind.i64 1)) fun t44_22 =>
    M.bind (idxSl 5 a0 t44_22) fun t45_23 =>
    M.bind (ldN 5 t45_23) fun t46_24 =>
    M.bind (idxSl 5 a0 (nth vs_4 0)) fun t49_25 =>
    M.bind (ldN 5 t49_25) fun t50_26 =>
    M.bind (idxSl 5 a0 (nth vs_4 0)) fun t51_27 =>
    M.bind (stN 5 t51_27 t46_24) fun tu_28 =>
    M.bind (idxSl 5 a0 t41_21) fun t52_29 =>
    M.bind (stN 5 t52_29 t50_26) fun tu_30 =>
    M.bind (bin (.cell .int) .sub (nth vs_4 0) (Go.Value.int Go.IntKind.i64 1)) fun t36_31 =>
    M.pure (.norm [t36_31])
def b92_p1 (a1 : Value) (a3 : Value) (a0 : Value) (vs_4 : List Value) : M J :=
    M.bind (bumpC 0) fun b_5 =>
    M.bind (bin (.cell .int) .gtr (nth vs_4 0) a1) fun t20_6 =>
    M.bind (guardM true t20_6 (M.pure a3)) fun t22_7 =>
    M.bind (guardM true t20_6 (M.pure a0)) fun t23_8 =>
    M.bind (guardM true t20_6 (M.pure (nth vs_4 0))) fun t24_9 =>
    M.bind (guardM true t20_6 (idxSl 5 t23_8 t24_9)) fun t25_10 =>
    M.bind (guardM true t20_6 (ldN 5 t25_10)) fun t26_11 =>
    M.bind (guardM true t20_6 (M.pure a0)) fun t27_12 =>
    M.bind (guardM true t20_6 (M.pure (nth vs_4 0))) fun t28_13 =>
    M.bind (guardM true t20_6 (bin (.cell .int) .sub t28_13 (Go.Value.int Go.IntKind.i64 1))) fun t29_14 =>
    M.bind (guardM true t20_6 (idxSl 5 t27_12 t29_14)) fun t30_15 =>
    M.bind (guardM true t20_6 (ldN 5 t30_15)) fun t31_16 =>
    M.bind (guardM true t20_6 (callV (T92 ) t22_7 [t26_11, t31_16])) fun t32_17 =>
    M.bind (guardM true t20_6 (bin (.cell .int) .lss t32_17 (Go.Value.int Go.IntKind.i64 0))) fun t33_18 =>
    M.bind (pick t20_6 t33_18 (Go.Value.bool false)) fun t34_19 =>
    condM t34_19 (
    b92_p0 vs_4 a0) (
    M.pure (.exit 2 []))
def b92_p2 (a2 : Value) (a1 : Value) (a3 : Value) (a0 : Value) (vs_2 : List Value) : M J :=
    M.bind (bin (.cell .int) .lss (nth vs_2 0) a2) fun t14_3 =>
    condM t14_3 (
    M.bind (loopM (b92_p1 a1 a3 a0) [(nth vs_2 0)]) (onJ (fun _ => M.stuck) (fun id_32 vs_32 =>
    cond (Nat.beq id_32 2) (
    M.bind (bin (.cell .int) .add (nth vs_2 0) (Go.Value.int Go.IntKind.i64 1)) fun t16_33 =>
    M.pure (.norm [t16_33])) (M.stuck)) (fun _ => M.stuck))) (
    M.pure (.exit 0 []))
def b92 : Value → Value → Value → Value → M Value := fun a0 a1 a2 a3 =>

    M.bind (bin (.cell .int) .add a1 (Go.Value.int Go.IntKind.i64 1)) fun t11_1 =>
    M.bind (loopM (b92_p2 a2 a1 a3 a0) [t11_1]) (onJ (fun _ => M.stuck) (fun id_34 vs_34 =>
    cond (Nat.beq id_34 0) (
    M.pure (.tuple #[])) (M.stuck)) (fun _ => M.stuck))
noncomputable def k92 : Value → Value → Value → Value → M Value := b92 
noncomputable def f92 : List Value → M Value := ar4 k92
theorem b92_eq (a0 a1 a2 a3 : Value) : b92  a0 a1 a2 a3 = execFn TTab (T92 ) Go.Proofs.Tryd.f92 h92 [a0, a1, a2, a3] := by kernel_rfl
theorem k92_eq (a0 a1 a2 a3 : Value) : k92 a0 a1 a2 a3 = execFn TTab GT92 Go.Proofs.Tryd.f92 h92 [a0, a1, a2, a3] := b92_eq  a0 a1 a2 a3
theorem f92_sum : Summ Go.Proofs.Tryd.prog 92 f92 := summ_of_exec tok GT92_sum (draw_sound tok GT92_sum mixed) Go.Proofs.Tryd.func92 (by kernel_rfl) rfl h92 (ar4_eq k92_eq)
end Go.Vm.Tryd
end
