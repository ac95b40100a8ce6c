/- Parts of the proof. -/
import Derived.Test.YtglbdcndgfnhkaaDoorKF2
import Derived.Test.YtglbdcndgfnhkaaDoorKX
section
set_option linter.unusedVariables false
set_option maxRecDepth 100000
set_option maxHeartbeats 1000000
namespace Go.Vm.Tryd
open Go Go.Vm
/-- (*mailcoach/pack.Reader).Text -/
def h28 : Hint := (.seq .nil (.seq .nil (.seq (.seq .nil (.cond .nil .nil)) (.seq .nil .nil))))
abbrev T28 (F30 F61 : List Value → M Value) : FT := [(30, F30), (61, F61)]
noncomputable abbrev GT28 : FT := T28 f30 f61
theorem GT28_sum : Summs Go.Proofs.Tryd.prog GT28 := summs_cons f30_sum (summs_cons f61_sum (summs_nil))
def b28 (F30 F61 : List Value → M Value) : Value → M Value := fun a0 =>

    M.bind (F30 [a0]) fun t5_1 =>
    M.bind (F61 [t5_1]) fun t7_2 =>
    M.bind (un .not t7_2) fun t8_3 =>
    condM t8_3 (
    M.bind (mkAgg [.int .i64 0] [(0, 1, (Go.Value.int Go.IntKind.i64 6))]) fun t9_4 =>
    M.bind (mkIface 131 t9_4) fun t10_5 =>
    M.bind (throwV t10_5) fun tu_6 =>
    M.bind (bump 1) fun b_7 =>
    M.bind (cvString t5_1) fun t12_8 =>
    M.pure t12_8) (
    M.bind (bump 1) fun b_9 =>
    M.bind (cvString t5_1) fun t12_10 =>
    M.pure t12_10)
noncomputable def k28 : Value → M Value := b28 f30 f61
noncomputable def f28 : List Value → M Value := ar1 k28
theorem b28_eq (F30 F61 : List Value → M Value) (a0 : Value) : b28 F30 F61 a0 = execFn TTab (T28 F30 F61) Go.Proofs.Tryd.f28 h28 [a0] := by kernel_rfl
theorem k28_eq (a0 : Value) : k28 a0 = execFn TTab GT28 Go.Proofs.Tryd.f28 h28 [a0] := b28_eq f30 f61 a0
theorem f28_sum : Summ Go.Proofs.Tryd.prog 28 f28 := summ_of_exec tok GT28_sum (draw_sound tok GT28_sum mixed) Go.Proofs.Tryd.func28 (by kernel_rfl) rfl h28 (ar1_eq k28_eq)
/-- (*mailcoach/pack.Reader).U64 -/
def h29 : Hint := (.seq .nil (.seq .nil .nil))
abbrev T29 (F62 : List Value → M Value) : FT := [(62, F62)]
noncomputable abbrev GT29 : FT := T29 f62
theorem GT29_sum : Summs Go.Proofs.Tryd.prog GT29 := summs_cons f62_sum (summs_nil)
def b29 (F62 : List Value → M Value) : Value → M Value := fun a0 =>

    M.bind (F62 [a0, (Go.Value.int Go.IntKind.u64 8)]) fun t4_1 =>
    M.pure t4_1
noncomputable def k29 : Value → M Value := b29 f62
noncomputable def f29 : List Value → M Value := ar1 k29
theorem b29_eq (F62 : List Value → M Value) (a0 : Value) : b29 F62 a0 = execFn TTab (T29 F62) Go.Proofs.Tryd.f29 h29 [a0] := by kernel_rfl
theorem k29_eq (a0 : Value) : k29 a0 = execFn TTab GT29 Go.Proofs.Tryd.f29 h29 [a0] := b29_eq f62 a0
theorem f29_sum : Summ Go.Proofs.Tryd.prog 29 f29 := summ_of_exec tok GT29_sum (draw_sound tok GT29_sum mixed) Go.Proofs.Tryd.func29 (by kernel_rfl) rfl h29 (ar1_eq k29_eq)
/-- mailcoach/codec.Pick$1 -/
def h27 : Hint := .nil
abbrev T27 (F28 F29 F30 : List Value → M Value) : FT := [(28, F28), (29, F29), (30, F30)]
noncomputable abbrev GT27 : FT := T27 f28 f29 f30
theorem GT27_sum : Summs Go.Proofs.Tryd.prog GT27 := summs_cons f28_sum (summs_cons f29_sum (summs_cons f30_sum (summs_nil)))
def b27 (F28 F29 F30 : List Value → M Value) : Value → Value → M Value := fun a0 a1 =>

    M.bind (F28 [a0]) fun t4_1 =>
    M.bind (F29 [a0]) fun t6_2 =>
    M.bind (F28 [a0]) fun t8_3 =>
    M.bind (F30 [a0]) fun t10_4 =>
    M.bind (mkAgg [.string ⟨#[]⟩, .int .u64 0, .string ⟨#[]⟩, .slice none 0 0] [(0, 1, t4_1), (1, 1, t6_2), (2, 1, t8_3), (3, 1, t10_4)]) fun t11_5 =>
    M.bind (stN 4 a1 t11_5) fun tu_6 =>
    M.pure (.tuple #[])
noncomputable def k27 : Value → Value → M Value := b27 f28 f29 f30
noncomputable def f27 : List Value → M Value := ar2 k27
theorem b27_eq (F28 F29 F30 : List Value → M Value) (a0 a1 : Value) : b27 F28 F29 F30 a0 a1 = execFn TTab (T27 F28 F29 F30) Go.Proofs.Tryd.f27 h27 [a0, a1] := by kernel_rfl
theorem k27_eq (a0 a1 : Value) : k27 a0 a1 = execFn TTab GT27 Go.Proofs.Tryd.f27 h27 [a0, a1] := b27_eq f28 f29 f30 a0 a1
theorem f27_sum : Summ Go.Proofs.Tryd.prog 27 f27 := summ_of_exec tok GT27_sum (draw_sound tok GT27_sum mixed) Go.Proofs.Tryd.func27 (by kernel_rfl) rfl h27 (ar2_eq k27_eq)
/-- (*mailcoach/pack.Reader).U8 -/
def h45 : Hint := (.seq .nil (.seq .nil .nil))
abbrev T45 (F62 : List Value → M Value) : FT := [(62, F62)]
noncomputable abbrev GT45 : FT := T45 f62
theorem GT45_sum : Summs Go.Proofs.Tryd.prog GT45 := summs_cons f62_sum (summs_nil)
def b45 (F62 : List Value → M Value) : Value → M Value := fun a0 =>

    M.bind (bump 1) fun b_1 =>
    M.bind (F62 [a0, (Go.Value.int Go.IntKind.u64 1)]) fun t4_2 =>
    M.bind (cvInt .u8 t4_2) fun t5_3 =>
    M.pure t5_3
noncomputable def k45 : Value → M Value := b45 f62
noncomputable def f45 : List Value → M Value := ar1 k45
theorem b45_eq (F62 : List Value → M Value) (a0 : Value) : b45 F62 a0 = execFn TTab (T45 F62) Go.Proofs.Tryd.f45 h45 [a0] := by kernel_rfl
theorem k45_eq (a0 : Value) : k45 a0 = execFn TTab GT45 Go.Proofs.Tryd.f45 h45 [a0] := b45_eq f62 a0
theorem f45_sum : Summ Go.Proofs.Tryd.prog 45 f45 := summ_of_exec tok GT45_sum (draw_sound tok GT45_sum mixed) Go.Proofs.Tryd.func45 (by kernel_rfl) rfl h45 (ar1_eq k45_eq)
/-- (*mailcoach/pack.Reader).Fail -/
def h50 : Hint := (.seq .nil (.cond .nil .nil))
abbrev T50 : FT := []
noncomputable abbrev GT50 : FT := T50 
theorem GT50_sum : Summs Go.Proofs.Tryd.prog GT50 := summs_nil
def b50 : Value → Value → M Value := fun a0 a1 =>

    M.bind (bin (.cell .int) .neq a1 (Go.Value.int Go.IntKind.i64 0)) fun t5_1 =>
    condM t5_1 (
    M.bind (mkAgg [.int .i64 0] [(0, 1, a1)]) fun t7_2 =>
    M.bind (mkIface 131 t7_2) fun t8_3 =>
    M.bind (throwV t8_3) fun tu_4 =>
    M.pure (.tuple #[])) (
    M.pure (.tuple #[]))
noncomputable def k50 : Value → Value → M Value := b50 
noncomputable def f50 : List Value → M Value := ar2 k50
theorem b50_eq (a0 a1 : Value) : b50  a0 a1 = execFn TTab (T50 ) Go.Proofs.Tryd.f50 h50 [a0, a1] := by kernel_rfl
theorem k50_eq (a0 a1 : Value) : k50 a0 a1 = execFn TTab GT50 Go.Proofs.Tryd.f50 h50 [a0, a1] := b50_eq  a0 a1
theorem f50_sum : Summ Go.Proofs.Tryd.prog 50 f50 := summ_of_exec tok GT50_sum (draw_sound tok GT50_sum mixed) Go.Proofs.Tryd.func50 (by kernel_rfl) rfl h50 (ar2_eq k50_eq)
/-- mailcoach/codec.yes -/
def h46 : Hint := (.seq .nil (.seq .nil (.seq (.seq .nil (.condJ [] [] [] none .nil .nil)) (.seq .nil .nil))))
abbrev T46 (F45 F50 : List Value → M Value) : FT := [(45, F45), (50, F50)]
noncomputable abbrev GT46 : FT := T46 f45 f50
theorem GT46_sum : Summs Go.Proofs.Tryd.prog GT46 := summs_cons f45_sum (summs_cons f50_sum (summs_nil))
def b46 (F45 F50 : List Value → M Value) : Value → M Value := fun a0 =>

    M.bind (F45 [a0]) fun t5_1 =>
    M.bind (bin (.cell .int) .gtr t5_1 (Go.Value.int Go.IntKind.u8 1)) fun t7_2 =>
    M.bind (condM t7_2 (
    M.bind (F50 [a0, (Go.Value.int Go.IntKind.i64 16)]) fun t9_3 =>
    M.pure (.norm [])) (
    M.pure (.norm []))) (onJ (fun vs_4 =>
    M.bind (bin (.cell .int) .eql t5_1 (Go.Value.int Go.IntKind.u8 1)) fun t11_5 =>
    M.pure t11_5) (fun _ _ => M.stuck) (fun _ => M.stuck))
noncomputable def k46 : Value → M Value := b46 f45 f50
noncomputable def f46 : List Value → M Value := ar1 k46
theorem b46_eq (F45 F50 : List Value → M Value) (a0 : Value) : b46 F45 F50 a0 = execFn TTab (T46 F45 F50) Go.Proofs.Tryd.f46 h46 [a0] := by kernel_rfl
theorem k46_eq (a0 : Value) : k46 a0 = execFn TTab GT46 Go.Proofs.Tryd.f46 h46 [a0] := b46_eq f45 f50 a0
theorem f46_sum : Summ Go.Proofs.Tryd.prog 46 f46 := summ_of_exec tok GT46_sum (draw_sound tok GT46_sum mixed) Go.Proofs.Tryd.func46 (by kernel_rfl) rfl h46 (ar1_eq k46_eq)
/-- (*mailcoach/pack.Reader).U16 -/
def h57 : Hint := (.seq .nil (.seq .nil .nil))
abbrev T57 (F62 : List Value → M Value) : FT := [(62, F62)]
noncomputable abbrev GT57 : FT := T57 f62
theorem GT57_sum : Summs Go.Proofs.Tryd.prog GT57 := summs_cons f62_sum (summs_nil)
def b57 (F62 : List Value → M Value) : Value → M Value := fun a0 =>

    M.bind (bump 1) fun b_1 =>
    M.bind (F62 [a0, (Go.Value.int Go.IntKind.u64 2)]) fun t4_2 =>
    M.bind (cvInt .u16 t4_2) fun t5_3 =>
    M.pure t5_3
noncomputable def k57 : Value → M Value := b57 f62
noncomputable def f57 : List Value → M Value := ar1 k57
theorem b57_eq (F62 : List Value → M Value) (a0 : Value) : b57 F62 a0 = execFn TTab (T57 F62) Go.Proofs.Tryd.f57 h57 [a0] := by kernel_rfl
theorem k57_eq (a0 : Value) : k57 a0 = execFn TTab GT57 Go.Proofs.Tryd.f57 h57 [a0] := b57_eq f62 a0
theorem f57_sum : Summ Go.Proofs.Tryd.prog 57 f57 := summ_of_exec tok GT57_sum (draw_sound tok GT57_sum mixed) Go.Proofs.Tryd.func57 (by kernel_rfl) rfl h57 (ar1_eq k57_eq)
/-- mailcoach/cursor.Take -/
def h47 : Hint := (.seq .nil (.seq .nil (.seq (.seq .nil (.block (.loop [13] [0] [] none (.seq .nil (.seq (.cond .nil .nil) (.seq (.block (.seq .nil (.seq (.seq .nil (.block (.loop [20] [2] [] none (.seq .nil (.seq (.cond .nil .nil) (.seq (.block (.draw [0, 1, 2, 4, 3, 5, 6, 7, 8, 9, 10])) .nil)))))) .nil))) .nil)))))) (.seq (.seq .nil (.condJ [] [] [] none .nil .nil)) (.seq .nil .nil)))))
abbrev T47 (F29 F50 F57 F70 : List Value → M Value) : FT := [(29, F29), (50, F50), (57, F57), (70, F70)]
noncomputable abbrev GT47 : FT := T47 f29 f50 f57 f70
theorem GT47_sum : Summs Go.Proofs.Tryd.prog GT47 := summs_cons f29_sum (summs_cons f50_sum (summs_cons f57_sum (summs_cons f70_sum (summs_nil))))
def b47_p0 (F29 F50 F57 F70 : List Value → M Value) (t4_16 : Value) (a0 : Value) (vs_19 : List Value) : M J :=
    M.bind (bumpC 2) fun b_21 =>
    M.bind (addOff 1 t4_16) fun t22_22 =>
    M.bind (ld1 t22_22) fun t23_23 =>
    M.bind (F29 [a0]) fun t25_24 =>
    same (ld1 t22_22) t23_23 (
    M.bind (F29 [a0]) fun t27_25 =>
    same (ld1 t22_22) t23_23 (
    M.bind (mkAgg [.int .u64 0, .int .u64 0] [(0, 1, t25_24), (1, 1, t27_25)]) fun t28_26 =>
    M.bind (mkLitSl b_21 137 [.int .u64 0, .int .u64 0] 1 [(0, 2, t28_26)]) fun t29_27 =>
    M.bind (app (b_21 + 1) 137 2 16 t23_23 t29_27) fun t30_28 =>
    M.bind (addOff 1 t4_16) fun t31_29 =>
    M.bind (st1 t31_29 t30_28) fun tu_30 =>
    M.bind (bin (.cell .int) .add (nth vs_19 0) (Go.Value.int Go.IntKind.u16 1)) fun t32_31 =>
    M.pure (.norm [t32_31])))
def b47_p1 (F29 F50 F57 F70 : List Value → M Value) (t19_18 : Value) (t4_16 : Value) (a0 : Value) (vs_19 : List Value) : M J :=
    M.bind (bin (.cell .int) .lss (nth vs_19 0) t19_18) fun t21_20 =>
    condM t21_20 (
    b47_p0 F29 F50 F57 F70 t4_16 a0 vs_19) (
    M.pure (.exit 2 []))
def b47_p2 (F29 F50 F57 F70 : List Value → M Value) (a0 : Value) (t3_8 : Value) (vs_11 : List Value) : M J :=
    M.bind (bump 1) fun b_13 =>
    M.bind (F29 [a0]) fun t16_14 =>
    M.bind (mkAgg [.int .u64 0, .slice none 0 0] [(0, 1, t16_14)]) fun t17_15 =>
    M.bind (newCells b_13 [.int .u64 0, .slice none 0 0] 91) fun t4_16 =>
    M.bind (stN 2 t4_16 t17_15) fun tu_17 =>
    M.bind (F57 [a0]) fun t19_18 =>
    M.bind (loopM (b47_p1 F29 F50 F57 F70 t19_18 t4_16 a0) [(Go.Value.int Go.IntKind.u16 0)]) (onJ (fun _ => M.stuck) (fun id_32 vs_32 =>
    cond (Nat.beq id_32 2) (
    M.bind (bump 2) fun b_33 =>
    M.bind (addOff 2 t3_8) fun t33_34 =>
    M.bind (ld1 t33_34) fun t34_35 =>
    M.bind (ldN 2 t4_16) fun t35_36 =>
    M.bind (mkLitSl b_33 91 [.int .u64 0, .slice none 0 0] 1 [(0, 2, t35_36)]) fun t36_37 =>
    M.bind (app (b_33 + 1) 91 2 32 t34_35 t36_37) fun t37_38 =>
    M.bind (addOff 2 t3_8) fun t38_39 =>
    M.bind (st1 t38_39 t37_38) fun tu_40 =>
    M.bind (bin (.cell .int) .add (nth vs_11 0) (Go.Value.int Go.IntKind.u16 1)) fun t39_41 =>
    M.pure (.norm [t39_41])) (M.stuck)) (fun _ => M.stuck))
def b47_p3 (F29 F50 F57 F70 : List Value → M Value) (t12_10 : Value) (a0 : Value) (t3_8 : Value) (vs_11 : List Value) : M J :=
    M.bind (bin (.cell .int) .lss (nth vs_11 0) t12_10) fun t14_12 =>
    condM t14_12 (
    b47_p2 F29 F50 F57 F70 a0 t3_8 vs_11) (
    M.pure (.exit 0 []))
def b47_p4 (F29 F50 F57 F70 : List Value → M Value) (t3_8 : Value) (a0 : Value) (t2_2 : Value) : M Value :=
    M.bind (ldN 3 t3_8) fun t40_43 =>
    M.bind (F70 [t40_43]) fun t41_44 =>
    M.bind (un .not t41_44) fun t42_45 =>
    M.bind (condM t42_45 (
    M.bind (F50 [a0, (Go.Value.int Go.IntKind.i64 23)]) fun t44_46 =>
    M.pure (.norm [])) (
    M.pure (.norm []))) (onJ (fun vs_47 =>
    M.bind (ldN 3 t3_8) fun t45_48 =>
    M.bind (stN 3 t2_2 t45_48) fun tu_49 =>
    M.bind (ldN 3 t2_2) fun tr_50 =>
    M.pure tr_50) (fun _ _ => M.stuck) (fun _ => M.stuck))
def b47 (F29 F50 F57 F70 : List Value → M Value) : Value → M Value := fun a0 =>

    M.bind (bump 1) fun b_1 =>
    M.bind (newCells b_1 [.int .u64 0, .int .u64 0, .slice none 0 0] 86) fun t2_2 =>
    M.bind (bump 1) fun b_3 =>
    M.bind (F29 [a0]) fun t6_4 =>
    M.bind (F29 [a0]) fun t8_5 =>
    M.bind (mkAgg [.int .u64 0, .int .u64 0] [(0, 1, t6_4), (1, 1, t8_5)]) fun t9_6 =>
    M.bind (mkAgg [.int .u64 0, .int .u64 0, .slice none 0 0] [(0, 2, t9_6)]) fun t10_7 =>
    M.bind (newCells b_3 [.int .u64 0, .int .u64 0, .slice none 0 0] 86) fun t3_8 =>
    M.bind (stN 3 t3_8 t10_7) fun tu_9 =>
    M.bind (F57 [a0]) fun t12_10 =>
    M.bind (loopM (b47_p3 F29 F50 F57 F70 t12_10 a0 t3_8) [(Go.Value.int Go.IntKind.u16 0)]) (onJ (fun _ => M.stuck) (fun id_42 vs_42 =>
    cond (Nat.beq id_42 0) (
    b47_p4 F29 F50 F57 F70 t3_8 a0 t2_2) (M.stuck)) (fun _ => M.stuck))
noncomputable def k47 : Value → M Value := b47 f29 f50 f57 f70
noncomputable def f47 : List Value → M Value := ar1 k47
theorem b47_eq (F29 F50 F57 F70 : List Value → M Value) (a0 : Value) : b47 F29 F50 F57 F70 a0 = execFn TTab (T47 F29 F50 F57 F70) Go.Proofs.Tryd.f47 h47 [a0] := by kernel_rfl
theorem k47_eq (a0 : Value) : k47 a0 = execFn TTab GT47 Go.Proofs.Tryd.f47 h47 [a0] := b47_eq f29 f50 f57 f70 a0
theorem f47_sum : Summ Go.Proofs.Tryd.prog 47 f47 := summ_of_exec tok GT47_sum (draw_sound tok GT47_sum mixed) Go.Proofs.Tryd.func47 (by kernel_rfl) rfl h47 (ar1_eq k47_eq)
/-- mailcoach/dedup.Take -/
def h48 : Hint := (.seq .nil (.seq .nil (.seq .nil (.seq (.seq .nil (.block (.loop [4, 9] [0] [] none (.seq .nil (.seq (.cond .nil .nil) (.seq (.block (.seq .nil (.seq .nil (.seq (.seq .nil (.condJ [] [] [] none .nil .nil)) (.seq .nil (.draw [0, 1, 2, 3, 4, 5, 6, 7])))))) .nil)))))) (.seq .nil .nil)))))
abbrev T48 (F28 F29 F45 F50 F66 : List Value → M Value) : FT := [(28, F28), (29, F29), (45, F45), (50, F50), (66, F66)]
noncomputable abbrev GT48 : FT := T48 f28 f29 f45 f50 f66
theorem GT48_sum : Summs Go.Proofs.Tryd.prog GT48 := summs_cons f28_sum (summs_cons f29_sum (summs_cons f45_sum (summs_cons f50_sum (summs_cons f66_sum (summs_nil)))))
def b48_p0 (F28 F29 F45 F50 F66 : List Value → M Value) (t5_12 : Value) (t6_1 : Value) (vs_3 : List Value) (vs_38 : List Value) : M J :=
    M.bind (addOff 0 t5_12) fun t49_39 =>
    M.bind (ld1 t49_39) fun t50_40 =>
    M.bind (bumpC 0) fun b_41 =>
    M.bind (nilChk t6_1) fun t52_42 =>
    M.bind (addOff 0 t52_42) fun t53_43 =>
    M.bind (ld1 t53_43) fun t54_44 =>
    M.bind (addOff 0 t5_12) fun t55_45 =>
    M.bind (ld1 t55_45) fun t56_46 =>
    M.bind (ldN 5 t5_12) fun t57_47 =>
    M.bind (upd (.cell .str) t54_44 t56_46 t57_47) fun tu_48 =>
    M.bind (bin (.cell .int) .add (nth vs_3 1) (Go.Value.int Go.IntKind.u8 1)) fun t58_49 =>
    M.pure (.norm [t50_40, t58_49])
def b48_p1 (F28 F29 F45 F50 F66 : List Value → M Value) (a0 : Value) (vs_3 : List Value) (t6_1 : Value) : M J :=
    M.bind (bump 1) fun b_5 =>
    M.bind (F28 [a0]) fun t12_6 =>
    M.bind (F29 [a0]) fun t14_7 =>
    M.bind (F29 [a0]) fun t16_8 =>
    M.bind (F29 [a0]) fun t18_9 =>
    M.bind (mkAgg [.int .u64 0, .int .u64 0] [(0, 1, t16_8), (1, 1, t18_9)]) fun t19_10 =>
    M.bind (mkAgg [.string ⟨#[]⟩, .int .u64 0, .int .u64 0, .int .u64 0, .int .u64 0] [(0, 1, t12_6), (2, 1, t14_7), (3, 2, t19_10)]) fun t20_11 =>
    M.bind (newCells b_5 [.string ⟨#[]⟩, .int .u64 0, .int .u64 0, .int .u64 0, .int .u64 0] 93) fun t5_12 =>
    M.bind (stN 5 t5_12 t20_11) fun tu_13 =>
    M.bind (addOff 2 t5_12) fun t21_14 =>
    M.bind (ld1 t21_14) fun t22_15 =>
    M.bind (addOff 1 t5_12) fun t23_16 =>
    M.bind (st1 t23_16 t22_15) fun tu_17 =>
    M.bind (addOff 0 t5_12) fun t24_18 =>
    M.bind (ld1 t24_18) fun t25_19 =>
    M.bind (bin (.cell .str) .leq t25_19 (nth vs_3 0)) fun t27_20 =>
    M.bind (guardM false t27_20 (addOff 0 t5_12)) fun t29_21 =>
    M.bind (guardM false t27_20 (ld1 t29_21)) fun t30_22 =>
    M.bind (guardM false t27_20 (lenStr t30_22)) fun t31_23 =>
    M.bind (guardM false t27_20 (bin (.cell .int) .gtr t31_23 (Go.Value.int Go.IntKind.i64 64))) fun t32_24 =>
    M.bind (pick t27_20 (Go.Value.bool true) t32_24) fun t33_25 =>
    M.bind (guardM false t33_25 (addOff 2 t5_12)) fun t35_26 =>
    M.bind (guardM false t33_25 (ld1 t35_26)) fun t36_27 =>
    M.bind (guardM false t33_25 (bin (.cell .int) .eql t36_27 (Go.Value.int Go.IntKind.u64 0))) fun t37_28 =>
    M.bind (pick t33_25 (Go.Value.bool true) t37_28) fun t38_29 =>
    M.bind (guardM false t38_29 (M.pure t6_1)) fun t40_30 =>
    M.bind (guardM false t38_29 (nilChk t40_30)) fun t41_31 =>
    M.bind (guardM false t38_29 (addOff 0 t41_31)) fun t42_32 =>
    M.bind (guardM false t38_29 (ld1 t42_32)) fun t43_33 =>
    M.bind (guardM false t38_29 (lenMap t43_33)) fun t44_34 =>
    M.bind (guardM false t38_29 (bin (.cell .int) .geq t44_34 (Go.Value.int Go.IntKind.i64 16))) fun t45_35 =>
    M.bind (pick t38_29 (Go.Value.bool true) t45_35) fun t46_36 =>
    M.bind (condM t46_36 (
    M.bind (F50 [a0, (Go.Value.int Go.IntKind.i64 23)]) fun t48_37 =>
    M.pure (.norm [])) (
    M.pure (.norm []))) (onJ (b48_p0 F28 F29 F45 F50 F66 t5_12 t6_1 vs_3) (fun _ _ => M.stuck) (fun _ => M.stuck))
def b48_p2 (F28 F29 F45 F50 F66 : List Value → M Value) (t8_2 : Value) (a0 : Value) (t6_1 : Value) (vs_3 : List Value) : M J :=
    M.bind (bin (.cell .int) .lss (nth vs_3 1) t8_2) fun t10_4 =>
    condM t10_4 (
    b48_p1 F28 F29 F45 F50 F66 a0 vs_3 t6_1) (
    M.pure (.exit 0 []))
def b48 (F28 F29 F45 F50 F66 : List Value → M Value) : Value → M Value := fun a0 =>

    M.bind (F66 []) fun t6_1 =>
    M.bind (F45 [a0]) fun t8_2 =>
    M.bind (loopM (b48_p2 F28 F29 F45 F50 F66 t8_2 a0 t6_1) [(Go.Value.string (ByteArray.mk #[])), (Go.Value.int Go.IntKind.u8 0)]) (onJ (fun _ => M.stuck) (fun id_50 vs_50 =>
    cond (Nat.beq id_50 0) (
    M.pure t6_1) (M.stuck)) (fun _ => M.stuck))
noncomputable def k48 : Value → M Value := b48 f28 f29 f45 f50 f66
noncomputable def f48 : List Value → M Value := ar1 k48
theorem b48_eq (F28 F29 F45 F50 F66 : List Value → M Value) (a0 : Value) : b48 F28 F29 F45 F50 F66 a0 = execFn TTab (T48 F28 F29 F45 F50 F66) Go.Proofs.Tryd.f48 h48 [a0] := by kernel_rfl
theorem k48_eq (a0 : Value) : k48 a0 = execFn TTab GT48 Go.Proofs.Tryd.f48 h48 [a0] := b48_eq f28 f29 f45 f50 f66 a0
theorem f48_sum : Summ Go.Proofs.Tryd.prog 48 f48 := summ_of_exec tok GT48_sum (draw_sound tok GT48_sum mixed) Go.Proofs.Tryd.func48 (by kernel_rfl) rfl h48 (ar1_eq k48_eq)
/-- mailcoach/codec.Decode$1 -/
def h44 : Hint := (.seq .nil (.seq (.seq .nil (.block (.loop [11] [0] [] none (.seq .nil (.seq (.cond .nil .nil) (.seq (.block (.draw [0, 1, 2, 4, 6, 3, 5, 7, 8, 9, 10, 11, 12])) .nil)))))) (.seq (.seq .nil (.block (.loop [28] [2] [] none (.seq .nil (.seq (.cond .nil .nil) (.seq (.block (.draw [0, 1, 2, 4, 6, 3, 5, 7, 8, 9, 10, 11, 12])) .nil)))))) (.seq .nil (.seq .nil (.condJ [] [] [] none .nil .nil))))))
abbrev T44 (F28 F29 F38 F45 F46 F47 F48 F49 F50 : List Value → M Value) : FT := [(28, F28), (29, F29), (38, F38), (45, F45), (46, F46), (47, F47), (48, F48), (49, F49), (50, F50)]
noncomputable abbrev GT44 : FT := T44 f28 f29 f38 f45 f46 f47 f48 f49 f50
theorem GT44_sum : Summs Go.Proofs.Tryd.prog GT44 := summs_cons f28_sum (summs_cons f29_sum (summs_cons f38_sum (summs_cons f45_sum (summs_cons f46_sum (summs_cons f47_sum (summs_cons f48_sum (summs_cons f49_sum (summs_cons f50_sum (summs_nil)))))))))
def b44_p0 (F28 F29 F38 F45 F46 F47 F48 F49 F50 : List Value → M Value) (a1 : Value) (a0 : Value) (vs_8 : List Value) : M J :=
    M.bind (bumpC 2) fun b_10 =>
    M.bind (addOff 2 a1) fun t13_11 =>
    M.bind (ld1 t13_11) fun t14_12 =>
    M.bind (F29 [a0]) fun t16_13 =>
    same (ld1 t13_11) t14_12 (
    M.bind (F46 [a0]) fun t18_14 =>
    same (ld1 t13_11) t14_12 (
    M.bind (F29 [a0]) fun t20_15 =>
    same (ld1 t13_11) t14_12 (
    M.bind (mkAgg [.int .u64 0, .bool false, .int .u64 0] [(0, 1, t16_13), (1, 1, t18_14), (2, 1, t20_15)]) fun t21_16 =>
    M.bind (mkLitSl b_10 96 [.int .u64 0, .bool false, .int .u64 0] 1 [(0, 3, t21_16)]) fun t22_17 =>
    M.bind (app (b_10 + 1) 96 3 24 t14_12 t22_17) fun t23_18 =>
    M.bind (addOff 2 a1) fun t24_19 =>
    M.bind (st1 t24_19 t23_18) fun tu_20 =>
    M.bind (bin (.cell .int) .add (nth vs_8 0) (Go.Value.int Go.IntKind.u8 1)) fun t25_21 =>
    M.pure (.norm [t25_21]))))
def b44_p1 (F28 F29 F38 F45 F46 F47 F48 F49 F50 : List Value → M Value) (t10_7 : Value) (a1 : Value) (a0 : Value) (vs_8 : List Value) : M J :=
    M.bind (bin (.cell .int) .lss (nth vs_8 0) t10_7) fun t12_9 =>
    condM t12_9 (
    b44_p0 F28 F29 F38 F45 F46 F47 F48 F49 F50 a1 a0 vs_8) (
    M.pure (.exit 0 []))
def b44_p2 (F28 F29 F38 F45 F46 F47 F48 F49 F50 : List Value → M Value) (a1 : Value) (a0 : Value) (vs_24 : List Value) : M J :=
    M.bind (bumpC 2) fun b_26 =>
    M.bind (addOff 3 a1) fun t30_27 =>
    M.bind (ld1 t30_27) fun t31_28 =>
    M.bind (F28 [a0]) fun t33_29 =>
    same (ld1 t30_27) t31_28 (
    M.bind (F45 [a0]) fun t35_30 =>
    same (ld1 t30_27) t31_28 (
    M.bind (F47 [a0]) fun t37_31 =>
    same (ld1 t30_27) t31_28 (
    M.bind (mkAgg [.string ⟨#[]⟩, .int .u8 0, .int .u64 0, .int .u64 0, .slice none 0 0] [(0, 1, t33_29), (1, 1, t35_30), (2, 3, t37_31)]) fun t38_32 =>
    M.bind (mkLitSl b_26 88 [.string ⟨#[]⟩, .int .u8 0, .int .u64 0, .int .u64 0, .slice none 0 0] 1 [(0, 5, t38_32)]) fun t39_33 =>
    M.bind (app (b_26 + 1) 88 5 64 t31_28 t39_33) fun t40_34 =>
    M.bind (addOff 3 a1) fun t41_35 =>
    M.bind (st1 t41_35 t40_34) fun tu_36 =>
    M.bind (bin (.cell .int) .add (nth vs_24 0) (Go.Value.int Go.IntKind.u8 1)) fun t42_37 =>
    M.pure (.norm [t42_37]))))
def b44_p3 (F28 F29 F38 F45 F46 F47 F48 F49 F50 : List Value → M Value) (t27_23 : Value) (a1 : Value) (a0 : Value) (vs_24 : List Value) : M J :=
    M.bind (bin (.cell .int) .lss (nth vs_24 0) t27_23) fun t29_25 =>
    condM t29_25 (
    b44_p2 F28 F29 F38 F45 F46 F47 F48 F49 F50 a1 a0 vs_24) (
    M.pure (.exit 2 []))
def b44_p4 (F28 F29 F38 F45 F46 F47 F48 F49 F50 : List Value → M Value) (a0 : Value) (a1 : Value) : M Value :=
    M.bind (F48 [a0]) fun t44_39 =>
    M.bind (F49 [t44_39]) fun t45_40 =>
    M.bind (addOff 4 a1) fun t46_41 =>
    M.bind (st1 t46_41 t45_40) fun tu_42 =>
    M.bind (ldN 5 a1) fun t47_43 =>
    M.bind (F38 [t47_43]) fun t48_44 =>
    M.bind (un .not t48_44) fun t49_45 =>
    M.bind (condM t49_45 (
    M.bind (F50 [a0, (Go.Value.int Go.IntKind.i64 23)]) fun t51_46 =>
    M.pure (.norm [])) (
    M.pure (.norm []))) (onJ (fun vs_47 =>
    M.pure (.tuple #[])) (fun _ _ => M.stuck) (fun _ => M.stuck))
def b44 (F28 F29 F38 F45 F46 F47 F48 F49 F50 : List Value → M Value) : Value → Value → M Value := fun a0 a1 =>

    M.bind (F29 [a0]) fun t4_1 =>
    M.bind (F29 [a0]) fun t6_2 =>
    M.bind (addOff 0 a1) fun t7_3 =>
    M.bind (st1 t7_3 t4_1) fun tu_4 =>
    M.bind (addOff 1 a1) fun t8_5 =>
    M.bind (st1 t8_5 t6_2) fun tu_6 =>
    M.bind (F45 [a0]) fun t10_7 =>
    M.bind (loopM (b44_p1 F28 F29 F38 F45 F46 F47 F48 F49 F50 t10_7 a1 a0) [(Go.Value.int Go.IntKind.u8 0)]) (onJ (fun _ => M.stuck) (fun id_22 vs_22 =>
    cond (Nat.beq id_22 0) (
    M.bind (F45 [a0]) fun t27_23 =>
    M.bind (loopM (b44_p3 F28 F29 F38 F45 F46 F47 F48 F49 F50 t27_23 a1 a0) [(Go.Value.int Go.IntKind.u8 0)]) (onJ (fun _ => M.stuck) (fun id_38 vs_38 =>
    cond (Nat.beq id_38 2) (
    b44_p4 F28 F29 F38 F45 F46 F47 F48 F49 F50 a0 a1) (M.stuck)) (fun _ => M.stuck))) (M.stuck)) (fun _ => M.stuck))
noncomputable def k44 : Value → Value → M Value := b44 f28 f29 f38 f45 f46 f47 f48 f49 f50
noncomputable def f44 : List Value → M Value := ar2 k44
theorem b44_eq (F28 F29 F38 F45 F46 F47 F48 F49 F50 : List Value → M Value) (a0 a1 : Value) : b44 F28 F29 F38 F45 F46 F47 F48 F49 F50 a0 a1 = execFn TTab (T44 F28 F29 F38 F45 F46 F47 F48 F49 F50) Go.Proofs.Tryd.f44 h44 [a0, a1] := by kernel_rfl
theorem k44_eq (a0 a1 : Value) : k44 a0 a1 = execFn TTab GT44 Go.Proofs.Tryd.f44 h44 [a0, a1] := b44_eq f28 f29 f38 f45 f46 f47 f48 f49 f50 a0 a1
theorem f44_sum : Summ Go.Proofs.Tryd.prog 44 f44 := summ_of_exec tok GT44_sum (draw_sound tok GT44_sum mixed) Go.Proofs.Tryd.func44 (by kernel_rfl) rfl h44 (ar2_eq k44_eq)
/-- mailcoach/codec.Hear$1 -/
def h56 : Hint := (.seq .nil (.seq (.seq .nil (.block (.loop [16] [0] [] none (.seq .nil (.seq (.cond .nil .nil) (.seq (.block (.seq .nil .nil)) .nil)))))) (.seq .nil (.seq (.seq .nil (.block (.loop [34] [2] [] none (.seq .nil (.seq (.cond .nil .nil) (.seq (.block (.seq .nil .nil)) .nil)))))) (.seq (.seq .nil (.block (.loop [47] [4] [] none (.seq .nil (.seq (.cond .nil .nil) (.seq (.block (.seq .nil .nil)) .nil)))))) (.seq .nil (.seq .nil (.block (.loop [61] [6] [] none (.seq .nil (.seq (.cond .nil .nil) (.seq (.block (.draw [0, 1, 2, 4, 3, 5, 6, 7, 8, 9, 10])) .nil))))))))))))
abbrev T56 (F28 F29 F30 F45 F46 F54 F57 : List Value → M Value) : FT := [(28, F28), (29, F29), (30, F30), (45, F45), (46, F46), (54, F54), (57, F57)]
noncomputable abbrev GT56 : FT := T56 f28 f29 f30 f45 f46 f54 f57
theorem GT56_sum : Summs Go.Proofs.Tryd.prog GT56 := summs_cons f28_sum (summs_cons f29_sum (summs_cons f30_sum (summs_cons f45_sum (summs_cons f46_sum (summs_cons f54_sum (summs_cons f57_sum (summs_nil)))))))
def b56_p0 (F28 F29 F30 F45 F46 F54 F57 : List Value → M Value) (t15_6 : Value) (t14_5 : Value) (a0 : Value) (vs_7 : List Value) : M J :=
    M.bind (bin (.cell .int) .lss (nth vs_7 0) t15_6) fun t17_8 =>
    condM t17_8 (
    M.bind (idxSl 1 t14_5 (nth vs_7 0)) fun t18_9 =>
    M.bind (ld1 t18_9) fun t19_10 =>
    M.bind (F45 [a0]) fun t22_11 =>
    M.bind (nilChk t19_10) fun t23_12 =>
    M.bind (st1 t23_12 t22_11) fun tu_13 =>
    M.bind (bin (.cell .int) .add (nth vs_7 0) (Go.Value.int Go.IntKind.i64 1)) fun t24_14 =>
    M.pure (.norm [t24_14])) (
    M.pure (.exit 0 []))
def b56_p1 (F28 F29 F30 F45 F46 F54 F57 : List Value → M Value) (t33_25 : Value) (t32_24 : Value) (t11_1 : Value) (vs_26 : List Value) : M J :=
    M.bind (bin (.cell .int) .lss (nth vs_26 0) t33_25) fun t35_27 =>
    condM t35_27 (
    M.bind (idxSl 1 t32_24 (nth vs_26 0)) fun t36_28 =>
    M.bind (ld1 t36_28) fun t37_29 =>
    M.bind (callV (T56 F28 F29 F30 F45 F46 F54 F57) t11_1 []) fun t40_30 =>
    M.bind (nilChk t37_29) fun t41_31 =>
    M.bind (st1 t41_31 t40_30) fun tu_32 =>
    M.bind (bin (.cell .int) .add (nth vs_26 0) (Go.Value.int Go.IntKind.i64 1)) fun t42_33 =>
    M.pure (.norm [t42_33])) (
    M.pure (.exit 2 []))
def b56_p2 (F28 F29 F30 F45 F46 F54 F57 : List Value → M Value) (t46_39 : Value) (t45_38 : Value) (a0 : Value) (vs_40 : List Value) : M J :=
    M.bind (bin (.cell .int) .lss (nth vs_40 0) t46_39) fun t48_41 =>
    condM t48_41 (
    M.bind (idxSl 1 t45_38 (nth vs_40 0)) fun t49_42 =>
    M.bind (ld1 t49_42) fun t50_43 =>
    M.bind (F28 [a0]) fun t53_44 =>
    M.bind (nilChk t50_43) fun t54_45 =>
    M.bind (st1 t54_45 t53_44) fun tu_46 =>
    M.bind (bin (.cell .int) .add (nth vs_40 0) (Go.Value.int Go.IntKind.i64 1)) fun t55_47 =>
    M.pure (.norm [t55_47])) (
    M.pure (.exit 4 []))
def b56_p3 (F28 F29 F30 F45 F46 F54 F57 : List Value → M Value) (a1 : Value) (t11_1 : Value) (a0 : Value) (vs_53 : List Value) : M J :=
    M.bind (bumpC 2) fun b_55 =>
    M.bind (addOff 14 a1) fun t63_56 =>
    M.bind (ld1 t63_56) fun t64_57 =>
    M.bind (callV (T56 F28 F29 F30 F45 F46 F54 F57) t11_1 []) fun t66_58 =>
    same (ld1 t63_56) t64_57 (
    M.bind (F30 [a0]) fun t68_59 =>
    same (ld1 t63_56) t64_57 (
    M.bind (mkAgg [.int .u64 0, .slice none 0 0] [(0, 1, t66_58), (1, 1, t68_59)]) fun t69_60 =>
    M.bind (mkLitSl b_55 58 [.int .u64 0, .slice none 0 0] 1 [(0, 2, t69_60)]) fun t70_61 =>
    M.bind (app (b_55 + 1) 58 2 32 t64_57 t70_61) fun t71_62 =>
    M.bind (addOff 14 a1) fun t72_63 =>
    M.bind (st1 t72_63 t71_62) fun tu_64 =>
    M.bind (bin (.cell .int) .add (nth vs_53 0) (Go.Value.int Go.IntKind.u16 1)) fun t73_65 =>
    M.pure (.norm [t73_65])))
def b56_p4 (F28 F29 F30 F45 F46 F54 F57 : List Value → M Value) (t60_52 : Value) (a1 : Value) (t11_1 : Value) (a0 : Value) (vs_53 : List Value) : M J :=
    M.bind (bin (.cell .int) .lss (nth vs_53 0) t60_52) fun t62_54 =>
    condM t62_54 (
    b56_p3 F28 F29 F30 F45 F46 F54 F57 a1 t11_1 a0 vs_53) (
    M.pure (.exit 6 []))
def b56_p5 (F28 F29 F30 F45 F46 F54 F57 : List Value → M Value) (a1 : Value) (a0 : Value) (t11_1 : Value) : M Value :=
    M.bind (bump 1) fun b_35 =>
    M.bind (addOff 11 a1) fun t43_36 =>
    M.bind (addOff 12 a1) fun t44_37 =>
    M.bind (mkLitSl b_35 124 [.pointer none] 2 [(0, 1, t43_36), (1, 1, t44_37)]) fun t45_38 =>
    M.bind (lenSl t45_38) fun t46_39 =>
    M.bind (loopM (b56_p2 F28 F29 F30 F45 F46 F54 F57 t46_39 t45_38 a0) [(Go.Value.int Go.IntKind.i64 0)]) (onJ (fun _ => M.stuck) (fun id_48 vs_48 =>
    cond (Nat.beq id_48 4) (
    M.bind (F30 [a0]) fun t57_49 =>
    M.bind (addOff 13 a1) fun t58_50 =>
    M.bind (st1 t58_50 t57_49) fun tu_51 =>
    M.bind (F57 [a0]) fun t60_52 =>
    M.bind (loopM (b56_p4 F28 F29 F30 F45 F46 F54 F57 t60_52 a1 t11_1 a0) [(Go.Value.int Go.IntKind.u16 0)]) (onJ (fun _ => M.stuck) (fun id_66 vs_66 =>
    cond (Nat.beq id_66 6) (
    M.pure (.tuple #[])) (M.stuck)) (fun _ => M.stuck))) (M.stuck)) (fun _ => M.stuck))
def b56_p6 (F28 F29 F30 F45 F46 F54 F57 : List Value → M Value) (a0 : Value) (a1 : Value) (t11_1 : Value) : M Value :=
    M.bind (bump 1) fun b_16 =>
    M.bind (F46 [a0]) fun t26_17 =>
    M.bind (F45 [a0]) fun t28_18 =>
    M.bind (cvInt .i64 t28_18) fun t29_19 =>
    M.bind (addOff 2 a1) fun t30_20 =>
    M.bind (st1 t30_20 t26_17) fun tu_21 =>
    M.bind (addOff 3 a1) fun t31_22 =>
    M.bind (st1 t31_22 t29_19) fun tu_23 =>
    M.bind (F54 [a1]) fun t32_24 =>
    M.bind (lenSl t32_24) fun t33_25 =>
    M.bind (loopM (b56_p1 F28 F29 F30 F45 F46 F54 F57 t33_25 t32_24 t11_1) [(Go.Value.int Go.IntKind.i64 0)]) (onJ (fun _ => M.stuck) (fun id_34 vs_34 =>
    cond (Nat.beq id_34 2) (
    b56_p5 F28 F29 F30 F45 F46 F54 F57 a1 a0 t11_1) (M.stuck)) (fun _ => M.stuck))
def b56 (F28 F29 F30 F45 F46 F54 F57 : List Value → M Value) : Value → Value → M Value := fun a0 a1 =>

    M.bind (M.pure (.func (Go.Fn.func 29) #[a0] #[])) fun t11_1 =>
    M.bind (bump 1) fun b_2 =>
    M.bind (addOff 0 a1) fun t12_3 =>
    M.bind (addOff 1 a1) fun t13_4 =>
    M.bind (mkLitSl b_2 122 [.pointer none] 2 [(0, 1, t12_3), (1, 1, t13_4)]) fun t14_5 =>
    M.bind (lenSl t14_5) fun t15_6 =>
    M.bind (loopM (b56_p0 F28 F29 F30 F45 F46 F54 F57 t15_6 t14_5 a0) [(Go.Value.int Go.IntKind.i64 0)]) (onJ (fun _ => M.stuck) (fun id_15 vs_15 =>
    cond (Nat.beq id_15 0) (
    b56_p6 F28 F29 F30 F45 F46 F54 F57 a0 a1 t11_1) (M.stuck)) (fun _ => M.stuck))
noncomputable def k56 : Value → Value → M Value := b56 f28 f29 f30 f45 f46 f54 f57
noncomputable def f56 : List Value → M Value := ar2 k56
theorem b56_eq (F28 F29 F30 F45 F46 F54 F57 : List Value → M Value) (a0 a1 : Value) : b56 F28 F29 F30 F45 F46 F54 F57 a0 a1 = execFn TTab (T56 F28 F29 F30 F45 F46 F54 F57) Go.Proofs.Tryd.f56 h56 [a0, a1] := by kernel_rfl
theorem k56_eq (a0 a1 : Value) : k56 a0 a1 = execFn TTab GT56 Go.Proofs.Tryd.f56 h56 [a0, a1] := b56_eq f28 f29 f30 f45 f46 f54 f57 a0 a1
theorem f56_sum : Summ Go.Proofs.Tryd.prog 56 f56 := summ_of_exec tok GT56_sum (draw_sound tok GT56_sum mixed) Go.Proofs.Tryd.func56 (by kernel_rfl) rfl h56 (ar2_eq k56_eq)
/-- mailcoach/pack.Read -/
def h26_0 : Hint := .nil
def h26_1 : Hint := (.seq .nil (.seq .nil (.seq (.seq .nil (.cond (.seq .nil .nil) .nil)) (.seq .nil .nil))))
def h26_c : Hint := (.block (.seq .nil (.condJ [] [] [] none .nil (.seq .nil (.cond (.seq .nil .nil) (.seq .nil .nil))))))
def c26_0 : Code := (Go.Code.region 0 #[(Go.Oper.mk (some 4) (Go.Op.alloc 27) 0 "pack.go:105" #[] none)] false)
def c26_1 : Code := (Go.Code.seq (Go.Code.region 2 #[(Go.Oper.mk (some 7) (Go.Op.move (Go.Operand.tmp 0)) 23 "pack.go:115" #[] none), (Go.Oper.mk (some 8) (Go.Op.build 132 #[(0, (Go.Operand.tmp 7))]) 132 "pack.go:115" #[(Go.Edge.mk 0 Go.Ground.data)] none), (Go.Oper.mk (some 9) (Go.Op.box 132 (Go.Operand.tmp 8)) 74 "pack.go:115" #[(Go.Edge.mk 1 Go.Ground.data)] none), (Go.Oper.mk (some 5) (Go.Op.assign (Go.Operand.tmp 9)) 74 "pack.go:115" #[(Go.Edge.mk 2 Go.Ground.data), (Go.Edge.mk 0 Go.Ground.phase), (Go.Edge.mk 1 Go.Ground.phase), (Go.Edge.mk 2 Go.Ground.phase)] none)] false) (Go.Code.seq (Go.Code.region 3 #[(Go.Oper.mk (some 10) (Go.Op.move (Go.Operand.tmp 1)) 77 "pack.go:116" #[] none), (Go.Oper.mk (some 11) (Go.Op.move (Go.Operand.tmp 5)) 74 "pack.go:116" #[] none), (Go.Oper.mk (some 12) (Go.Op.call (Go.Call.mk (Go.Callee.value (Go.Operand.tmp 10)) #[(Go.Operand.tmp 11)] #[74])) 0 "pack.go:116" #[(Go.Edge.mk 0 Go.Ground.data), (Go.Edge.mk 1 Go.Ground.data)] none)] false) (Go.Code.seq (Go.Code.seq (Go.Code.region 4 #[(Go.Oper.mk (some 13) (Go.Op.move (Go.Operand.tmp 5)) 74 "pack.go:117" #[] none), (Go.Oper.mk (some 14) (Go.Op.nilCheck (Go.Operand.tmp 13)) 0 "pack.go:117" #[(Go.Edge.mk 0 Go.Ground.data)] none), (Go.Oper.mk (some 15) (Go.Op.fieldAddr 132 (Go.Operand.tmp 14) 0) 0 "pack.go:117" #[(Go.Edge.mk 1 Go.Ground.data)] none), (Go.Oper.mk (some 16) (Go.Op.load 23 (Go.Operand.tmp 15)) 23 "pack.go:117" #[(Go.Edge.mk 2 Go.Ground.data)] none), (Go.Oper.mk (some 17) (Go.Op.call (Go.Call.mk (Go.Callee.builtin Go.Builtin.len) #[(Go.Operand.tmp 16)] #[23])) 3 "pack.go:117" #[(Go.Edge.mk 3 Go.Ground.data)] none), (Go.Oper.mk (some 18) (Go.Op.binOp Go.BinOp.gtr 3 (Go.Operand.tmp 17) (Go.Operand.const (Go.Value.int Go.IntKind.i64 0)) 3) 4 "pack.go:117" #[(Go.Edge.mk 4 Go.Ground.data)] none)] false) (Go.Code.cond (Go.Operand.tmp 18) (Go.Code.seq (Go.Code.region 5 #[(Go.Oper.mk none (Go.Op.store 27 (Go.Operand.tmp 4) (Go.Operand.const (Go.Value.int Go.IntKind.i64 5))) 0 "pack.go:118" #[] none)] false) Go.Code.ret) Go.Code.skip)) (Go.Code.seq (Go.Code.region 6 #[(Go.Oper.mk none (Go.Op.store 27 (Go.Operand.tmp 4) (Go.Operand.const (Go.Value.int Go.IntKind.i64 0))) 0 "pack.go:120" #[] none)] false) Go.Code.ret))))
def c26_c : Code := (Go.Code.block 0 (Go.Code.seq (Go.Code.region 3 #[(Go.Oper.mk (some 6) (Go.Op.binOp Go.BinOp.eql 20 (Go.Operand.tmp 4) (Go.Operand.const Go.Value.nilIface) 20) 4 "pack.go:107" #[] none)] false) (Go.Code.cond (Go.Operand.tmp 6) (Go.Code.region 4 #[(Go.Oper.mk (some 1) (Go.Op.assign (Go.Operand.tmp 4)) 20 "pack.go:107" #[] none)] false) (Go.Code.seq (Go.Code.region 5 #[(Go.Oper.mk (some 7) (Go.Op.typeAssert (Go.Operand.tmp 4) 20 131 true) 0 "pack.go:107" #[] none), (Go.Oper.mk (some 8) (Go.Op.extract (Go.Operand.tmp 7) 1) 4 "pack.go:107" #[(Go.Edge.mk 0 Go.Ground.data)] none), (Go.Oper.mk (some 9) (Go.Op.extract (Go.Operand.tmp 7) 0) 131 "pack.go:107" #[(Go.Edge.mk 0 Go.Ground.data)] none)] false) (Go.Code.cond (Go.Operand.tmp 8) (Go.Code.seq (Go.Code.region 6 #[(Go.Oper.mk (some 2) (Go.Op.alloc 131) 0 "pack.go:107" #[] none), (Go.Oper.mk none (Go.Op.store 131 (Go.Operand.tmp 2) (Go.Operand.tmp 9)) 0 "pack.go:107" #[(Go.Edge.mk 0 Go.Ground.data), (Go.Edge.mk 0 Go.Ground.phase)] none)] false) (Go.Code.region 7 #[(Go.Oper.mk (some 10) (Go.Op.fieldAddr 131 (Go.Operand.tmp 2) 0) 0 "pack.go:110" #[] none), (Go.Oper.mk (some 11) (Go.Op.load 27 (Go.Operand.tmp 10)) 27 "pack.go:110" #[(Go.Edge.mk 0 Go.Ground.data)] none), (Go.Oper.mk none (Go.Op.store 27 (Go.Operand.tmp 0) (Go.Operand.tmp 11)) 0 "pack.go:110" #[(Go.Edge.mk 1 Go.Ground.data), (Go.Edge.mk 0 Go.Ground.phase), (Go.Edge.mk 1 Go.Ground.phase)] none)] false)) (Go.Code.seq (Go.Code.region 1 #[(Go.Oper.mk (some 3) (Go.Op.assign (Go.Operand.tmp 4)) 20 "pack.go:107" #[] none)] false) (Go.Code.region 2 #[(Go.Oper.mk (some 5) (Go.Op.move (Go.Operand.tmp 3)) 20 "pack.go:112" #[] none), (Go.Oper.mk none (Go.Op.panic (Go.Operand.tmp 5)) 0 "pack.go:112" #[(Go.Edge.mk 0 Go.Ground.data)] none)] false)))))))
def o26_1 : Oper := (Go.Oper.mk (some 6) (Go.Op.makeFunc (Go.Fn.func 60) #[] #[(Go.Operand.tmp 4)]) 1 "pack.go:106" #[] none)
def o26_2 : Oper := (Go.Oper.mk none (Go.Op.defer (Go.Call.mk (Go.Callee.value (Go.Operand.tmp 6)) #[] #[])) 0 "pack.go:106" #[(Go.Edge.mk 0 Go.Ground.data)] none)
def o26_3 : Oper := (Go.Oper.mk (some 4) (Go.Op.call (Go.Call.mk (Go.Callee.builtin Go.Builtin.recover) #[] #[])) 20 "pack.go:107" #[] none)
abbrev T26 (F27 F44 F56 : List Value → M Value) : FT := [(27, F27), (44, F44), (56, F56)]
noncomputable abbrev GT26 : FT := T26 f27 f44 f56
theorem GT26_sum : Summs Go.Proofs.Tryd.prog GT26 := summs_cons f27_sum (summs_cons f44_sum (summs_cons f56_sum (summs_nil)))
def b26 (F27 F44 F56 : List Value → M Value) : Value → Value → M Value := fun a0 a1 =>

    M.bind (bump 1) fun b_1 =>
    M.bind (newCells b_1 [.int .i64 0] 27) fun t4_2 =>
    deferM (
    M.bind (bump 1) fun b_3 =>
    M.bind (mkAgg [.slice none 0 0] [(0, 1, a0)]) fun t8_4 =>
    M.bind (newCells b_3 (Value.cells t8_4).toList 132) fun t9_5 =>
    M.bind (callV (T26 F27 F44 F56) a1 [t9_5]) fun t12_6 =>
    M.bind (nilChk t9_5) fun t14_7 =>
    M.bind (addOff 0 t14_7) fun t15_8 =>
    M.bind (ld1 t15_8) fun t16_9 =>
    M.bind (lenSl t16_9) fun t17_10 =>
    M.bind (bin (.cell .int) .gtr t17_10 (Go.Value.int Go.IntKind.i64 0)) fun t18_11 =>
    condM t18_11 (
    M.bind (st1 t4_2 (Go.Value.int Go.IntKind.i64 5)) fun tu_12 =>
    M.pure undefV) (
    M.bind (st1 t4_2 (Go.Value.int Go.IntKind.i64 0)) fun tu_13 =>
    M.pure undefV)) (fun rv_14 =>
    M.bind (isNilI false rv_14) fun t6_15 =>
    M.bind (condM t6_15 (
    M.pure (.norm [])) (
    M.bind (assertOk 131 (.agg #[.int .i64 0]) rv_14) fun t7_16 =>
    M.bind (extr 1 t7_16) fun t8_17 =>
    M.bind (extr 0 t7_16) fun t9_18 =>
    condM t8_17 (
    M.bind (bump 1) fun b_19 =>
    M.bind (newCells b_19 [.int .i64 0] 131) fun t2_20 =>
    M.bind (stN 1 t2_20 t9_18) fun tu_21 =>
    M.bind (addOff 0 t2_20) fun t10_22 =>
    M.bind (ld1 t10_22) fun t11_23 =>
    M.bind (st1 t4_2 t11_23) fun tu_24 =>
    M.pure (.norm [])) (
    M.bind (throwV rv_14) fun tu_25 =>
    M.pure (.norm [])))) (onJ (fun vs_26 =>
    M.pure undefV) (fun _ _ => M.stuck) (fun _ => M.stuck))) (ld1 t4_2)
noncomputable def k26 : Value → Value → M Value := b26 f27 f44 f56
noncomputable def f26 : List Value → M Value := ar2 k26
theorem b26_eq (F27 F44 F56 : List Value → M Value) (a0 a1 : Value) : b26 F27 F44 F56 a0 a1 = execD TTab (T26 F27 F44 F56) Go.Proofs.Tryd.f26.ntmps c26_0 h26_0 4 6 27 60 c26_1 h26_1 Go.Proofs.Tryd.f60.ntmps c26_c h26_c 4 [a0, a1] := by kernel_rfl
theorem k26_eq (a0 a1 : Value) : k26 a0 a1 = execD TTab (T26 f27 f44 f56) Go.Proofs.Tryd.f26.ntmps c26_0 h26_0 4 6 27 60 c26_1 h26_1 Go.Proofs.Tryd.f60.ntmps c26_c h26_c 4 [a0, a1] := b26_eq f27 f44 f56 a0 a1
theorem f26_sum : Summ Go.Proofs.Tryd.prog 26 f26 :=
  summ_of_defer (rid := 1) (rid' := 0) (fn := Go.Proofs.Tryd.f26) (fg := Go.Proofs.Tryd.f60) (o1 := o26_1) (o2 := o26_2) (o3 := o26_3) (r0 := c26_0) (rest := c26_1) (rc := c26_c) tok GT26_sum (draw_sound tok GT26_sum mixed) Go.Proofs.Tryd.func26 (by kernel_rfl) (by kernel_rfl) (g := 60) (t4 := 4) (t6 := 6) (ty := 27) rfl rfl rfl rfl rfl rfl (by decide) (by decide) (by decide) rfl
    (draw_sound tok GT26_sum mixed) Go.Proofs.Tryd.func60 (by kernel_rfl) (by kernel_rfl) rfl (t := 4) rfl rfl (by decide) rfl (by decide) h26_0 h26_1 h26_c (ar2_eq k26_eq)
/-- mailcoach/codec.Hear -/
def h19 : Hint := (.seq .nil (.seq .nil (.seq .nil (.seq (.seq .nil (.cond (.seq .nil .nil) .nil)) (.seq .nil .nil)))))
abbrev T19 (F26 F56 : List Value → M Value) : FT := [(26, F26), (56, F56)]
noncomputable abbrev GT19 : FT := T19 f26 f56
theorem GT19_sum : Summs Go.Proofs.Tryd.prog GT19 := summs_cons f26_sum (summs_cons f56_sum (summs_nil))
def b19 (F26 F56 : List Value → M Value) : Value → M Value := fun a0 =>

    M.bind (bump 1) fun b_1 =>
    M.bind (newCells b_1 [.int .u8 0, .int .u8 0, .bool false, .int .i64 0, .int .u64 0, .int .u64 0, .int .u64 0, .int .u64 0, .int .u64 0, .int .u64 0, .int .u64 0, .string ⟨#[]⟩, .string ⟨#[]⟩, .slice none 0 0, .slice none 0 0] 56) fun t2_2 =>
    M.bind (bump 1) fun b_3 =>
    M.bind (newCells b_3 [.int .u8 0, .int .u8 0, .bool false, .int .i64 0, .int .u64 0, .int .u64 0, .int .u64 0, .int .u64 0, .int .u64 0, .int .u64 0, .int .u64 0, .string ⟨#[]⟩, .string ⟨#[]⟩, .slice none 0 0, .slice none 0 0] 56) fun t4_4 =>
    M.bind (M.pure (.func (Go.Fn.func 56) #[] #[t4_4])) fun t7_5 =>
    M.bind (F26 [a0, t7_5]) fun t8_6 =>
    M.bind (bin (.cell .int) .neq t8_6 (Go.Value.int Go.IntKind.i64 0)) fun t10_7 =>
    condM t10_7 (
    M.bind (mkAgg [.int .u8 0, .int .u8 0, .bool false, .int .i64 0, .int .u64 0, .int .u64 0, .int .u64 0, .int .u64 0, .int .u64 0, .int .u64 0, .int .u64 0, .string ⟨#[]⟩, .string ⟨#[]⟩, .slice none 0 0, .slice none 0 0] []) fun t11_8 =>
    M.bind (stN 15 t2_2 t11_8) fun tu_9 =>
    M.bind (ldN 15 t2_2) fun tr_10 =>
    M.pure (.tuple #[tr_10, t8_6])) (
    M.bind (ldN 15 t4_4) fun t13_11 =>
    M.bind (stN 15 t2_2 t13_11) fun tu_12 =>
    M.bind (ldN 15 t2_2) fun tr_13 =>
    M.pure (.tuple #[tr_13, (Go.Value.int Go.IntKind.i64 0)]))
noncomputable def k19 : Value → M Value := b19 f26 f56
noncomputable def f19 : List Value → M Value := ar1 k19
theorem b19_eq (F26 F56 : List Value → M Value) (a0 : Value) : b19 F26 F56 a0 = execFn TTab (T19 F26 F56) Go.Proofs.Tryd.f19 h19 [a0] := by kernel_rfl
theorem k19_eq (a0 : Value) : k19 a0 = execFn TTab GT19 Go.Proofs.Tryd.f19 h19 [a0] := b19_eq f26 f56 a0
theorem f19_sum : Summ Go.Proofs.Tryd.prog 19 f19 := summ_of_exec tok GT19_sum (draw_sound tok GT19_sum mixed) Go.Proofs.Tryd.func19 (by kernel_rfl) rfl h19 (ar1_eq k19_eq)
/-- mailcoach/mailcoachlaw21.Awake -/
def h7 : Hint := (.seq .nil (.seq .nil (.seq .nil (.seq .nil (.seq (.draw [0, 1, 2, 3, 4, 5, 6, 7, 8, 9, 10, 11, 12, 13, 14, 15, 16, 17, 18, 19, 20, 21, 22, 23, 24]) .nil)))))
abbrev T7 (F15 F18 F19 : List Value → M Value) : FT := [(15, F15), (18, F18), (19, F19)]
noncomputable abbrev GT7 : FT := T7 f15 f18 f19
theorem GT7_sum : Summs Go.Proofs.Tryd.prog GT7 := summs_cons f15_sum (summs_cons f18_sum (summs_cons f19_sum (summs_nil)))
def b7 (F15 F18 F19 : List Value → M Value) : M Value := 
    M.bind (mkAgg [.int .u64 0, .int .u64 0, .slice none 0 0, .slice none 0 0, .slice none 0 0] []) fun t8_1 =>
    M.bind (F15 [t8_1]) fun t9_2 =>
    M.bind (extr 0 t9_2) fun t10_3 =>
    M.bind (extr 1 t9_2) fun t11_4 =>
    M.bind (mkAgg [.int .u8 0, .int .u8 0, .bool false, .int .i64 0, .int .u64 0, .int .u64 0, .int .u64 0, .int .u64 0, .int .u64 0, .int .u64 0, .int .u64 0, .string ⟨#[]⟩, .string ⟨#[]⟩, .slice none 0 0, .slice none 0 0] []) fun t13_5 =>
    M.bind (F18 [t13_5]) fun t14_6 =>
    M.bind (extr 0 t14_6) fun t15_7 =>
    M.bind (extr 1 t14_6) fun t16_8 =>
    M.bind (bump 2) fun b_9 =>
    M.bind (mkLitSl b_9 5 [.int .u8 0] 1 [(0, 1, (Go.Value.int Go.IntKind.u8 1))]) fun t18_10 =>
    M.bind (F19 [t18_10]) fun t19_11 =>
    M.bind (extr 0 t19_11) fun t20_12 =>
    M.bind (extr 1 t19_11) fun t21_13 =>
    M.bind (newCells (b_9 + 1) [.int .u8 0, .int .u8 0, .bool false, .int .i64 0, .int .u64 0, .int .u64 0, .int .u64 0, .int .u64 0, .int .u64 0, .int .u64 0, .int .u64 0, .string ⟨#[]⟩, .string ⟨#[]⟩, .slice none 0 0, .slice none 0 0] 56) fun t5_14 =>
    M.bind (stN 15 t5_14 t20_12) fun tu_15 =>
    M.bind (bumpC 6) fun b_16 =>
    M.bind (bin (.cell .int) .eql t11_4 (Go.Value.int Go.IntKind.i64 0)) fun t23_17 =>
    M.bind (guardM true t23_17 (M.pure t16_8)) fun t25_18 =>
    M.bind (guardM true t23_17 (bin (.cell .int) .eql t25_18 (Go.Value.int Go.IntKind.i64 0))) fun t26_19 =>
    M.bind (pick t23_17 t26_19 (Go.Value.bool false)) fun t27_20 =>
    M.bind (guardM true t27_20 (M.pure t21_13)) fun t29_21 =>
    M.bind (guardM true t27_20 (bin (.cell .int) .eql t29_21 (Go.Value.int Go.IntKind.i64 4))) fun t30_22 =>
    M.bind (pick t27_20 t30_22 (Go.Value.bool false)) fun t31_23 =>
    M.bind (guardM true t31_23 (M.pure t10_3)) fun t33_24 =>
    M.bind (guardM true t31_23 (cvString t33_24)) fun t34_25 =>
    M.bind (guardM true t31_23 (mkSl (b_16 + 1) 5 [.int .u8 0] 1 (Go.Value.int Go.IntKind.i64 19) (Go.Value.int Go.IntKind.i64 19))) fun t35_26 =>
    M.bind (guardM true t31_23 (cvString t35_26)) fun t36_27 =>
    M.bind (guardM true t31_23 (bin (.cell .str) .eql t34_25 t36_27)) fun t37_28 =>
    M.bind (pick t31_23 t37_28 (Go.Value.bool false)) fun t38_29 =>
    M.bind (guardM true t38_29 (M.pure t15_7)) fun t40_30 =>
    M.bind (guardM true t38_29 (cvString t40_30)) fun t41_31 =>
    M.bind (guardM true t38_29 (mkSl (b_16 + 4) 5 [.int .u8 0] 1 (Go.Value.int Go.IntKind.i64 74) (Go.Value.int Go.IntKind.i64 74))) fun t42_32 =>
    M.bind (guardM true t38_29 (cvString t42_32)) fun t43_33 =>
    M.bind (guardM true t38_29 (bin (.cell .str) .eql t41_31 t43_33)) fun t44_34 =>
    M.bind (pick t38_29 t44_34 (Go.Value.bool false)) fun t45_35 =>
    M.pure t45_35
noncomputable def k7 : M Value := b7 f15 f18 f19
noncomputable def f7 : List Value → M Value := ar0 k7
theorem b7_eq (F15 F18 F19 : List Value → M Value) : b7 F15 F18 F19  = execFn TTab (T7 F15 F18 F19) Go.Proofs.Tryd.f7 h7 [] := by kernel_rfl
theorem k7_eq : k7  = execFn TTab GT7 Go.Proofs.Tryd.f7 h7 [] := b7_eq f15 f18 f19 
theorem f7_sum : Summ Go.Proofs.Tryd.prog 7 f7 := summ_of_exec tok GT7_sum (draw_sound tok GT7_sum mixed) Go.Proofs.Tryd.func7 (by kernel_rfl) rfl h7 (ar0_eq (fun _ => k7_eq))
/-- mailcoach/codec.Lay -/
def h8 : Hint := (.seq .nil (.seq .nil (.seq .nil (.seq .nil (.seq .nil (.seq .nil (.seq (.seq .nil (.seq .nil (.cond (.seq .nil .nil) .nil))) (.seq .nil .nil))))))))
abbrev T8 (F20 F21 F22 F23 : List Value → M Value) : FT := [(20, F20), (21, F21), (22, F22), (23, F23)]
noncomputable abbrev GT8 : FT := T8 f20 f21 f22 f23
theorem GT8_sum : Summs Go.Proofs.Tryd.prog GT8 := summs_cons f20_sum (summs_cons f21_sum (summs_cons f22_sum (summs_cons f23_sum (summs_nil))))
def b8 (F20 F21 F22 F23 : List Value → M Value) : Value → M Value := fun a0 =>

    M.bind (bump 1) fun b_1 =>
    M.bind (newCells b_1 (Value.cells a0).toList 25) fun t1_2 =>
    M.bind (bump 1) fun b_3 =>
    M.bind (mkAgg [.slice none 0 0] []) fun t6_4 =>
    M.bind (newCells b_3 (Value.cells t6_4).toList 66) fun t7_5 =>
    M.bind (addOff 0 t1_2) fun t9_6 =>
    M.bind (ld1 t9_6) fun t10_7 =>
    M.bind (F20 [t7_5, t10_7]) fun t11_8 =>
    M.bind (addOff 1 t1_2) fun t13_9 =>
    M.bind (ld1 t13_9) fun t14_10 =>
    M.bind (F21 [t7_5, t14_10]) fun t15_11 =>
    M.bind (addOff 2 t1_2) fun t17_12 =>
    M.bind (ld1 t17_12) fun t18_13 =>
    M.bind (F20 [t7_5, t18_13]) fun t19_14 =>
    M.bind (addOff 3 t1_2) fun t21_15 =>
    M.bind (ld1 t21_15) fun t22_16 =>
    M.bind (F22 [t7_5, t22_16]) fun t23_17 =>
    M.bind (F23 [t7_5]) fun t25_18 =>
    M.bind (lenSl t25_18) fun t27_19 =>
    M.bind (bin (.cell .int) .leq t27_19 (Go.Value.int Go.IntKind.i64 256)) fun t28_20 =>
    condM t28_20 (
    M.pure (.tuple #[t25_18, (Go.Value.int Go.IntKind.i64 0)])) (
    M.pure (.tuple #[(Go.Value.slice none 0 0), (Go.Value.int Go.IntKind.i64 3)]))
noncomputable def k8 : Value → M Value := b8 f20 f21 f22 f23
noncomputable def f8 : List Value → M Value := ar1 k8
theorem b8_eq (F20 F21 F22 F23 : List Value → M Value) (a0 : Value) : b8 F20 F21 F22 F23 a0 = execFn TTab (T8 F20 F21 F22 F23) Go.Proofs.Tryd.f8 h8 [a0] := by kernel_rfl
theorem k8_eq (a0 : Value) : k8 a0 = execFn TTab GT8 Go.Proofs.Tryd.f8 h8 [a0] := b8_eq f20 f21 f22 f23 a0
theorem f8_sum : Summ Go.Proofs.Tryd.prog 8 f8 := summ_of_exec tok GT8_sum (draw_sound tok GT8_sum mixed) Go.Proofs.Tryd.func8 (by kernel_rfl) rfl h8 (ar1_eq k8_eq)
/-- mailcoach/mailcoachref01.Put -/
def h24 : Hint := (.seq .nil (.seq (.seq .nil (.block (.loop [0, 7] [0] [0] none (.seq (.seq .nil (.cond .nil .nil)) (.seq (.block (.seq .nil (.seq (.seq .nil (.block (.loop [8, 9] [2] [8] none (.seq (.seq .nil (.cond .nil .nil)) (.seq (.block .nil) .nil))))) .nil))) .nil))))) (.seq .nil .nil)))
abbrev T24 : FT := []
noncomputable abbrev GT24 : FT := T24 
theorem GT24_sum : Summs Go.Proofs.Tryd.prog GT24 := summs_nil
def b24 : Value → Value → Value → M Value := fun a0 a1 a2 =>

    M.bind (bin (.cell .int) .sub a2 (Go.Value.int Go.IntKind.i64 1)) fun t11_1 =>
    M.bind (loopM (fun vs_2 =>
    M.bind (bin (.cell .int) .geq (nth vs_2 1) (Go.Value.int Go.IntKind.i64 0)) fun t13_3 =>
    condM t13_3 (
    M.bind (loopM (fun vs_4 =>
    M.bind (bin (.cell .int) .lss (nth vs_4 1) (nth vs_2 1)) fun t19_5 =>
    condM t19_5 (
    M.bind (bin (.cell .int) .quo (nth vs_4 0) (Go.Value.int Go.IntKind.u64 256)) fun t23_6 =>
    M.bind (bin (.cell .int) .add (nth vs_4 1) (Go.Value.int Go.IntKind.i64 1)) fun t21_7 =>
    M.pure (.norm [t23_6, t21_7])) (
    M.pure (.exit 2 [(nth vs_4 0)]))) [a1, (Go.Value.int Go.IntKind.i64 0)]) (onJ (fun _ => M.stuck) (fun id_8 vs_8 =>
    cond (Nat.beq id_8 2) (
    M.bind (bump 3) fun b_9 =>
    M.bind (bin (.cell .int) .rem (nth vs_8 0) (Go.Value.int Go.IntKind.u64 256)) fun t26_10 =>
    M.bind (cvInt .u8 t26_10) fun t27_11 =>
    M.bind (mkLitSl (b_9 + 1) 5 [.int .u8 0] 1 [(0, 1, t27_11)]) fun t28_12 =>
    M.bind (app (b_9 + 2) 5 1 1 (nth vs_2 0) t28_12) fun t29_13 =>
    M.bind (bin (.cell .int) .sub (nth vs_2 1) (Go.Value.int Go.IntKind.i64 1)) fun t15_14 =>
    M.pure (.norm [t29_13, t15_14])) (M.stuck)) (fun _ => M.stuck))) (
    M.pure (.exit 0 [(nth vs_2 0)]))) [a0, t11_1]) (onJ (fun _ => M.stuck) (fun id_15 vs_15 =>
    cond (Nat.beq id_15 0) (
    M.pure (nth vs_15 0)) (M.stuck)) (fun _ => M.stuck))
noncomputable def k24 : Value → Value → Value → M Value := b24 
noncomputable def f24 : List Value → M Value := ar3 k24
theorem b24_eq (a0 a1 a2 : Value) : b24  a0 a1 a2 = execFn TTab (T24 ) Go.Proofs.Tryd.f24 h24 [a0, a1, a2] := by kernel_rfl
theorem k24_eq (a0 a1 a2 : Value) : k24 a0 a1 a2 = execFn TTab GT24 Go.Proofs.Tryd.f24 h24 [a0, a1, a2] := b24_eq  a0 a1 a2
theorem f24_sum : Summ Go.Proofs.Tryd.prog 24 f24 := summ_of_exec tok GT24_sum (draw_sound tok GT24_sum mixed) Go.Proofs.Tryd.func24 (by kernel_rfl) rfl h24 (ar3_eq k24_eq)
/-- mailcoach/mailcoachref01.PutBytes -/
def h25 : Hint := (.seq .nil (.seq .nil .nil))
abbrev T25 (F24 : List Value → M Value) : FT := [(24, F24)]
noncomputable abbrev GT25 : FT := T25 f24
theorem GT25_sum : Summs Go.Proofs.Tryd.prog GT25 := summs_cons f24_sum (summs_nil)
def b25 (F24 : List Value → M Value) : Value → Value → M Value := fun a0 a1 =>

    M.bind (bump 2) fun b_1 =>
    M.bind (lenSl a1) fun t7_2 =>
    M.bind (cvInt .u64 t7_2) fun t8_3 =>
    M.bind (F24 [a0, t8_3, (Go.Value.int Go.IntKind.i64 4)]) fun t9_4 =>
    M.bind (app (b_1 + 1) 5 1 1 t9_4 a1) fun t11_5 =>
    M.pure t11_5
noncomputable def k25 : Value → Value → M Value := b25 f24
noncomputable def f25 : List Value → M Value := ar2 k25
theorem b25_eq (F24 : List Value → M Value) (a0 a1 : Value) : b25 F24 a0 a1 = execFn TTab (T25 F24) Go.Proofs.Tryd.f25 h25 [a0, a1] := by kernel_rfl
theorem k25_eq (a0 a1 : Value) : k25 a0 a1 = execFn TTab GT25 Go.Proofs.Tryd.f25 h25 [a0, a1] := b25_eq f24 a0 a1
theorem f25_sum : Summ Go.Proofs.Tryd.prog 25 f25 := summ_of_exec tok GT25_sum (draw_sound tok GT25_sum mixed) Go.Proofs.Tryd.func25 (by kernel_rfl) rfl h25 (ar2_eq k25_eq)
/-- mailcoach/mailcoachref21.Entry -/
def h9 : Hint := (.seq .nil (.seq (.draw [0, 1, 2, 4, 5, 3, 6, 7]) (.seq (.draw [0, 1, 2, 3, 5, 6, 4, 7, 8]) (.seq (.seq .nil (.cond (.seq .nil .nil) .nil)) (.seq .nil .nil)))))
abbrev T9 (F24 F25 : List Value → M Value) : FT := [(24, F24), (25, F25)]
noncomputable abbrev GT9 : FT := T9 f24 f25
theorem GT9_sum : Summs Go.Proofs.Tryd.prog GT9 := summs_cons f24_sum (summs_cons f25_sum (summs_nil))
def b9 (F24 F25 : List Value → M Value) : Value → M Value := fun a0 =>

    M.bind (bump 1) fun b_1 =>
    M.bind (newCells b_1 (Value.cells a0).toList 25) fun t1_2 =>
    M.bind (bumpC 1) fun b_3 =>
    M.bind (addOff 0 t1_2) fun t5_4 =>
    M.bind (ld1 t5_4) fun t6_5 =>
    M.bind (cvBytes b_3 5 t6_5) fun t7_6 =>
    M.bind (addOff 1 t1_2) fun t9_7 =>
    M.bind (ld1 t9_7) fun t10_8 =>
    M.bind (F25 [(Go.Value.slice none 0 0), t7_6]) fun t8_9 =>
    same (ld1 t9_7) t10_8 (
    M.bind (F24 [t8_9, t10_8, (Go.Value.int Go.IntKind.i64 8)]) fun t11_10 =>
    M.bind (bumpC 1) fun b_11 =>
    M.bind (addOff 2 t1_2) fun t13_12 =>
    M.bind (ld1 t13_12) fun t14_13 =>
    M.bind (cvBytes b_11 5 t14_13) fun t15_14 =>
    M.bind (addOff 3 t1_2) fun t17_15 =>
    M.bind (ld1 t17_15) fun t18_16 =>
    M.bind (F25 [t11_10, t15_14]) fun t16_17 =>
    same (ld1 t17_15) t18_16 (
    M.bind (F25 [t16_17, t18_16]) fun t19_18 =>
    M.bind (lenSl t19_18) fun t21_19 =>
    M.bind (bin (.cell .int) .gtr t21_19 (Go.Value.int Go.IntKind.i64 256)) fun t22_20 =>
    condM t22_20 (
    M.pure (.tuple #[(Go.Value.slice none 0 0), (Go.Value.int Go.IntKind.i64 3)])) (
    M.pure (.tuple #[t19_18, (Go.Value.int Go.IntKind.i64 0)]))))
noncomputable def k9 : Value → M Value := b9 f24 f25
noncomputable def f9 : List Value → M Value := ar1 k9
theorem b9_eq (F24 F25 : List Value → M Value) (a0 : Value) : b9 F24 F25 a0 = execFn TTab (T9 F24 F25) Go.Proofs.Tryd.f9 h9 [a0] := by kernel_rfl
theorem k9_eq (a0 : Value) : k9 a0 = execFn TTab GT9 Go.Proofs.Tryd.f9 h9 [a0] := b9_eq f24 f25 a0
theorem f9_sum : Summ Go.Proofs.Tryd.prog 9 f9 := summ_of_exec tok GT9_sum (draw_sound tok GT9_sum mixed) Go.Proofs.Tryd.func9 (by kernel_rfl) rfl h9 (ar1_eq k9_eq)
/-- mailcoach/codec.Pick -/
def h10 : Hint := (.seq .nil (.seq .nil (.seq (.seq .nil (.seq .nil (.cond (.seq .nil .nil) .nil))) (.seq .nil .nil))))
abbrev T10 (F26 F27 : List Value → M Value) : FT := [(26, F26), (27, F27)]
noncomputable abbrev GT10 : FT := T10 f26 f27
theorem GT10_sum : Summs Go.Proofs.Tryd.prog GT10 := summs_cons f26_sum (summs_cons f27_sum (summs_nil))
def b10 (F26 F27 : List Value → M Value) : Value → M Value := fun a0 =>

    M.bind (bump 1) fun b_1 =>
    M.bind (newCells b_1 [.string ⟨#[]⟩, .int .u64 0, .string ⟨#[]⟩, .slice none 0 0] 25) fun t2_2 =>
    M.bind (bump 1) fun b_3 =>
    M.bind (newCells b_3 [.string ⟨#[]⟩, .int .u64 0, .string ⟨#[]⟩, .slice none 0 0] 25) fun t4_4 =>
    M.bind (M.pure (.func (Go.Fn.func 27) #[] #[t4_4])) fun t7_5 =>
    M.bind (F26 [a0, t7_5]) fun t8_6 =>
    M.bind (bin (.cell .int) .neq t8_6 (Go.Value.int Go.IntKind.i64 0)) fun t10_7 =>
    condM t10_7 (
    M.bind (mkAgg [.string ⟨#[]⟩, .int .u64 0, .string ⟨#[]⟩, .slice none 0 0] []) fun t11_8 =>
    M.bind (stN 4 t2_2 t11_8) fun tu_9 =>
    M.bind (ldN 4 t2_2) fun tr_10 =>
    M.pure (.tuple #[tr_10, t8_6])) (
    M.bind (ldN 4 t4_4) fun t13_11 =>
    M.bind (stN 4 t2_2 t13_11) fun tu_12 =>
    M.bind (ldN 4 t2_2) fun tr_13 =>
    M.pure (.tuple #[tr_13, (Go.Value.int Go.IntKind.i64 0)]))
noncomputable def k10 : Value → M Value := b10 f26 f27
noncomputable def f10 : List Value → M Value := ar1 k10
theorem b10_eq (F26 F27 : List Value → M Value) (a0 : Value) : b10 F26 F27 a0 = execFn TTab (T10 F26 F27) Go.Proofs.Tryd.f10 h10 [a0] := by kernel_rfl
theorem k10_eq (a0 : Value) : k10 a0 = execFn TTab GT10 Go.Proofs.Tryd.f10 h10 [a0] := b10_eq f26 f27 a0
theorem f10_sum : Summ Go.Proofs.Tryd.prog 10 f10 := summ_of_exec tok GT10_sum (draw_sound tok GT10_sum mixed) Go.Proofs.Tryd.func10 (by kernel_rfl) rfl h10 (ar1_eq k10_eq)
/-- (*mailcoach/mailcoachref01.Reader).Number -/
def h32 : Hint := (.seq .nil (.seq (.seq .nil (.condJ [] [] [] none .nil .nil)) (.seq (.seq .nil (.cond (.seq .nil .nil) .nil)) (.seq .nil (.seq (.seq .nil (.block (.loop [5, 6] [0] [5] none (.seq (.seq .nil (.cond .nil .nil)) (.seq (.block .nil) .nil))))) (.seq .nil (.seq .nil .nil)))))))
abbrev T32 : FT := []
noncomputable abbrev GT32 : FT := T32 
theorem GT32_sum : Summs Go.Proofs.Tryd.prog GT32 := summs_nil
def b32 : Value → Value → M Value := fun a0 a1 =>

    M.bind (nilChk a0) fun t8_1 =>
    M.bind (addOff 1 t8_1) fun t9_2 =>
    M.bind (ld1 t9_2) fun t10_3 =>
    M.bind (bin (.cell .int) .eql t10_3 (Go.Value.int Go.IntKind.i64 0)) fun t11_4 =>
    M.bind (guardM true t11_4 (M.pure a0)) fun t13_5 =>
    M.bind (guardM true t11_4 (nilChk t13_5)) fun t14_6 =>
    M.bind (guardM true t11_4 (addOff 0 t14_6)) fun t15_7 =>
    M.bind (guardM true t11_4 (ld1 t15_7)) fun t16_8 =>
    M.bind (guardM true t11_4 (lenSl t16_8)) fun t17_9 =>
    M.bind (guardM true t11_4 (M.pure a1)) fun t18_10 =>
    M.bind (guardM true t11_4 (bin (.cell .int) .lss t17_9 t18_10)) fun t19_11 =>
    M.bind (pick t11_4 t19_11 (Go.Value.bool false)) fun t20_12 =>
    M.bind (condM t20_12 (
    M.bind (nilChk a0) fun t22_13 =>
    M.bind (addOff 1 t22_13) fun t23_14 =>
    M.bind (st1 t23_14 (Go.Value.int Go.IntKind.i64 4)) fun tu_15 =>
    M.pure (.norm [])) (
    M.pure (.norm []))) (onJ (fun vs_16 =>
    M.bind (nilChk a0) fun t25_17 =>
    M.bind (addOff 1 t25_17) fun t26_18 =>
    M.bind (ld1 t26_18) fun t27_19 =>
    M.bind (bin (.cell .int) .neq t27_19 (Go.Value.int Go.IntKind.i64 0)) fun t28_20 =>
    condM t28_20 (
    M.pure (Go.Value.int Go.IntKind.u64 0)) (
    M.bind (loopM (fun vs_21 =>
    M.bind (bin (.cell .int) .lss (nth vs_21 1) a1) fun t31_22 =>
    condM t31_22 (
    M.bind (bump 1) fun b_23 =>
    M.bind (bin (.cell .int) .mul (nth vs_21 0) (Go.Value.int Go.IntKind.u64 256)) fun t35_24 =>
    M.bind (nilChk a0) fun t37_25 =>
    M.bind (addOff 0 t37_25) fun t38_26 =>
    M.bind (ld1 t38_26) fun t39_27 =>
    M.bind (idxSl 1 t39_27 (nth vs_21 1)) fun t41_28 =>
    M.bind (ld1 t41_28) fun t42_29 =>
    M.bind (cvInt .u64 t42_29) fun t43_30 =>
    M.bind (bin (.cell .int) .add t35_24 t43_30) fun t44_31 =>
    M.bind (bin (.cell .int) .add (nth vs_21 1) (Go.Value.int Go.IntKind.i64 1)) fun t33_32 =>
    M.pure (.norm [t44_31, t33_32])) (
    M.pure (.exit 0 [(nth vs_21 0)]))) [(Go.Value.int Go.IntKind.u64 0), (Go.Value.int Go.IntKind.i64 0)]) (onJ (fun _ => M.stuck) (fun id_33 vs_33 =>
    cond (Nat.beq id_33 0) (
    M.bind (nilChk a0) fun t47_34 =>
    M.bind (addOff 0 t47_34) fun t48_35 =>
    M.bind (ld1 t48_35) fun t49_36 =>
    M.bind (slSl 1 t49_36 (some a1) none none) fun t51_37 =>
    M.bind (nilChk a0) fun t52_38 =>
    M.bind (addOff 0 t52_38) fun t53_39 =>
    M.bind (st1 t53_39 t51_37) fun tu_40 =>
    M.pure (nth vs_33 0)) (M.stuck)) (fun _ => M.stuck)))) (fun _ _ => M.stuck) (fun _ => M.stuck))
noncomputable def k32 : Value → Value → M Value := b32 
noncomputable def f32 : List Value → M Value := ar2 k32
theorem b32_eq (a0 a1 : Value) : b32  a0 a1 = execFn TTab (T32 ) Go.Proofs.Tryd.f32 h32 [a0, a1] := by kernel_rfl
theorem k32_eq (a0 a1 : Value) : k32 a0 a1 = execFn TTab GT32 Go.Proofs.Tryd.f32 h32 [a0, a1] := b32_eq  a0 a1
theorem f32_sum : Summ Go.Proofs.Tryd.prog 32 f32 := summ_of_exec tok GT32_sum (draw_sound tok GT32_sum mixed) Go.Proofs.Tryd.func32 (by kernel_rfl) rfl h32 (ar2_eq k32_eq)
/-- (*mailcoach/mailcoachref01.Reader).Bytes -/
def h33 : Hint := (.seq .nil (.seq .nil (.seq (.seq .nil (.condJ [] [] [] none .nil .nil)) (.seq (.seq .nil (.cond (.seq .nil .nil) .nil)) (.seq .nil (.seq .nil (.seq .nil .nil)))))))
abbrev T33 (F32 : List Value → M Value) : FT := [(32, F32)]
noncomputable abbrev GT33 : FT := T33 f32
theorem GT33_sum : Summs Go.Proofs.Tryd.prog GT33 := summs_cons f32_sum (summs_nil)
def b33 (F32 : List Value → M Value) : Value → M Value := fun a0 =>

    M.bind (F32 [a0, (Go.Value.int Go.IntKind.i64 4)]) fun t6_1 =>
    M.bind (bump 1) fun b_2 =>
    M.bind (nilChk a0) fun t8_3 =>
    M.bind (addOff 1 t8_3) fun t9_4 =>
    M.bind (ld1 t9_4) fun t10_5 =>
    M.bind (bin (.cell .int) .eql t10_5 (Go.Value.int Go.IntKind.i64 0)) fun t11_6 =>
    M.bind (guardM true t11_6 (M.pure t6_1)) fun t13_7 =>
    M.bind (guardM true t11_6 (M.pure a0)) fun t14_8 =>
    M.bind (guardM true t11_6 (nilChk t14_8)) fun t15_9 =>
    M.bind (guardM true t11_6 (addOff 0 t15_9)) fun t16_10 =>
    M.bind (guardM true t11_6 (ld1 t16_10)) fun t17_11 =>
    M.bind (guardM true t11_6 (lenSl t17_11)) fun t18_12 =>
    M.bind (guardM true t11_6 (cvInt .u64 t18_12)) fun t19_13 =>
    M.bind (guardM true t11_6 (bin (.cell .int) .gtr t13_7 t19_13)) fun t20_14 =>
    M.bind (pick t11_6 t20_14 (Go.Value.bool false)) fun t21_15 =>
    M.bind (condM t21_15 (
    M.bind (nilChk a0) fun t23_16 =>
    M.bind (addOff 1 t23_16) fun t24_17 =>
    M.bind (st1 t24_17 (Go.Value.int Go.IntKind.i64 4)) fun tu_18 =>
    M.pure (.norm [])) (
    M.pure (.norm []))) (onJ (fun vs_19 =>
    M.bind (nilChk a0) fun t26_20 =>
    M.bind (addOff 1 t26_20) fun t27_21 =>
    M.bind (ld1 t27_21) fun t28_22 =>
    M.bind (bin (.cell .int) .neq t28_22 (Go.Value.int Go.IntKind.i64 0)) fun t29_23 =>
    condM t29_23 (
    M.pure (Go.Value.slice none 0 0)) (
    M.bind (nilChk a0) fun t31_24 =>
    M.bind (addOff 0 t31_24) fun t32_25 =>
    M.bind (ld1 t32_25) fun t33_26 =>
    M.bind (slSl 1 t33_26 none (some t6_1) none) fun t35_27 =>
    M.bind (nilChk a0) fun t38_28 =>
    M.bind (addOff 0 t38_28) fun t39_29 =>
    M.bind (ld1 t39_29) fun t40_30 =>
    M.bind (slSl 1 t40_30 (some t6_1) none none) fun t42_31 =>
    M.bind (nilChk a0) fun t43_32 =>
    M.bind (addOff 0 t43_32) fun t44_33 =>
    M.bind (st1 t44_33 t42_31) fun tu_34 =>
    M.pure t35_27)) (fun _ _ => M.stuck) (fun _ => M.stuck))
noncomputable def k33 : Value → M Value := b33 f32
noncomputable def f33 : List Value → M Value := ar1 k33
theorem b33_eq (F32 : List Value → M Value) (a0 : Value) : b33 F32 a0 = execFn TTab (T33 F32) Go.Proofs.Tryd.f33 h33 [a0] := by kernel_rfl
theorem k33_eq (a0 : Value) : k33 a0 = execFn TTab GT33 Go.Proofs.Tryd.f33 h33 [a0] := b33_eq f32 a0
theorem f33_sum : Summ Go.Proofs.Tryd.prog 33 f33 := summ_of_exec tok GT33_sum (draw_sound tok GT33_sum mixed) Go.Proofs.Tryd.func33 (by kernel_rfl) rfl h33 (ar1_eq k33_eq)
end Go.Vm.Tryd
end
