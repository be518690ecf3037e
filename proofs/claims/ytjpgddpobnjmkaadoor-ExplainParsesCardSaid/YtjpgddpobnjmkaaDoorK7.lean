/-
  MADE BY PROGRAM (wip/gen/gen.py): functions 53 44 34 37 29 28 36 27 6 10 15 20 31 32 as marked code, and their claims written out.
-/
import Derived.Test.YtjpgddpobnjmkaaDoorK6
import Derived.KernelRfl
set_option linter.unusedSimpArgs false
set_option linter.unusedVariables false
set_option linter.unusedSectionVars false
namespace Go.Proofs.YtjpgddpobnjmkaaDoor
open Go.Clo
set_option maxRecDepth 100000
/-! 53: ordinal/ordinalref56.letter -/
def d53 : D :=
  (.seq
    (.ops [
        (none, [⟨none, some 2, .p (.mv (.c (.bool false)))⟩])] (.one .nil))
    (.seq
      (.ops [
          (none, [⟨none, some 3, .p (.mv (.s 0))⟩,
          ⟨none, some 4, .p (.bin .geq (.s 3) (.c (.int .u8 65)))⟩,
          ⟨none, some 5, .p (.mv (.s 4))⟩]),
          (some (5, true), [⟨none, some 6, .p (.mv (.s 0))⟩,
          ⟨none, some 7, .p (.bin .leq (.s 6) (.c (.int .u8 90)))⟩]),
          (none, [⟨none, some 8, .p (.pick (.s 5) (.s 7) (.c (.bool false)))⟩,
          ⟨none, some 9, .p (.mv (.s 8))⟩]),
          (some (9, false), [⟨none, some 10, .p (.mv (.s 0))⟩,
          ⟨none, some 11, .p (.bin .geq (.s 10) (.c (.int .u8 97)))⟩,
          ⟨none, some 12, .p (.mv (.s 11))⟩]),
          (some (12, true), [⟨none, some 13, .p (.mv (.s 0))⟩,
          ⟨none, some 14, .p (.bin .leq (.s 13) (.c (.int .u8 122)))⟩]),
          (some (9, false), [⟨none, some 15, .p (.pick (.s 12) (.s 14) (.c (.bool false)))⟩]),
          (none, [⟨none, some 16, .p (.pick (.s 9) (.c (.bool true)) (.s 15))⟩,
          ⟨none, some 2, .p (.mv (.s 16))⟩])] (.one (.tst (.one (.tst (.tst (.one (.one .nil)) (.one (.one .nil))) (.one (.one (.one .nil))))) (.one (.one (.tst (.one (.one .nil)) (.one (.one .nil))))))))
      .ret))
theorem cfn53 : cfn Tryd.prog 53 = some ⟨17, 5, d53.erase, [(.s 2, none)]⟩ := by kernel_rfl
theorem ok53 : d53.ok 17 5 = true := by kernel_rfl
noncomputable def F53 (a0 : Value) (H : Heap) (nx : Nat) (k : EP) : Prop :=
  wBin .geq a0 (.int .u8 65) fun t4_1 =>
  wGuard true t4_1 (
    wBin .leq a0 (.int .u8 90) fun t7_2 =>
    wGuard false t7_2 (
      wBin .geq a0 (.int .u8 97) fun t11_3 =>
      wGuard true t11_3 (
        wBin .leq a0 (.int .u8 122) fun t14_4 =>
          forceV t14_4 fun tv_5 => k tv_5 H nx) (
          forceV (.bool false) fun tv_6 => k tv_6 H nx)) (
          forceV (.bool true) fun tv_7 => k tv_7 H nx)) (
      wBin .geq a0 (.int .u8 97) fun t11_8 =>
      wGuard true t11_8 (
        wBin .leq a0 (.int .u8 122) fun t14_9 =>
          forceV t14_9 fun tv_10 => k tv_10 H nx) (
          forceV (.bool false) fun tv_11 => k tv_11 H nx))
theorem eq53 (a0 : Value) (H : Heap) (nx : Nat) (k : EP) : wBody Tryd.prog 17 5 d53 [(.s 2, none)] [a0] H nx k = F53 a0 H nx k := by kernel_rfl
theorem spec53 {a0 : Value} {H : Heap} {nx : Nat} {k : EP} (h : F53 a0 H nx k) : Ans Tryd.prog 53 [a0] H nx k :=
  spec_of_body mixed namesOK cfn53 ok53 (by simp) ((eq53 a0 H nx k).symm ▸ h)

/-! 44: ordinal/ordinalref56.plain -/
def d44 : D :=
  (.seq
    (.ops [
        (none, [⟨none, some 2, .p (.mv (.c (.bool false)))⟩])] (.one .nil))
    (.seq
      (.join [17] [4, 5, 6, 7, 8, 9, 10, 11, 12, 13, 14, 15, 16]
        (.ops [
            (none, [⟨none, some 4, .p (.mv (.s 0))⟩,
            ⟨none, some 5, .r (.len (.s 4) 1)⟩,
            ⟨none, some 6, .p (.bin .lss (.s 5) (.c (.int .i64 1)))⟩,
            ⟨none, some 7, .p (.mv (.s 6))⟩]),
            (some (7, false), [⟨none, some 8, .p (.mv (.s 0))⟩,
            ⟨none, some 9, .r (.len (.s 8) 1)⟩,
            ⟨none, some 10, .p (.bin .gtr (.s 9) (.c (.int .i64 16)))⟩]),
            (none, [⟨none, some 11, .p (.pick (.s 7) (.c (.bool true)) (.s 10))⟩,
            ⟨none, some 12, .p (.mv (.s 11))⟩]),
            (some (12, false), [⟨none, some 13, .p (.mv (.s 0))⟩,
            ⟨none, some 14, .p (.vf .sidx [.s 13, .c (.int .i64 0)])⟩,
            ⟨none, some 15, .e (.call (.c (.func (.func 53) ⟨[]⟩ ⟨[]⟩)) [.s 14])⟩,
            ⟨none, some 16, .p (.un .not (.s 15))⟩]),
            (none, [⟨none, some 17, .p (.pick (.s 12) (.c (.bool true)) (.s 16))⟩])] (.one (.tst (.one (.tst (.one .nil) (.one .nil))) (.one (.one (.one .nil))))))
        (.cond (.s 17)
          (.seq
            (.ops [
                (none, [⟨none, some 2, .p (.mv (.c (.bool false)))⟩])] (.one .nil))
            .ret)
          .skip))
      (.seq
        (.seq
          (.ops [
              (none, [⟨none, some 3, .p (.mv (.c (.int .i64 1)))⟩])] (.one .nil))
          (.block 0
            (.loop [3] [2, 18, 19, 20, 21, 22, 23, 24, 25, 26, 27, 28, 29, 30, 31, 32, 33, 34, 35, 36, 37, 38, 39, 40, 41, 42, 43, 44, 45, 46, 47]
              (.seq
                (.seq
                  (.ops [
                      (none, [⟨none, some 18, .p (.mv (.s 3))⟩,
                      ⟨none, some 19, .p (.mv (.s 0))⟩,
                      ⟨none, some 20, .r (.len (.s 19) 1)⟩,
                      ⟨none, some 21, .p (.bin .lss (.s 18) (.s 20))⟩])] (.one .nil))
                  (.cond (.s 21)
                    .skip
                    (.exit 0)))
                (.seq
                  (.block 1
                    (.join [47] [24, 25, 26, 27, 28, 29, 30, 31, 32, 33, 34, 35, 36, 37, 38, 39, 40, 41, 42, 43, 44, 45, 46]
                      (.ops [
                          (none, [⟨none, some 24, .p (.mv (.s 0))⟩,
                          ⟨none, some 25, .p (.mv (.s 3))⟩,
                          ⟨none, some 26, .p (.vf .sidx [.s 24, .s 25])⟩,
                          ⟨none, some 27, .e (.call (.c (.func (.func 53) ⟨[]⟩ ⟨[]⟩)) [.s 26])⟩,
                          ⟨none, some 28, .p (.un .not (.s 27))⟩,
                          ⟨none, some 29, .p (.mv (.s 28))⟩]),
                          (some (29, true), [⟨none, some 30, .p (.mv (.s 0))⟩,
                          ⟨none, some 31, .p (.mv (.s 3))⟩,
                          ⟨none, some 32, .p (.vf .sidx [.s 30, .s 31])⟩,
                          ⟨none, some 33, .p (.bin .geq (.s 32) (.c (.int .u8 48)))⟩,
                          ⟨none, some 34, .p (.mv (.s 33))⟩]),
                          (some (34, true), [⟨none, some 35, .p (.mv (.s 0))⟩,
                          ⟨none, some 36, .p (.mv (.s 3))⟩,
                          ⟨none, some 37, .p (.vf .sidx [.s 35, .s 36])⟩,
                          ⟨none, some 38, .p (.bin .leq (.s 37) (.c (.int .u8 57)))⟩]),
                          (some (29, true), [⟨none, some 39, .p (.pick (.s 34) (.s 38) (.c (.bool false)))⟩,
                          ⟨none, some 40, .p (.un .not (.s 39))⟩]),
                          (none, [⟨none, some 41, .p (.pick (.s 29) (.s 40) (.c (.bool false)))⟩,
                          ⟨none, some 42, .p (.mv (.s 41))⟩]),
                          (some (42, true), [⟨none, some 43, .p (.mv (.s 0))⟩,
                          ⟨none, some 44, .p (.mv (.s 3))⟩,
                          ⟨none, some 45, .p (.vf .sidx [.s 43, .s 44])⟩,
                          ⟨none, some 46, .p (.bin .neq (.s 45) (.c (.int .u8 95)))⟩]),
                          (none, [⟨none, some 47, .p (.pick (.s 42) (.s 46) (.c (.bool false)))⟩])] (.one (.tst (.tst (.one (.one (.tst (.one .nil) (.one .nil)))) (.one (.one (.tst (.one .nil) (.one .nil))))) (.one (.one (.one (.one (.one .nil))))))))
                      (.cond (.s 47)
                        (.seq
                          (.ops [
                              (none, [⟨none, some 2, .p (.mv (.c (.bool false)))⟩])] (.one .nil))
                          .ret)
                        .skip)))
                  (.ops [
                      (none, [⟨none, some 22, .p (.mv (.s 3))⟩,
                      ⟨none, some 23, .p (.bin .add (.s 22) (.c (.int .i64 1)))⟩,
                      ⟨none, some 3, .p (.mv (.s 23))⟩])] (.one .nil)))))))
        (.seq
          (.ops [
              (none, [⟨none, some 2, .p (.mv (.c (.bool true)))⟩])] (.one .nil))
          .ret))))
theorem cfn44 : cfn Tryd.prog 44 = some ⟨48, 6, d44.erase, [(.s 2, none)]⟩ := by kernel_rfl
theorem ok44 : d44.ok 48 6 = true := by kernel_rfl
noncomputable def F44 (a0 : Value) (H : Heap) (nx : Nat) (k : EP) : Prop :=
  wJoin (fun tj_1 =>
    wLen a0 1 H fun t5_3 =>
    wBin .lss t5_3 (.int .i64 1) fun t6_4 =>
    wGuard false t6_4 (
      wLen a0 1 H fun t9_5 =>
      wBin .gtr t9_5 (.int .i64 16) fun t10_6 =>
      wGuard false t10_6 (
        wVf .sidx [a0, (.int .i64 0)] fun t14_7 =>
        wCall Tryd.prog 53 [t14_7] H nx fun t15_8 H2 nx2 =>
        wUn .not t15_8 fun t16_9 =>
        tj_1 [t16_9] H2 nx2) (
        tj_1 [(.bool true)] H nx)) (
        tj_1 [(.bool true)] H nx)) (fun tL_2 H1 nx1 =>
    wIf (tL_2.getD 0 undef) (
      forceV (.bool false) fun tv_10 => k tv_10 H1 nx1) (
      wLoop (fun tih_11 tL_12 H3 nx3 =>
        wLen a0 1 H3 fun t20_13 =>
        wBin .lss (tL_12.getD 0 undef) t20_13 fun t21_14 =>
        wIf t21_14 (
          wJoin (fun tj_15 =>
            wVf .sidx [a0, (tL_12.getD 0 undef)] fun t26_17 =>
            wCall Tryd.prog 53 [t26_17] H3 nx3 fun t27_18 H5 nx5 =>
            wUn .not t27_18 fun t28_19 =>
            wGuard true t28_19 (
              wVf .sidx [a0, (tL_12.getD 0 undef)] fun t32_20 =>
              wBin .geq t32_20 (.int .u8 48) fun t33_21 =>
              wGuard true t33_21 (
                wVf .sidx [a0, (tL_12.getD 0 undef)] fun t37_22 =>
                wBin .leq t37_22 (.int .u8 57) fun t38_23 =>
                  wUn .not t38_23 fun t40_24 =>
                  wGuard true t40_24 (
                    wVf .sidx [a0, (tL_12.getD 0 undef)] fun t45_25 =>
                    wBin .neq t45_25 (.int .u8 95) fun t46_26 =>
                    tj_15 [t46_26] H5 nx5) (
                    tj_15 [(.bool false)] H5 nx5)) (
                  wUn .not (.bool false) fun t40_27 =>
                  wGuard true t40_27 (
                    wVf .sidx [a0, (tL_12.getD 0 undef)] fun t45_28 =>
                    wBin .neq t45_28 (.int .u8 95) fun t46_29 =>
                    tj_15 [t46_29] H5 nx5) (
                    tj_15 [(.bool false)] H5 nx5))) (
                    tj_15 [(.bool false)] H5 nx5)) (fun tL_16 H4 nx4 =>
            wIf (tL_16.getD 0 undef) (
              forceV (.bool false) fun tv_30 => k tv_30 H4 nx4) (
              wBin .add (tL_12.getD 0 undef) (.int .i64 1) fun t23_31 =>
              tih_11 [t23_31] H4 nx4))) (
          forceV (.bool true) fun tv_32 => k tv_32 H3 nx3)) [(.int .i64 1)] H1 nx1))
theorem eq44 (a0 : Value) (H : Heap) (nx : Nat) (k : EP) : wBody Tryd.prog 48 6 d44 [(.s 2, none)] [a0] H nx k = F44 a0 H nx k := by kernel_rfl
theorem spec44 {a0 : Value} {H : Heap} {nx : Nat} {k : EP} (h : F44 a0 H nx k) : Ans Tryd.prog 44 [a0] H nx k :=
  spec_of_body mixed namesOK cfn44 ok44 (by simp) ((eq44 a0 H nx k).symm ▸ h)

/-! 34: ordinal/ordinalref56.Valid -/
def d34 : D :=
  (.seq
    (.ops [
        (none, [⟨none, some 2, .p (.mv (.c (.bool false)))⟩])] (.one .nil))
    (.seq
      (.ops [
          (none, [⟨none, some 4, .p (.mv (.s 0))⟩,
          ⟨none, some 5, .r (.len (.s 4) 1)⟩,
          ⟨none, some 3, .p (.mv (.s 5))⟩])] (.one .nil))
      (.join [0] [6, 7, 8, 9, 10, 11, 12, 13, 14, 15, 16, 17, 18, 19, 20, 21, 22, 23, 24, 25, 26, 27, 28, 29, 30, 31, 32]
        (.join [28] [6, 7, 8, 9, 10, 11, 12, 13, 14, 15, 16, 17, 18, 19, 20, 21, 22, 23, 24, 25, 26, 27]
          (.ops [
              (none, [⟨none, some 6, .p (.mv (.s 3))⟩,
              ⟨none, some 7, .p (.bin .gtr (.s 6) (.c (.int .i64 2)))⟩,
              ⟨none, some 8, .p (.mv (.s 7))⟩]),
              (some (8, true), [⟨none, some 9, .p (.mv (.s 0))⟩,
              ⟨none, some 10, .p (.mv (.s 3))⟩,
              ⟨none, some 11, .p (.bin .sub (.s 10) (.c (.int .i64 2)))⟩,
              ⟨none, some 12, .p (.vf .sidx [.s 9, .s 11])⟩,
              ⟨none, some 13, .p (.bin .eql (.s 12) (.c (.int .u8 46)))⟩]),
              (none, [⟨none, some 14, .p (.pick (.s 8) (.s 13) (.c (.bool false)))⟩,
              ⟨none, some 15, .p (.mv (.s 14))⟩]),
              (some (15, true), [⟨none, some 16, .p (.mv (.s 0))⟩,
              ⟨none, some 17, .p (.mv (.s 3))⟩,
              ⟨none, some 18, .p (.bin .sub (.s 17) (.c (.int .i64 1)))⟩,
              ⟨none, some 19, .p (.vf .sidx [.s 16, .s 18])⟩,
              ⟨none, some 20, .p (.bin .geq (.s 19) (.c (.int .u8 49)))⟩]),
              (none, [⟨none, some 21, .p (.pick (.s 15) (.s 20) (.c (.bool false)))⟩,
              ⟨none, some 22, .p (.mv (.s 21))⟩]),
              (some (22, true), [⟨none, some 23, .p (.mv (.s 0))⟩,
              ⟨none, some 24, .p (.mv (.s 3))⟩,
              ⟨none, some 25, .p (.bin .sub (.s 24) (.c (.int .i64 1)))⟩,
              ⟨none, some 26, .p (.vf .sidx [.s 23, .s 25])⟩,
              ⟨none, some 27, .p (.bin .leq (.s 26) (.c (.int .u8 51)))⟩]),
              (none, [⟨none, some 28, .p (.pick (.s 22) (.s 27) (.c (.bool false)))⟩])] (.one (.tst (.one (.tst (.one (.tst (.one .nil) (.one .nil))) (.one (.one (.one .nil))))) (.one (.one (.one (.one (.one .nil))))))))
          (.cond (.s 28)
            (.ops [
                (none, [⟨none, some 29, .p (.mv (.s 0))⟩,
                ⟨none, some 30, .p (.mv (.s 3))⟩,
                ⟨none, some 31, .p (.bin .sub (.s 30) (.c (.int .i64 2)))⟩,
                ⟨none, some 32, .p (.vf (.ssl false true) [.s 29, .s 31])⟩,
                ⟨none, some 0, .p (.mv (.s 32))⟩])] (.one .nil))
            .skip))
        (.seq
          (.ops [
              (none, [⟨none, some 33, .p (.mv (.s 0))⟩,
              ⟨none, some 34, .e (.call (.c (.func (.func 44) ⟨[]⟩ ⟨[]⟩)) [.s 33])⟩,
              ⟨none, some 2, .p (.mv (.s 34))⟩])] (.one .nil))
          .ret))))
theorem cfn34 : cfn Tryd.prog 34 = some ⟨35, 6, d34.erase, [(.s 2, none)]⟩ := by kernel_rfl
theorem ok34 : d34.ok 35 6 = true := by kernel_rfl
noncomputable def F34 (a0 : Value) (H : Heap) (nx : Nat) (k : EP) : Prop :=
  wLen a0 1 H fun t5_1 =>
  wJoin (fun tj_2 =>
    wJoin (fun tj_4 =>
      wBin .gtr t5_1 (.int .i64 2) fun t7_6 =>
      wGuard true t7_6 (
        wBin .sub t5_1 (.int .i64 2) fun t11_7 =>
        wVf .sidx [a0, t11_7] fun t12_8 =>
        wBin .eql t12_8 (.int .u8 46) fun t13_9 =>
        wGuard true t13_9 (
          wBin .sub t5_1 (.int .i64 1) fun t18_10 =>
          wVf .sidx [a0, t18_10] fun t19_11 =>
          wBin .geq t19_11 (.int .u8 49) fun t20_12 =>
          wGuard true t20_12 (
            wBin .sub t5_1 (.int .i64 1) fun t25_13 =>
            wVf .sidx [a0, t25_13] fun t26_14 =>
            wBin .leq t26_14 (.int .u8 51) fun t27_15 =>
            tj_4 [t27_15] H nx) (
            tj_4 [(.bool false)] H nx)) (
            tj_4 [(.bool false)] H nx)) (
            tj_4 [(.bool false)] H nx)) (fun tL_5 H2 nx2 =>
      wIf (tL_5.getD 0 undef) (
        wBin .sub t5_1 (.int .i64 2) fun t31_16 =>
        wVf (.ssl false true) [a0, t31_16] fun t32_17 =>
        tj_2 [t32_17] H2 nx2) (
        tj_2 [a0] H2 nx2))) (fun tL_3 H1 nx1 =>
    wCall Tryd.prog 44 [(tL_3.getD 0 undef)] H1 nx1 fun t34_18 H3 nx3 =>
    forceV t34_18 fun tv_19 => k tv_19 H3 nx3)
theorem eq34 (a0 : Value) (H : Heap) (nx : Nat) (k : EP) : wBody Tryd.prog 35 6 d34 [(.s 2, none)] [a0] H nx k = F34 a0 H nx k := by kernel_rfl
theorem spec34 {a0 : Value} {H : Heap} {nx : Nat} {k : EP} (h : F34 a0 H nx k) : Ans Tryd.prog 34 [a0] H nx k :=
  spec_of_body mixed namesOK cfn34 ok34 (by simp) ((eq34 a0 H nx k).symm ▸ h)

/-! 37: ordinal/catalog.Valid -/
def d37 : D :=
  (.seq
    (.ops [
        (none, [⟨none, some 2, .p (.mv (.c (.bool false)))⟩])] (.one .nil))
    (.seq
      (.join [12] [6, 7, 8, 9, 10, 11]
        (.ops [
            (none, [⟨none, some 6, .p (.mv (.s 0))⟩,
            ⟨none, some 7, .p (.bin .eql (.s 6) (.c (.string ⟨#[]⟩)))⟩,
            ⟨none, some 8, .p (.mv (.s 7))⟩]),
            (some (8, false), [⟨none, some 9, .p (.mv (.s 0))⟩,
            ⟨none, some 10, .r (.len (.s 9) 1)⟩,
            ⟨none, some 11, .p (.bin .gtr (.s 10) (.c (.int .i64 16)))⟩]),
            (none, [⟨none, some 12, .p (.pick (.s 8) (.c (.bool true)) (.s 11))⟩])] (.one (.tst (.one .nil) (.one .nil))))
        (.cond (.s 12)
          (.seq
            (.ops [
                (none, [⟨none, some 2, .p (.mv (.c (.bool false)))⟩])] (.one .nil))
            .ret)
          .skip))
      (.seq
        (.seq
          (.ops [
              (none, [⟨none, some 13, .p (.mv (.s 0))⟩,
              ⟨none, some 14, .r (.len (.s 13) 1)⟩,
              ⟨none, some 15, .p (.mv (.c (.int .i64 0)))⟩])] (.one .nil))
          (.block 0
            (.loop [15] [2, 3, 4, 5, 16, 17, 18, 19, 20, 21, 22, 23, 24, 25, 26, 27, 28, 29, 30, 31, 32, 33, 34, 35, 36, 37, 38, 39, 40, 41, 42, 43, 44, 45, 46, 47, 48, 49, 50, 51, 52, 53]
              (.seq
                (.ops [
                    (none, [⟨none, some 16, .p (.bin .lss (.s 15) (.s 14))⟩])] (.one .nil))
                (.seq
                  (.cond (.s 16)
                    .skip
                    (.exit 0))
                  (.seq
                    (.block 1
                      (.seq
                        (.ops [
                            (none, [⟨none, some 17, .p (.mv (.s 15))⟩,
                            ⟨none, some 3, .p (.mv (.s 17))⟩])] (.one .nil))
                        (.seq
                          (.ops [
                              (none, [⟨none, some 18, .p (.mv (.s 0))⟩,
                              ⟨none, some 19, .p (.mv (.s 3))⟩,
                              ⟨none, some 20, .p (.vf .sidx [.s 18, .s 19])⟩,
                              ⟨none, some 4, .p (.mv (.s 20))⟩])] (.one .nil))
                          (.join [5] [21, 22, 23, 24, 25, 26, 27, 28, 29, 30, 31, 32, 33, 34]
                            (.ops [
                                (none, [⟨none, some 21, .p (.mv (.s 4))⟩,
                                ⟨none, some 22, .p (.bin .geq (.s 21) (.c (.int .u8 97)))⟩,
                                ⟨none, some 23, .p (.mv (.s 22))⟩]),
                                (some (23, true), [⟨none, some 24, .p (.mv (.s 4))⟩,
                                ⟨none, some 25, .p (.bin .leq (.s 24) (.c (.int .u8 122)))⟩]),
                                (none, [⟨none, some 26, .p (.pick (.s 23) (.s 25) (.c (.bool false)))⟩,
                                ⟨none, some 27, .p (.mv (.s 26))⟩]),
                                (some (27, false), [⟨none, some 28, .p (.mv (.s 4))⟩,
                                ⟨none, some 29, .p (.bin .geq (.s 28) (.c (.int .u8 65)))⟩,
                                ⟨none, some 30, .p (.mv (.s 29))⟩]),
                                (some (30, true), [⟨none, some 31, .p (.mv (.s 4))⟩,
                                ⟨none, some 32, .p (.bin .leq (.s 31) (.c (.int .u8 90)))⟩]),
                                (some (27, false), [⟨none, some 33, .p (.pick (.s 30) (.s 32) (.c (.bool false)))⟩]),
                                (none, [⟨none, some 34, .p (.pick (.s 27) (.c (.bool true)) (.s 33))⟩,
                                ⟨none, some 5, .p (.mv (.s 34))⟩])] (.one (.tst (.one (.tst (.tst (.one (.one .nil)) (.one (.one .nil))) (.one (.one (.one .nil))))) (.one (.one (.tst (.one (.one .nil)) (.one (.one .nil))))))))
                            (.join [52] [35, 36, 37, 38, 39, 40, 41, 42, 43, 44, 45, 46, 47, 48, 49, 50, 51]
                              (.ops [
                                  (none, [⟨none, some 35, .p (.mv (.s 5))⟩,
                                  ⟨none, some 36, .p (.un .not (.s 35))⟩,
                                  ⟨none, some 37, .p (.mv (.s 36))⟩]),
                                  (some (37, true), [⟨none, some 38, .p (.mv (.s 3))⟩,
                                  ⟨none, some 39, .p (.bin .eql (.s 38) (.c (.int .i64 0)))⟩,
                                  ⟨none, some 40, .p (.mv (.s 39))⟩]),
                                  (some (40, false), [⟨none, some 41, .p (.mv (.s 4))⟩,
                                  ⟨none, some 42, .p (.bin .neq (.s 41) (.c (.int .u8 95)))⟩,
                                  ⟨none, some 43, .p (.mv (.s 42))⟩]),
                                  (some (43, true), [⟨none, some 44, .p (.mv (.s 4))⟩,
                                  ⟨none, some 45, .p (.bin .lss (.s 44) (.c (.int .u8 48)))⟩,
                                  ⟨none, some 46, .p (.mv (.s 45))⟩]),
                                  (some (46, false), [⟨none, some 47, .p (.mv (.s 4))⟩,
                                  ⟨none, some 48, .p (.bin .gtr (.s 47) (.c (.int .u8 57)))⟩]),
                                  (some (43, true), [⟨none, some 49, .p (.pick (.s 46) (.c (.bool true)) (.s 48))⟩]),
                                  (some (40, false), [⟨none, some 50, .p (.pick (.s 43) (.s 49) (.c (.bool false)))⟩]),
                                  (some (37, true), [⟨none, some 51, .p (.pick (.s 40) (.c (.bool true)) (.s 50))⟩]),
                                  (none, [⟨none, some 52, .p (.pick (.s 37) (.s 51) (.c (.bool false)))⟩])] (.one (.tst (.tst (.tst (.tst (.one (.one (.one (.one .nil)))) (.one (.one (.one (.one .nil))))) (.one (.one (.one (.one (.one .nil)))))) (.one (.one (.one (.one (.one (.one .nil))))))) (.one (.one (.one (.one (.one (.one (.one .nil))))))))))
                              (.cond (.s 52)
                                (.seq
                                  (.ops [
                                      (none, [⟨none, some 2, .p (.mv (.c (.bool false)))⟩])] (.one .nil))
                                  .ret)
                                .skip))))))
                    (.ops [
                        (none, [⟨none, some 53, .p (.bin .add (.s 15) (.c (.int .i64 1)))⟩,
                        ⟨none, some 15, .p (.mv (.s 53))⟩])] (.one .nil))))))))
        (.seq
          (.ops [
              (none, [⟨none, some 2, .p (.mv (.c (.bool true)))⟩])] (.one .nil))
          .ret))))
theorem cfn37 : cfn Tryd.prog 37 = some ⟨54, 6, d37.erase, [(.s 2, none)]⟩ := by kernel_rfl
theorem ok37 : d37.ok 54 6 = true := by kernel_rfl
noncomputable def F37 (a0 : Value) (H : Heap) (nx : Nat) (k : EP) : Prop :=
  wJoin (fun tj_1 =>
    wBin .eql a0 (.string ⟨#[]⟩) fun t7_3 =>
    wGuard false t7_3 (
      wLen a0 1 H fun t10_4 =>
      wBin .gtr t10_4 (.int .i64 16) fun t11_5 =>
      tj_1 [t11_5] H nx) (
      tj_1 [(.bool true)] H nx)) (fun tL_2 H1 nx1 =>
    wIf (tL_2.getD 0 undef) (
      forceV (.bool false) fun tv_6 => k tv_6 H1 nx1) (
      wLen a0 1 H1 fun t14_7 =>
      wLoop (fun tih_8 tL_9 H2 nx2 =>
        wBin .lss (tL_9.getD 0 undef) t14_7 fun t16_10 =>
        wIf t16_10 (
          wVf .sidx [a0, (tL_9.getD 0 undef)] fun t20_11 =>
          wJoin (fun tj_12 =>
            wBin .geq t20_11 (.int .u8 97) fun t22_14 =>
            wGuard true t22_14 (
              wBin .leq t20_11 (.int .u8 122) fun t25_15 =>
              wGuard false t25_15 (
                wBin .geq t20_11 (.int .u8 65) fun t29_16 =>
                wGuard true t29_16 (
                  wBin .leq t20_11 (.int .u8 90) fun t32_17 =>
                    tj_12 [t32_17] H2 nx2) (
                    tj_12 [(.bool false)] H2 nx2)) (
                    tj_12 [(.bool true)] H2 nx2)) (
                wBin .geq t20_11 (.int .u8 65) fun t29_18 =>
                wGuard true t29_18 (
                  wBin .leq t20_11 (.int .u8 90) fun t32_19 =>
                    tj_12 [t32_19] H2 nx2) (
                    tj_12 [(.bool false)] H2 nx2))) (fun tL_13 H3 nx3 =>
            wJoin (fun tj_20 =>
              wUn .not (tL_13.getD 0 undef) fun t36_22 =>
              wGuard true t36_22 (
                wBin .eql (tL_9.getD 0 undef) (.int .i64 0) fun t39_23 =>
                wGuard false t39_23 (
                  wBin .neq t20_11 (.int .u8 95) fun t42_24 =>
                  wGuard true t42_24 (
                    wBin .lss t20_11 (.int .u8 48) fun t45_25 =>
                    wGuard false t45_25 (
                      wBin .gtr t20_11 (.int .u8 57) fun t48_26 =>
                            tj_20 [t48_26] H3 nx3) (
                            tj_20 [(.bool true)] H3 nx3)) (
                            tj_20 [(.bool false)] H3 nx3)) (
                            tj_20 [(.bool true)] H3 nx3)) (
                            tj_20 [(.bool false)] H3 nx3)) (fun tL_21 H4 nx4 =>
              wIf (tL_21.getD 0 undef) (
                forceV (.bool false) fun tv_27 => k tv_27 H4 nx4) (
                wBin .add (tL_9.getD 0 undef) (.int .i64 1) fun t53_28 =>
                tih_8 [t53_28] H4 nx4)))) (
          forceV (.bool true) fun tv_29 => k tv_29 H2 nx2)) [(.int .i64 0)] H1 nx1))
theorem eq37 (a0 : Value) (H : Heap) (nx : Nat) (k : EP) : wBody Tryd.prog 54 6 d37 [(.s 2, none)] [a0] H nx k = F37 a0 H nx k := by kernel_rfl
theorem spec37 {a0 : Value} {H : Heap} {nx : Nat} {k : EP} (h : F37 a0 H nx k) : Ans Tryd.prog 37 [a0] H nx k :=
  spec_of_body mixed namesOK cfn37 ok37 (by simp) ((eq37 a0 H nx k).symm ▸ h)

/-! 29: ordinal/explain.valid -/
def d29 : D :=
  (.seq
    (.ops [
        (none, [⟨none, some 2, .p (.mv (.c (.bool false)))⟩])] (.one .nil))
    (.join [0] [3, 4, 5, 6, 7, 8, 9, 10, 11, 12, 13, 14, 15, 16, 17, 18, 19, 20, 21, 22, 23, 24, 25, 26, 27, 28, 29, 30, 31]
      (.seq
        (.ops [
            (none, [⟨none, some 4, .p (.mv (.s 0))⟩,
            ⟨none, some 5, .r (.len (.s 4) 1)⟩,
            ⟨none, some 6, .p (.bin .sub (.s 5) (.c (.int .i64 2)))⟩,
            ⟨none, some 3, .p (.mv (.s 6))⟩])] (.one .nil))
        (.join [28] [7, 8, 9, 10, 11, 12, 13, 14, 15, 16, 17, 18, 19, 20, 21, 22, 23, 24, 25, 26, 27]
          (.ops [
              (none, [⟨none, some 7, .p (.mv (.s 3))⟩,
              ⟨none, some 8, .p (.bin .gtr (.s 7) (.c (.int .i64 0)))⟩,
              ⟨none, some 9, .p (.mv (.s 8))⟩]),
              (some (9, true), [⟨none, some 10, .p (.mv (.s 0))⟩,
              ⟨none, some 11, .p (.mv (.s 3))⟩,
              ⟨none, some 12, .p (.vf .sidx [.s 10, .s 11])⟩,
              ⟨none, some 13, .p (.bin .eql (.s 12) (.c (.int .u8 46)))⟩]),
              (none, [⟨none, some 14, .p (.pick (.s 9) (.s 13) (.c (.bool false)))⟩,
              ⟨none, some 15, .p (.mv (.s 14))⟩]),
              (some (15, true), [⟨none, some 16, .p (.mv (.s 0))⟩,
              ⟨none, some 17, .p (.mv (.s 3))⟩,
              ⟨none, some 18, .p (.bin .add (.s 17) (.c (.int .i64 1)))⟩,
              ⟨none, some 19, .p (.vf .sidx [.s 16, .s 18])⟩,
              ⟨none, some 20, .p (.bin .leq (.c (.int .u8 49)) (.s 19))⟩]),
              (none, [⟨none, some 21, .p (.pick (.s 15) (.s 20) (.c (.bool false)))⟩,
              ⟨none, some 22, .p (.mv (.s 21))⟩]),
              (some (22, true), [⟨none, some 23, .p (.mv (.s 0))⟩,
              ⟨none, some 24, .p (.mv (.s 3))⟩,
              ⟨none, some 25, .p (.bin .add (.s 24) (.c (.int .i64 1)))⟩,
              ⟨none, some 26, .p (.vf .sidx [.s 23, .s 25])⟩,
              ⟨none, some 27, .p (.bin .leq (.s 26) (.c (.int .u8 51)))⟩]),
              (none, [⟨none, some 28, .p (.pick (.s 22) (.s 27) (.c (.bool false)))⟩])] (.one (.tst (.one (.tst (.one (.tst (.one .nil) (.one .nil))) (.one (.one (.one .nil))))) (.one (.one (.one (.one (.one .nil))))))))
          (.cond (.s 28)
            (.ops [
                (none, [⟨none, some 29, .p (.mv (.s 0))⟩,
                ⟨none, some 30, .p (.mv (.s 3))⟩,
                ⟨none, some 31, .p (.vf (.ssl false true) [.s 29, .s 30])⟩,
                ⟨none, some 0, .p (.mv (.s 31))⟩])] (.one .nil))
            .skip)))
      (.seq
        (.ops [
            (none, [⟨none, some 32, .p (.mv (.s 0))⟩,
            ⟨none, some 33, .e (.call (.c (.func (.func 37) ⟨[]⟩ ⟨[]⟩)) [.s 32])⟩,
            ⟨none, some 2, .p (.mv (.s 33))⟩])] (.one .nil))
        .ret)))
theorem cfn29 : cfn Tryd.prog 29 = some ⟨34, 6, d29.erase, [(.s 2, none)]⟩ := by kernel_rfl
theorem ok29 : d29.ok 34 6 = true := by kernel_rfl
noncomputable def F29 (a0 : Value) (H : Heap) (nx : Nat) (k : EP) : Prop :=
  wJoin (fun tj_1 =>
    wLen a0 1 H fun t5_3 =>
    wBin .sub t5_3 (.int .i64 2) fun t6_4 =>
    wJoin (fun tj_5 =>
      wBin .gtr t6_4 (.int .i64 0) fun t8_7 =>
      wGuard true t8_7 (
        wVf .sidx [a0, t6_4] fun t12_8 =>
        wBin .eql t12_8 (.int .u8 46) fun t13_9 =>
        wGuard true t13_9 (
          wBin .add t6_4 (.int .i64 1) fun t18_10 =>
          wVf .sidx [a0, t18_10] fun t19_11 =>
          wBin .leq (.int .u8 49) t19_11 fun t20_12 =>
          wGuard true t20_12 (
            wBin .add t6_4 (.int .i64 1) fun t25_13 =>
            wVf .sidx [a0, t25_13] fun t26_14 =>
            wBin .leq t26_14 (.int .u8 51) fun t27_15 =>
            tj_5 [t27_15] H nx) (
            tj_5 [(.bool false)] H nx)) (
            tj_5 [(.bool false)] H nx)) (
            tj_5 [(.bool false)] H nx)) (fun tL_6 H2 nx2 =>
      wIf (tL_6.getD 0 undef) (
        wVf (.ssl false true) [a0, t6_4] fun t31_16 =>
        tj_1 [t31_16] H2 nx2) (
        tj_1 [a0] H2 nx2))) (fun tL_2 H1 nx1 =>
    wCall Tryd.prog 37 [(tL_2.getD 0 undef)] H1 nx1 fun t33_17 H3 nx3 =>
    forceV t33_17 fun tv_18 => k tv_18 H3 nx3)
theorem eq29 (a0 : Value) (H : Heap) (nx : Nat) (k : EP) : wBody Tryd.prog 34 6 d29 [(.s 2, none)] [a0] H nx k = F29 a0 H nx k := by kernel_rfl
theorem spec29 {a0 : Value} {H : Heap} {nx : Nat} {k : EP} (h : F29 a0 H nx k) : Ans Tryd.prog 29 [a0] H nx k :=
  spec_of_body mixed namesOK cfn29 ok29 (by simp) ((eq29 a0 H nx k).symm ▸ h)

/-! 28: ordinal/explain.checked$1 -/
def d28 : D :=
  (.seq
    (.ops [
        (none, [⟨none, some 2, .p (.mv (.c (.bool false)))⟩])] (.one .nil))
    (.seq
      (.ops [
          (none, [⟨none, some 3, .p (.mv (.s 0))⟩,
          ⟨none, some 4, .e (.call (.c (.func (.func 29) ⟨[]⟩ ⟨[]⟩)) [.s 3])⟩,
          ⟨none, some 5, .p (.un .not (.s 4))⟩,
          ⟨none, some 2, .p (.mv (.s 5))⟩])] (.one .nil))
      .ret))
theorem cfn28 : cfn Tryd.prog 28 = some ⟨6, 3, d28.erase, [(.s 2, none)]⟩ := by kernel_rfl
theorem ok28 : d28.ok 6 3 = true := by kernel_rfl
noncomputable def F28 (a0 : Value) (H : Heap) (nx : Nat) (k : EP) : Prop :=
  wCall Tryd.prog 29 [a0] H nx fun t4_1 H1 nx1 =>
  wUn .not t4_1 fun t5_2 =>
  forceV t5_2 fun tv_3 => k tv_3 H1 nx1
theorem eq28 (a0 : Value) (H : Heap) (nx : Nat) (k : EP) : wBody Tryd.prog 6 3 d28 [(.s 2, none)] [a0] H nx k = F28 a0 H nx k := by kernel_rfl
theorem spec28 {a0 : Value} {H : Heap} {nx : Nat} {k : EP} (h : F28 a0 H nx k) : Ans Tryd.prog 28 [a0] H nx k :=
  spec_of_body mixed namesOK cfn28 ok28 (by simp) ((eq28 a0 H nx k).symm ▸ h)

/-! 36: slices.IndexFunc[[]string,string] -/
def d36 : D :=
  (.seq
    (.ops [
        (none, [⟨none, some 4, .p (.mv (.c (.int .i64 0)))⟩])] (.one .nil))
    (.seq
      (.seq
        (.ops [
            (none, [⟨none, some 6, .p (.mv (.s 0))⟩,
            ⟨none, some 7, .r (.len (.s 6) 0)⟩,
            ⟨none, some 8, .p (.mv (.c (.int .i64 0)))⟩])] (.one .nil))
        (.block 0
          (.loop [8] [4, 5, 9, 10, 11, 12, 13, 14, 15, 16, 17, 18]
            (.seq
              (.ops [
                  (none, [⟨none, some 9, .p (.bin .lss (.s 8) (.s 7))⟩])] (.one .nil))
              (.seq
                (.cond (.s 9)
                  .skip
                  (.exit 0))
                (.seq
                  (.block 1
                    (.seq
                      (.ops [
                          (none, [⟨none, some 10, .p (.mv (.s 8))⟩,
                          ⟨none, some 5, .p (.mv (.s 10))⟩])] (.one .nil))
                      (.seq
                        (.ops [
                            (none, [⟨none, some 11, .p (.mv (.s 1))⟩,
                            ⟨none, some 12, .p (.mv (.s 0))⟩,
                            ⟨none, some 13, .p (.mv (.s 5))⟩,
                            ⟨none, some 14, .p (.idx (.s 12) (.s 13) none 1)⟩,
                            ⟨none, some 15, .r (.ld (.s 14) none)⟩,
                            ⟨none, some 16, .e (.call (.s 11) [.s 15])⟩])] (.one .nil))
                        (.cond (.s 16)
                          (.seq
                            (.ops [
                                (none, [⟨none, some 17, .p (.mv (.s 5))⟩,
                                ⟨none, some 4, .p (.mv (.s 17))⟩])] (.one .nil))
                            .ret)
                          .skip))))
                  (.ops [
                      (none, [⟨none, some 18, .p (.bin .add (.s 8) (.c (.int .i64 1)))⟩,
                      ⟨none, some 8, .p (.mv (.s 18))⟩])] (.one .nil))))))))
      (.seq
        (.ops [
            (none, [⟨none, some 4, .p (.mv (.c (.int .i64 (-1))))⟩])] (.one .nil))
        .ret)))
theorem cfn36 : cfn Tryd.prog 36 = some ⟨19, 5, d36.erase, [(.s 4, none)]⟩ := by kernel_rfl
theorem ok36 : d36.ok 19 5 = true := by kernel_rfl
noncomputable def F36 (a0 a1 : Value) (H : Heap) (nx : Nat) (k : EP) : Prop :=
  wLen a0 0 H fun t7_1 =>
  wLoop (fun tih_2 tL_3 H1 nx1 =>
    wBin .lss (tL_3.getD 0 undef) t7_1 fun t9_4 =>
    wIf t9_4 (
      wIdx a0 (tL_3.getD 0 undef) none 1 fun t14_5 =>
      wLd t14_5 none H1 fun t15_6 =>
      wCallV Tryd.prog a1 [t15_6] H1 nx1 fun t16_7 H2 nx2 =>
      wIf t16_7 (
        forceV (tL_3.getD 0 undef) fun tv_8 => k tv_8 H2 nx2) (
        wBin .add (tL_3.getD 0 undef) (.int .i64 1) fun t18_9 =>
        tih_2 [t18_9] H2 nx2)) (
      forceV (.int .i64 (-1)) fun tv_10 => k tv_10 H1 nx1)) [(.int .i64 0)] H nx
theorem eq36 (a0 a1 : Value) (H : Heap) (nx : Nat) (k : EP) : wBody Tryd.prog 19 5 d36 [(.s 4, none)] [a0, a1] H nx k = F36 a0 a1 H nx k := by kernel_rfl
theorem spec36 {a0 a1 : Value} {H : Heap} {nx : Nat} {k : EP} (h : F36 a0 a1 H nx k) : Ans Tryd.prog 36 [a0, a1] H nx k :=
  spec_of_body mixed namesOK cfn36 ok36 (by simp) ((eq36 a0 a1 H nx k).symm ▸ h)

/-! 27: slices.ContainsFunc[[]string,string] -/
def d27 : D :=
  (.seq
    (.ops [
        (none, [⟨none, some 4, .p (.mv (.c (.bool false)))⟩])] (.one .nil))
    (.seq
      (.ops [
          (none, [⟨none, some 5, .p (.mv (.s 0))⟩,
          ⟨none, some 6, .p (.mv (.s 1))⟩,
          ⟨none, some 7, .e (.call (.c (.func (.func 36) ⟨[]⟩ ⟨[]⟩)) [.s 5, .s 6])⟩,
          ⟨none, some 8, .p (.bin .geq (.s 7) (.c (.int .i64 0)))⟩,
          ⟨none, some 4, .p (.mv (.s 8))⟩])] (.one .nil))
      .ret))
theorem cfn27 : cfn Tryd.prog 27 = some ⟨9, 4, d27.erase, [(.s 4, none)]⟩ := by kernel_rfl
theorem ok27 : d27.ok 9 4 = true := by kernel_rfl
noncomputable def F27 (a0 a1 : Value) (H : Heap) (nx : Nat) (k : EP) : Prop :=
  wCall Tryd.prog 36 [a0, a1] H nx fun t7_1 H1 nx1 =>
  wBin .geq t7_1 (.int .i64 0) fun t8_2 =>
  forceV t8_2 fun tv_3 => k tv_3 H1 nx1
theorem eq27 (a0 a1 : Value) (H : Heap) (nx : Nat) (k : EP) : wBody Tryd.prog 9 4 d27 [(.s 4, none)] [a0, a1] H nx k = F27 a0 a1 H nx k := by kernel_rfl
theorem spec27 {a0 a1 : Value} {H : Heap} {nx : Nat} {k : EP} (h : F27 a0 a1 H nx k) : Ans Tryd.prog 27 [a0, a1] H nx k :=
  spec_of_body mixed namesOK cfn27 ok27 (by simp) ((eq27 a0 a1 H nx k).symm ▸ h)

/-! 6: ordinal/ordinallaw56.great -/
def d6 : D :=
  (.seq
    (.ops [
        (none, [⟨none, some 3, .a (.box (.s 1))⟩,
        ⟨none, some 4, .p (.mv (.c (.bool false)))⟩])] (.one .nil))
    (.seq
      (.seq
        (.ops [
            (none, [⟨none, some 7, .p (.mv (.s 0))⟩,
            ⟨none, some 8, .r (.len (.s 7) 0)⟩,
            ⟨none, some 9, .p (.mv (.c (.int .i64 0)))⟩])] (.one .nil))
        (.block 0
          (.loop [9] [4, 6, 10, 11, 12, 13, 14, 15, 16]
            (.seq
              (.ops [
                  (none, [⟨none, some 10, .p (.bin .lss (.s 9) (.s 8))⟩])] (.one .nil))
              (.seq
                (.cond (.s 10)
                  .skip
                  (.exit 0))
                (.seq
                  (.block 1
                    (.seq
                      (.ops [
                          (none, [⟨none, some 11, .p (.idx (.s 7) (.s 9) none 1)⟩,
                          ⟨none, some 12, .r (.ld (.s 11) none)⟩,
                          ⟨none, some 6, .p (.mv (.s 12))⟩])] (.one .nil))
                      (.seq
                        (.ops [
                            (none, [⟨none, some 13, .p (.mv (.s 6))⟩,
                            ⟨none, some 14, .r (.len (.s 13) 1)⟩,
                            ⟨none, some 15, .p (.bin .gtr (.s 14) (.c (.int .i64 60)))⟩])] (.one .nil))
                        (.cond (.s 15)
                          (.seq
                            (.ops [
                                (none, [⟨none, some 4, .p (.mv (.c (.bool true)))⟩])] (.one .nil))
                            .ret)
                          .skip))))
                  (.ops [
                      (none, [⟨none, some 16, .p (.bin .add (.s 9) (.c (.int .i64 1)))⟩,
                      ⟨none, some 9, .p (.mv (.s 16))⟩])] (.one .nil))))))))
      (.seq
        (.ops [
            (none, [⟨none, some 17, .p (.mv (.s 0))⟩,
            ⟨none, some 18, .r (.len (.s 17) 0)⟩,
            ⟨none, some 19, .p (.bin .gtr (.s 18) (.c (.int .i64 20)))⟩,
            ⟨none, some 20, .p (.mv (.s 19))⟩]),
            (some (20, false), [⟨none, some 21, .p (.fld (.s 3) 1)⟩,
            ⟨none, some 22, .r (.ld (.s 21) none)⟩,
            ⟨none, some 23, .r (.len (.s 22) 0)⟩,
            ⟨none, some 24, .p (.fld (.s 3) 2)⟩,
            ⟨none, some 25, .r (.ld (.s 24) none)⟩,
            ⟨none, some 26, .r (.len (.s 25) 0)⟩,
            ⟨none, some 27, .p (.bin .add (.s 23) (.s 26))⟩,
            ⟨none, some 28, .p (.bin .gtr (.s 27) (.c (.int .i64 40)))⟩]),
            (none, [⟨none, some 29, .p (.pick (.s 20) (.c (.bool true)) (.s 28))⟩,
            ⟨none, some 4, .p (.mv (.s 29))⟩])] (.one (.tst (.one .nil) (.one .nil))))
        .ret)))
theorem cfn6 : cfn Tryd.prog 6 = some ⟨30, 5, d6.erase, [(.s 4, none)]⟩ := by kernel_rfl
theorem ok6 : d6.ok 30 5 = true := by kernel_rfl
noncomputable def F6 (a0 a1 : Value) (H : Heap) (nx : Nat) (k : EP) : Prop :=
  dBox a1 fun tc_1 => wNew (.cells tc_1 0) .ptr H nx fun t3_2 H1 nx1 =>
  wLen a0 0 H1 fun t8_3 =>
  wLoop (fun tih_4 tL_5 H2 nx2 =>
    wBin .lss (tL_5.getD 0 undef) t8_3 fun t10_6 =>
    wIf t10_6 (
      wIdx a0 (tL_5.getD 0 undef) none 1 fun t11_7 =>
      wLd t11_7 none H2 fun t12_8 =>
      wLen t12_8 1 H2 fun t14_9 =>
      wBin .gtr t14_9 (.int .i64 60) fun t15_10 =>
      wIf t15_10 (
        forceV (.bool true) fun tv_11 => k tv_11 H2 nx2) (
        wBin .add (tL_5.getD 0 undef) (.int .i64 1) fun t16_12 =>
        tih_4 [t16_12] H2 nx2)) (
      wLen a0 0 H2 fun t18_13 =>
      wBin .gtr t18_13 (.int .i64 20) fun t19_14 =>
      wGuard false t19_14 (
        wFld t3_2 1 fun t21_15 =>
        wLd t21_15 none H2 fun t22_16 =>
        wLen t22_16 0 H2 fun t23_17 =>
        wFld t3_2 2 fun t24_18 =>
        wLd t24_18 none H2 fun t25_19 =>
        wLen t25_19 0 H2 fun t26_20 =>
        wBin .add t23_17 t26_20 fun t27_21 =>
        wBin .gtr t27_21 (.int .i64 40) fun t28_22 =>
        forceV t28_22 fun tv_23 => k tv_23 H2 nx2) (
        forceV (.bool true) fun tv_24 => k tv_24 H2 nx2))) [(.int .i64 0)] H1 nx1
theorem eq6 (a0 a1 : Value) (H : Heap) (nx : Nat) (k : EP) : wBody Tryd.prog 30 5 d6 [(.s 4, none)] [a0, a1] H nx k = F6 a0 a1 H nx k := by kernel_rfl
theorem spec6 {a0 a1 : Value} {H : Heap} {nx : Nat} {k : EP} (h : F6 a0 a1 H nx k) : Ans Tryd.prog 6 [a0, a1] H nx k :=
  spec_of_body mixed namesOK cfn6 ok6 (by simp) ((eq6 a0 a1 H nx k).symm ▸ h)

/-! 10: ordinal/ordinallaw56.printed -/
def d10 : D :=
  (.seq
    (.ops [
        (none, [⟨none, some 1, .a (.box (.s 0))⟩,
        ⟨none, some 2, .p (.mv (.c (.slice none 0 0)))⟩])] (.one .nil))
    (.seq
      (.seq
        (.ops [
            (none, [⟨none, some 3, .p (.fld (.s 1) 0)⟩,
            ⟨none, some 4, .r (.ld (.s 3) none)⟩,
            ⟨none, some 5, .p (.bin .eql (.s 4) (.c (.int .i64 0)))⟩])] (.one .nil))
        (.cond (.s 5)
          (.seq
            (.ops [
                (none, [⟨none, some 6, .p (.fld (.s 1) 1)⟩,
                ⟨none, some 7, .r (.ld (.s 6) none)⟩,
                ⟨none, some 2, .p (.mv (.s 7))⟩])] (.one .nil))
            .ret)
          .skip))
      (.seq
        (.ops [
            (none, [⟨none, some 8, .p (.fld (.s 1) 2)⟩,
            ⟨none, some 9, .r (.ld (.s 8) none)⟩,
            ⟨none, some 2, .p (.mv (.s 9))⟩])] (.one .nil))
        .ret)))
theorem cfn10 : cfn Tryd.prog 10 = some ⟨10, 4, d10.erase, [(.s 2, none)]⟩ := by kernel_rfl
theorem ok10 : d10.ok 10 4 = true := by kernel_rfl
noncomputable def F10 (a0 : Value) (H : Heap) (nx : Nat) (k : EP) : Prop :=
  dBox a0 fun tc_1 => wNew (.cells tc_1 0) .ptr H nx fun t1_2 H1 nx1 =>
  wFld t1_2 0 fun t3_3 =>
  wLd t3_3 none H1 fun t4_4 =>
  wBin .eql t4_4 (.int .i64 0) fun t5_5 =>
  wIf t5_5 (
    wFld t1_2 1 fun t6_6 =>
    wLd t6_6 none H1 fun t7_7 =>
    forceV t7_7 fun tv_8 => k tv_8 H1 nx1) (
    wFld t1_2 2 fun t8_9 =>
    wLd t8_9 none H1 fun t9_10 =>
    forceV t9_10 fun tv_11 => k tv_11 H1 nx1)
theorem eq10 (a0 : Value) (H : Heap) (nx : Nat) (k : EP) : wBody Tryd.prog 10 4 d10 [(.s 2, none)] [a0] H nx k = F10 a0 H nx k := by kernel_rfl
theorem spec10 {a0 : Value} {H : Heap} {nx : Nat} {k : EP} (h : F10 a0 H nx k) : Ans Tryd.prog 10 [a0] H nx k :=
  spec_of_body mixed namesOK cfn10 ok10 (by simp) ((eq10 a0 H nx k).symm ▸ h)

/-! 15: ordinal/explain.words -/
def d15 : D :=
  (.seq
    (.ops [
        (none, [⟨none, some 0, .p (.mv (.c (.slice none 0 0)))⟩])] (.one .nil))
    (.seq
      (.ops [
          (none, [⟨none, some 1, .a (.bsl 4 1 [.string ⟨#[]⟩] [(0, .c (.string ⟨#[97, 99, 99, 101, 112, 116, 101, 100]⟩)), (1, .c (.string ⟨#[99, 121, 99, 108, 105, 99]⟩)), (2, .c (.string ⟨#[112, 97, 116, 104]⟩)), (3, .c (.string ⟨#[116, 114, 105, 111]⟩))])⟩,
          ⟨none, some 0, .p (.mv (.s 1))⟩])] (.one .nil))
      .ret))
theorem cfn15 : cfn Tryd.prog 15 = some ⟨2, 2, d15.erase, [(.s 0, none)]⟩ := by kernel_rfl
theorem ok15 : d15.ok 2 2 = true := by kernel_rfl
noncomputable def F15 (H : Heap) (nx : Nat) (k : EP) : Prop :=
  dBsl 4 1 [.string ⟨#[]⟩] [(0, (.string ⟨#[97, 99, 99, 101, 112, 116, 101, 100]⟩)), (1, (.string ⟨#[99, 121, 99, 108, 105, 99]⟩)), (2, (.string ⟨#[112, 97, 116, 104]⟩)), (3, (.string ⟨#[116, 114, 105, 111]⟩))] fun tc_1 => wNew (.cells tc_1 0) (.slice 4 4) H nx fun t1_2 H1 nx1 =>
  forceV t1_2 fun tv_3 => k tv_3 H1 nx1
theorem eq15 (H : Heap) (nx : Nat) (k : EP) : wBody Tryd.prog 2 2 d15 [(.s 0, none)] [] H nx k = F15  H nx k := by kernel_rfl
theorem spec15 {H : Heap} {nx : Nat} {k : EP} (h : F15  H nx k) : Ans Tryd.prog 15 [] H nx k :=
  spec_of_body mixed namesOK cfn15 ok15 (by simp) ((eq15  H nx k).symm ▸ h)

/-! 20: ordinal/ordinalref56.words -/
def d20 : D :=
  (.seq
    (.ops [
        (none, [⟨none, some 0, .p (.mv (.c (.slice none 0 0)))⟩])] (.one .nil))
    (.seq
      (.ops [
          (none, [⟨none, some 1, .a (.bsl 4 1 [.string ⟨#[]⟩] [(0, .c (.string ⟨#[97, 99, 99, 101, 112, 116, 101, 100]⟩)), (1, .c (.string ⟨#[99, 121, 99, 108, 105, 99]⟩)), (2, .c (.string ⟨#[112, 97, 116, 104]⟩)), (3, .c (.string ⟨#[116, 114, 105, 111]⟩))])⟩,
          ⟨none, some 0, .p (.mv (.s 1))⟩])] (.one .nil))
      .ret))
theorem cfn20 : cfn Tryd.prog 20 = some ⟨2, 2, d20.erase, [(.s 0, none)]⟩ := by kernel_rfl
theorem ok20 : d20.ok 2 2 = true := by kernel_rfl
noncomputable def F20 (H : Heap) (nx : Nat) (k : EP) : Prop :=
  dBsl 4 1 [.string ⟨#[]⟩] [(0, (.string ⟨#[97, 99, 99, 101, 112, 116, 101, 100]⟩)), (1, (.string ⟨#[99, 121, 99, 108, 105, 99]⟩)), (2, (.string ⟨#[112, 97, 116, 104]⟩)), (3, (.string ⟨#[116, 114, 105, 111]⟩))] fun tc_1 => wNew (.cells tc_1 0) (.slice 4 4) H nx fun t1_2 H1 nx1 =>
  forceV t1_2 fun tv_3 => k tv_3 H1 nx1
theorem eq20 (H : Heap) (nx : Nat) (k : EP) : wBody Tryd.prog 2 2 d20 [(.s 0, none)] [] H nx k = F20  H nx k := by kernel_rfl
theorem spec20 {H : Heap} {nx : Nat} {k : EP} (h : F20  H nx k) : Ans Tryd.prog 20 [] H nx k :=
  spec_of_body mixed namesOK cfn20 ok20 (by simp) ((eq20  H nx k).symm ▸ h)

/-! 31: slices.Values[[]string,string] -/
def d31 : D :=
  (.seq
    (.ops [
        (none, [⟨none, some 1, .a (.box (.s 0))⟩,
        ⟨none, some 2, .p (.mv (.c (.nilFunc)))⟩])] (.one .nil))
    (.seq
      (.ops [
          (none, [⟨none, some 3, .p (.mkf (.func 40) [] [.s 1])⟩,
          ⟨none, some 2, .p (.mv (.s 3))⟩])] (.one .nil))
      .ret))
theorem cfn31 : cfn Tryd.prog 31 = some ⟨4, 3, d31.erase, [(.s 2, none)]⟩ := by kernel_rfl
theorem ok31 : d31.ok 4 3 = true := by kernel_rfl
noncomputable def F31 (a0 : Value) (H : Heap) (nx : Nat) (k : EP) : Prop :=
  dBox a0 fun tc_1 => wNew (.cells tc_1 0) .ptr H nx fun t1_2 H1 nx1 =>
  forceV (.func (.func 40) ⟨[]⟩ ⟨[t1_2]⟩) fun tv_3 => k tv_3 H1 nx1
theorem eq31 (a0 : Value) (H : Heap) (nx : Nat) (k : EP) : wBody Tryd.prog 4 3 d31 [(.s 2, none)] [a0] H nx k = F31 a0 H nx k := by kernel_rfl
theorem spec31 {a0 : Value} {H : Heap} {nx : Nat} {k : EP} (h : F31 a0 H nx k) : Ans Tryd.prog 31 [a0] H nx k :=
  spec_of_body mixed namesOK cfn31 ok31 (by simp) ((eq31 a0 H nx k).symm ▸ h)

/-! 32: slices.Compact[[]string,string] -/
def d32 : D :=
  (.seq
    (.ops [
        (none, [⟨none, some 2, .p (.mv (.c (.slice none 0 0)))⟩])] (.one .nil))
    (.seq
      (.seq
        (.ops [
            (none, [⟨none, some 6, .p (.mv (.s 0))⟩,
            ⟨none, some 7, .r (.len (.s 6) 0)⟩,
            ⟨none, some 8, .p (.bin .lss (.s 7) (.c (.int .i64 2)))⟩])] (.one .nil))
        (.cond (.s 8)
          (.seq
            (.ops [
                (none, [⟨none, some 9, .p (.mv (.s 0))⟩,
                ⟨none, some 2, .p (.mv (.s 9))⟩])] (.one .nil))
            .ret)
          .skip))
      (.seq
        (.seq
          (.ops [
              (none, [⟨none, some 3, .p (.mv (.c (.int .i64 1)))⟩])] (.one .nil))
          (.block 0
            (.loop [3] [2, 4, 5, 10, 11, 12, 13, 14, 15, 16, 17, 18, 19, 20, 21, 22, 23, 24, 25, 26, 27, 28, 29, 30, 31, 32, 33, 34, 35, 36, 37, 38, 39, 40, 41, 42, 43, 44, 45, 46, 47, 48, 49, 50, 51, 52, 53, 54, 55, 56, 57, 58, 59]
              (.seq
                (.seq
                  (.ops [
                      (none, [⟨none, some 10, .p (.mv (.s 3))⟩,
                      ⟨none, some 11, .p (.mv (.s 0))⟩,
                      ⟨none, some 12, .r (.len (.s 11) 0)⟩,
                      ⟨none, some 13, .p (.bin .lss (.s 10) (.s 12))⟩])] (.one .nil))
                  (.cond (.s 13)
                    .skip
                    (.exit 0)))
                (.seq
                  (.block 1
                    (.seq
                      (.draw [0, 0, 3, 7, 0, 0, 32, 112, 240, 511] [
                          (none, [⟨none, some 16, .p (.mv (.s 0))⟩,
                          ⟨none, some 17, .p (.mv (.s 3))⟩,
                          ⟨none, some 18, .p (.idx (.s 16) (.s 17) none 1)⟩,
                          ⟨none, some 19, .r (.ld (.s 18) none)⟩,
                          ⟨none, some 20, .p (.mv (.s 0))⟩,
                          ⟨none, some 21, .p (.mv (.s 3))⟩,
                          ⟨none, some 22, .p (.bin .sub (.s 21) (.c (.int .i64 1)))⟩,
                          ⟨none, some 23, .p (.idx (.s 20) (.s 22) none 1)⟩,
                          ⟨none, some 24, .r (.ld (.s 23) none)⟩,
                          ⟨none, some 25, .p (.bin .eql (.s 19) (.s 24))⟩])] (.one .nil))
                      (.cond (.s 25)
                        (.seq
                          (.ops [
                              (none, [⟨none, some 26, .p (.mv (.s 0))⟩,
                              ⟨none, some 27, .p (.mv (.s 3))⟩,
                              ⟨none, some 28, .r (.sl (.s 26) 1 (some (.s 27)) none none)⟩,
                              ⟨none, some 4, .p (.mv (.s 28))⟩])] (.one .nil))
                          (.seq
                            (.seq
                              (.ops [
                                  (none, [⟨none, some 5, .p (.mv (.c (.int .i64 1)))⟩])] (.one .nil))
                              (.block 2
                                (.loop [3, 5] [29, 30, 31, 32, 33, 34, 35, 36, 37, 38, 39, 40, 41, 42, 43, 44, 45, 46, 47, 48, 49, 50, 51, 52, 53]
                                  (.seq
                                    (.seq
                                      (.ops [
                                          (none, [⟨none, some 29, .p (.mv (.s 5))⟩,
                                          ⟨none, some 30, .p (.mv (.s 4))⟩,
                                          ⟨none, some 31, .r (.len (.s 30) 0)⟩,
                                          ⟨none, some 32, .p (.bin .lss (.s 29) (.s 31))⟩])] (.one .nil))
                                      (.cond (.s 32)
                                        .skip
                                        (.exit 2)))
                                    (.join [3] [35, 36, 37, 38, 39, 40, 41, 42, 43, 44, 45, 46, 47, 48, 49, 50, 51, 52, 53]
                                      (.block 3
                                        (.seq
                                          (.draw [0, 0, 3, 7, 0, 0, 32, 112, 240, 511] [
                                              (none, [⟨none, some 35, .p (.mv (.s 4))⟩,
                                              ⟨none, some 36, .p (.mv (.s 5))⟩,
                                              ⟨none, some 37, .p (.idx (.s 35) (.s 36) none 1)⟩,
                                              ⟨none, some 38, .r (.ld (.s 37) none)⟩,
                                              ⟨none, some 39, .p (.mv (.s 4))⟩,
                                              ⟨none, some 40, .p (.mv (.s 5))⟩,
                                              ⟨none, some 41, .p (.bin .sub (.s 40) (.c (.int .i64 1)))⟩,
                                              ⟨none, some 42, .p (.idx (.s 39) (.s 41) none 1)⟩,
                                              ⟨none, some 43, .r (.ld (.s 42) none)⟩,
                                              ⟨none, some 44, .p (.bin .neq (.s 38) (.s 43))⟩])] (.one .nil))
                                          (.cond (.s 44)
                                            (.seq
                                              (.ops [
                                                  (none, [⟨none, some 45, .p (.mv (.s 0))⟩,
                                                  ⟨none, some 46, .p (.mv (.s 3))⟩,
                                                  ⟨none, some 47, .p (.mv (.s 4))⟩,
                                                  ⟨none, some 48, .p (.mv (.s 5))⟩,
                                                  ⟨none, some 49, .p (.idx (.s 47) (.s 48) none 1)⟩,
                                                  ⟨none, some 50, .r (.ld (.s 49) none)⟩,
                                                  ⟨none, some 51, .p (.idx (.s 45) (.s 46) none 1)⟩,
                                                  ⟨none, none, .e (.st (.s 51) (.s 50) 1)⟩])] (.one .nil))
                                              (.ops [
                                                  (none, [⟨none, some 52, .p (.mv (.s 3))⟩,
                                                  ⟨none, some 53, .p (.bin .add (.s 52) (.c (.int .i64 1)))⟩,
                                                  ⟨none, some 3, .p (.mv (.s 53))⟩])] (.one .nil)))
                                            .skip)))
                                      (.ops [
                                          (none, [⟨none, some 33, .p (.mv (.s 5))⟩,
                                          ⟨none, some 34, .p (.bin .add (.s 33) (.c (.int .i64 1)))⟩,
                                          ⟨none, some 5, .p (.mv (.s 34))⟩])] (.one .nil)))))))
                            (.seq
                              (.ops [
                                  (none, [⟨none, some 54, .p (.mv (.s 0))⟩,
                                  ⟨none, some 55, .p (.mv (.s 3))⟩,
                                  ⟨none, some 56, .r (.sl (.s 54) 1 (some (.s 55)) none none)⟩,
                                  ⟨none, none, .e (.clrS (.s 56) [.string ⟨#[]⟩])⟩])] (.one .nil))
                              (.seq
                                (.ops [
                                    (none, [⟨none, some 57, .p (.mv (.s 0))⟩,
                                    ⟨none, some 58, .p (.mv (.s 3))⟩,
                                    ⟨none, some 59, .r (.sl (.s 57) 1 none (some (.s 58)) none)⟩,
                                    ⟨none, some 2, .p (.mv (.s 59))⟩])] (.one .nil))
                                .ret))))
                        .skip)))
                  (.ops [
                      (none, [⟨none, some 14, .p (.mv (.s 3))⟩,
                      ⟨none, some 15, .p (.bin .add (.s 14) (.c (.int .i64 1)))⟩,
                      ⟨none, some 3, .p (.mv (.s 15))⟩])] (.one .nil)))))))
        (.seq
          (.ops [
              (none, [⟨none, some 60, .p (.mv (.s 0))⟩,
              ⟨none, some 2, .p (.mv (.s 60))⟩])] (.one .nil))
          .ret))))
theorem cfn32 : cfn Tryd.prog 32 = some ⟨61, 6, d32.erase, [(.s 2, none)]⟩ := by kernel_rfl
theorem ok32 : d32.ok 61 6 = true := by kernel_rfl
noncomputable def F32 (a0 : Value) (H : Heap) (nx : Nat) (k : EP) : Prop :=
  wLen a0 0 H fun t7_1 =>
  wBin .lss t7_1 (.int .i64 2) fun t8_2 =>
  wIf t8_2 (
    forceV a0 fun tv_3 => k tv_3 H nx) (
    wLoop (fun tih_4 tL_5 H1 nx1 =>
      wLen a0 0 H1 fun t12_6 =>
      wBin .lss (tL_5.getD 0 undef) t12_6 fun t13_7 =>
      wIf t13_7 (
        forceN (nx1 + 10) fun nx2 =>
        wIdx a0 (tL_5.getD 0 undef) none 1 fun t18_8 =>
        wLd t18_8 none H1 fun t19_9 =>
        wBin .sub (tL_5.getD 0 undef) (.int .i64 1) fun t22_10 =>
        wIdx a0 t22_10 none 1 fun t23_11 =>
        wLd t23_11 none H1 fun t24_12 =>
        wBin .eql t19_9 t24_12 fun t25_13 =>
        (((((wLd t23_11 none H1 fun tq_15 => tq_15 = t24_12) ∧ True) ∧ (((wLd t18_8 none H1 fun tq_14 => tq_14 = t19_9) ∧ True) ∧ True))) ∧ (
          wIf t25_13 (
            wSl a0 1 (some (tL_5.getD 0 undef)) none none H1 fun t28_16 =>
            wLoop (fun tih_17 tL_18 H3 nx3 =>
              wLen t28_16 0 H3 fun t31_19 =>
              wBin .lss (tL_18.getD 1 undef) t31_19 fun t32_20 =>
              wIf t32_20 (
                wJoin (fun tj_21 =>
                  forceN (nx3 + 10) fun nx5 =>
                  wIdx t28_16 (tL_18.getD 1 undef) none 1 fun t37_23 =>
                  wLd t37_23 none H3 fun t38_24 =>
                  wBin .sub (tL_18.getD 1 undef) (.int .i64 1) fun t41_25 =>
                  wIdx t28_16 t41_25 none 1 fun t42_26 =>
                  wLd t42_26 none H3 fun t43_27 =>
                  wBin .neq t38_24 t43_27 fun t44_28 =>
                  (((((wLd t42_26 none H3 fun tq_30 => tq_30 = t43_27) ∧ True) ∧ (((wLd t37_23 none H3 fun tq_29 => tq_29 = t38_24) ∧ True) ∧ True))) ∧ (
                    wIf t44_28 (
                      wIdx t28_16 (tL_18.getD 1 undef) none 1 fun t49_31 =>
                      wLd t49_31 none H3 fun t50_32 =>
                      wIdx a0 (tL_18.getD 0 undef) none 1 fun t51_33 =>
                      wSt t51_33 t50_32 1 H3 fun H6 =>
                      wBin .add (tL_18.getD 0 undef) (.int .i64 1) fun t53_34 =>
                      tj_21 [t53_34] H6 nx5) (
                      tj_21 [(tL_18.getD 0 undef)] H3 nx5))) ∨ False) (fun tL_22 H4 nx4 =>
                  wBin .add (tL_18.getD 1 undef) (.int .i64 1) fun t34_35 =>
                  tih_17 [(tL_22.getD 0 undef), t34_35] H4 nx4)) (
                wSl a0 1 (some (tL_18.getD 0 undef)) none none H3 fun t56_36 =>
                wClrS t56_36 [.string ⟨#[]⟩] H3 fun H7 =>
                wSl a0 1 none (some (tL_18.getD 0 undef)) none H7 fun t59_37 =>
                forceV t59_37 fun tv_38 => k tv_38 H7 nx3)) [(tL_5.getD 0 undef), (.int .i64 1)] H1 nx2) (
            wBin .add (tL_5.getD 0 undef) (.int .i64 1) fun t15_39 =>
            tih_4 [t15_39] H1 nx2))) ∨ False) (
        forceV a0 fun tv_40 => k tv_40 H1 nx1)) [(.int .i64 1)] H nx)
theorem eq32 (a0 : Value) (H : Heap) (nx : Nat) (k : EP) : wBody Tryd.prog 61 6 d32 [(.s 2, none)] [a0] H nx k = F32 a0 H nx k := by kernel_rfl
theorem spec32 {a0 : Value} {H : Heap} {nx : Nat} {k : EP} (h : F32 a0 H nx k) : Ans Tryd.prog 32 [a0] H nx k :=
  spec_of_body mixed namesOK cfn32 ok32 (by simp) ((eq32 a0 H nx k).symm ▸ h)

end Go.Proofs.YtjpgddpobnjmkaaDoor
