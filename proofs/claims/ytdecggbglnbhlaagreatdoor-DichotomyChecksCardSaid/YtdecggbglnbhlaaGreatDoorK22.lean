/-
  MADE BY PROGRAM (wip/gen/gen.py): functions 17 5 as marked code, and their claims written out.
-/
import Derived.Test.YtdecggbglnbhlaaGreatDoorK9
import Derived.KernelRfl
set_option linter.unusedSimpArgs false
set_option linter.unusedVariables false
set_option linter.unusedSectionVars false
namespace Go.Proofs.YtdecggbglnbhlaaGreatDoor
open Go.Clo
set_option maxRecDepth 100000
/-! 17: ordinal/ordinalref33.Accepts -/
def d17 : D :=
  (.seq
    (.ops [
        (none, [⟨none, some 8, .p (.mv (.c (.bool false)))⟩])] (.one .nil))
    (.seq
      (.ops [
          (none, [⟨none, some 17, .a (.bsl 0 1 [.int .i64 0] [])⟩,
          ⟨none, some 18, .p (.mv (.s 3))⟩,
          ⟨none, some 19, .e (.app (.s 17) (.s 18) 1 8)⟩,
          ⟨none, some 9, .p (.mv (.s 19))⟩])] (.one .nil))
      (.seq
        (.seq
          (.ops [
              (none, [⟨none, some 20, .p (.mv (.s 2))⟩,
              ⟨none, some 21, .p (.bin .sub (.s 20) (.c (.int .i64 1)))⟩,
              ⟨none, some 10, .p (.mv (.s 21))⟩])] (.one .nil))
          (.block 0
            (.loop [9, 10] [22, 23, 24, 25, 26, 27, 28, 29]
              (.seq
                (.seq
                  (.ops [
                      (none, [⟨none, some 22, .p (.mv (.s 10))⟩,
                      ⟨none, some 23, .p (.bin .geq (.s 22) (.c (.int .i64 0)))⟩])] (.one .nil))
                  (.cond (.s 23)
                    .skip
                    (.exit 0)))
                (.seq
                  (.block 1
                    (.ops [
                        (none, [⟨none, some 26, .p (.mv (.s 9))⟩,
                        ⟨none, some 27, .p (.mv (.s 10))⟩,
                        ⟨none, some 28, .a (.bsl 1 1 [.int .i64 0] [(0, .s 27)])⟩,
                        ⟨none, some 29, .e (.app (.s 26) (.s 28) 1 8)⟩,
                        ⟨none, some 9, .p (.mv (.s 29))⟩])] (.one .nil)))
                  (.ops [
                      (none, [⟨none, some 24, .p (.mv (.s 10))⟩,
                      ⟨none, some 25, .p (.bin .sub (.s 24) (.c (.int .i64 1)))⟩,
                      ⟨none, some 10, .p (.mv (.s 25))⟩])] (.one .nil)))))))
        (.seq
          (.ops [
              (none, [⟨none, some 30, .p (.mv (.s 0))⟩,
              ⟨none, some 31, .p (.mv (.s 1))⟩,
              ⟨none, some 32, .e (.call (.c (.func (.func 34) ⟨[]⟩ ⟨[]⟩)) [.s 30, .s 31])⟩,
              ⟨none, some 11, .p (.mv (.s 32))⟩])] (.one .nil))
          (.seq
            (.ops [
                (none, [⟨none, some 33, .p (.mv (.s 1))⟩,
                ⟨none, some 34, .r (.convI .u64 (.s 33))⟩,
                ⟨none, some 35, .p (.bin .shl (.c (.int .u32 1)) (.s 34))⟩,
                ⟨none, some 36, .p (.bin .sub (.s 35) (.c (.int .u32 1)))⟩,
                ⟨none, some 12, .p (.mv (.s 36))⟩])] (.one .nil))
            (.seq
              (.seq
                (.ops [
                    (none, [⟨none, some 13, .p (.mv (.c (.int .i64 0)))⟩])] (.one .nil))
                (.block 2
                  (.loop [12, 13] [8, 14, 15, 16, 37, 38, 39, 40, 41, 42, 43, 44, 45, 46, 47, 48, 49, 50, 51, 52, 53, 54, 55, 56, 57, 58, 59, 60, 61, 62, 63, 64, 65, 66, 67, 68, 69, 70, 71, 72, 73, 74, 75, 76, 77, 78, 79, 80, 81, 82, 83, 84, 85, 86]
                    (.seq
                      (.seq
                        (.ops [
                            (none, [⟨none, some 37, .p (.mv (.s 13))⟩,
                            ⟨none, some 38, .p (.mv (.s 9))⟩,
                            ⟨none, some 39, .r (.len (.s 38) 0)⟩,
                            ⟨none, some 40, .p (.bin .lss (.s 37) (.s 39))⟩])] (.one .nil))
                        (.cond (.s 40)
                          .skip
                          (.exit 2)))
                      (.seq
                        (.block 3
                          (.seq
                            (.ops [
                                (none, [⟨none, some 43, .p (.mv (.s 9))⟩,
                                ⟨none, some 44, .p (.mv (.s 13))⟩,
                                ⟨none, some 45, .p (.idx (.s 43) (.s 44) none 1)⟩,
                                ⟨none, some 46, .r (.ld (.s 45) none)⟩,
                                ⟨none, some 14, .p (.mv (.s 46))⟩])] (.one .nil))
                            (.seq
                              (.ops [
                                  (none, [⟨none, some 47, .p (.mv (.s 12))⟩,
                                  ⟨none, some 48, .p (.mv (.s 14))⟩,
                                  ⟨none, some 49, .r (.convI .u64 (.s 48))⟩,
                                  ⟨none, some 50, .p (.bin .shl (.c (.int .u32 1)) (.s 49))⟩,
                                  ⟨none, some 51, .p (.bin .andNot (.s 47) (.s 50))⟩,
                                  ⟨none, some 12, .p (.mv (.s 51))⟩])] (.one .nil))
                              (.seq
                                (.ops [
                                    (none, [⟨none, some 52, .p (.mv (.s 11))⟩,
                                    ⟨none, some 53, .p (.mv (.s 14))⟩,
                                    ⟨none, some 54, .p (.idx (.s 52) (.s 53) none 1)⟩,
                                    ⟨none, some 55, .r (.ld (.s 54) none)⟩,
                                    ⟨none, some 56, .p (.mv (.s 12))⟩,
                                    ⟨none, some 57, .p (.bin .and (.s 55) (.s 56))⟩,
                                    ⟨none, some 15, .p (.mv (.s 57))⟩])] (.one .nil))
                                (.seq
                                  (.seq
                                    (.ops [
                                        (none, [⟨none, some 58, .p (.mv (.s 0))⟩,
                                        ⟨none, some 59, .p (.mv (.s 15))⟩,
                                        ⟨none, some 60, .p (.mv (.s 14))⟩,
                                        ⟨none, some 61, .r (.convI .u64 (.s 60))⟩,
                                        ⟨none, some 62, .p (.bin .shl (.c (.int .u32 1)) (.s 61))⟩,
                                        ⟨none, some 63, .p (.bin .or (.s 59) (.s 62))⟩,
                                        ⟨none, some 64, .e (.call (.c (.func (.func 35) ⟨[]⟩ ⟨[]⟩)) [.s 58, .s 63])⟩,
                                        ⟨none, some 65, .p (.un .not (.s 64))⟩])] (.one .nil))
                                    (.cond (.s 65)
                                      (.seq
                                        (.ops [
                                            (none, [⟨none, some 8, .p (.mv (.c (.bool false)))⟩])] (.one .nil))
                                        .ret)
                                      .skip))
                                  (.seq
                                    (.ops [
                                        (none, [⟨none, some 16, .p (.mv (.c (.int .i64 0)))⟩])] (.one .nil))
                                    (.block 4
                                      (.loop [16] [66, 67, 68, 69, 70, 71, 72, 73, 74, 75, 76, 77, 78, 79, 80, 81, 82, 83, 84, 85, 86]
                                        (.seq
                                          (.seq
                                            (.ops [
                                                (none, [⟨none, some 66, .p (.mv (.s 16))⟩,
                                                ⟨none, some 67, .p (.mv (.s 1))⟩,
                                                ⟨none, some 68, .p (.bin .lss (.s 66) (.s 67))⟩])] (.one .nil))
                                            (.cond (.s 68)
                                              .skip
                                              (.exit 4)))
                                          (.join [] [71, 72, 73, 74, 75, 76, 77, 78, 79, 80, 81, 82, 83, 84, 85, 86]
                                            (.block 5
                                              (.seq
                                                (.ops [
                                                    (none, [⟨none, some 71, .p (.mv (.s 15))⟩,
                                                    ⟨none, some 72, .p (.mv (.s 16))⟩,
                                                    ⟨none, some 73, .e (.call (.c (.func (.func 36) ⟨[]⟩ ⟨[]⟩)) [.s 71, .s 72])⟩])] (.one .nil))
                                                (.cond (.s 73)
                                                  (.ops [
                                                      (none, [⟨none, some 74, .p (.mv (.s 11))⟩,
                                                      ⟨none, some 75, .p (.mv (.s 16))⟩,
                                                      ⟨none, some 76, .p (.mv (.s 11))⟩,
                                                      ⟨none, some 77, .p (.mv (.s 16))⟩,
                                                      ⟨none, some 78, .p (.idx (.s 76) (.s 77) none 1)⟩,
                                                      ⟨none, some 79, .r (.ld (.s 78) none)⟩,
                                                      ⟨none, some 80, .p (.mv (.s 15))⟩,
                                                      ⟨none, some 81, .p (.bin .or (.s 79) (.s 80))⟩,
                                                      ⟨none, some 82, .p (.mv (.s 16))⟩,
                                                      ⟨none, some 83, .r (.convI .u64 (.s 82))⟩,
                                                      ⟨none, some 84, .p (.bin .shl (.c (.int .u32 1)) (.s 83))⟩,
                                                      ⟨none, some 85, .p (.bin .andNot (.s 81) (.s 84))⟩,
                                                      ⟨none, some 86, .p (.idx (.s 74) (.s 75) none 1)⟩,
                                                      ⟨none, none, .e (.st (.s 86) (.s 85) 1)⟩])] (.one .nil))
                                                  .skip)))
                                            (.ops [
                                                (none, [⟨none, some 69, .p (.mv (.s 16))⟩,
                                                ⟨none, some 70, .p (.bin .add (.s 69) (.c (.int .i64 1)))⟩,
                                                ⟨none, some 16, .p (.mv (.s 70))⟩])] (.one .nil))))))))))))
                        (.ops [
                            (none, [⟨none, some 41, .p (.mv (.s 13))⟩,
                            ⟨none, some 42, .p (.bin .add (.s 41) (.c (.int .i64 1)))⟩,
                            ⟨none, some 13, .p (.mv (.s 42))⟩])] (.one .nil)))))))
              (.seq
                (.ops [
                    (none, [⟨none, some 8, .p (.mv (.c (.bool true)))⟩])] (.one .nil))
                .ret)))))))
theorem cfn17 : cfn Tryz.prog 17 = some ⟨87, 7, d17.erase, [(.s 8, none)]⟩ := by kernel_rfl
theorem ok17 : d17.ok 87 7 = true := by kernel_rfl
noncomputable def F17 (a0 a1 a2 a3 : Value) (H : Heap) (nx : Nat) (k : EP) : Prop :=
  dBsl 0 1 [.int .i64 0] [] fun tc_1 => wNew (.cells tc_1 0) (.slice 0 0) H nx fun t17_2 H1 nx1 =>
  wApp t17_2 a3 1 8 H1 nx1 fun t19_3 H2 nx2 =>
  wBin .sub a2 (.int .i64 1) fun t21_4 =>
  wLoop (fun tih_5 tL_6 H3 nx3 =>
    wBin .geq (tL_6.getD 1 undef) (.int .i64 0) fun t23_7 =>
    wIf t23_7 (
      dBsl 1 1 [.int .i64 0] [(0, (tL_6.getD 1 undef))] fun tc_8 => wNew (.cells tc_8 0) (.slice 1 1) H3 nx3 fun t28_9 H4 nx4 =>
      wApp (tL_6.getD 0 undef) t28_9 1 8 H4 nx4 fun t29_10 H5 nx5 =>
      wBin .sub (tL_6.getD 1 undef) (.int .i64 1) fun t25_11 =>
      tih_5 [t29_10, t25_11] H5 nx5) (
      wCall Tryz.prog 34 [a0, a1] H3 nx3 fun t32_12 H6 nx6 =>
      wConv .u64 a1 fun t34_13 =>
      wBin .shl (.int .u32 1) t34_13 fun t35_14 =>
      wBin .sub t35_14 (.int .u32 1) fun t36_15 =>
      wLoop (fun tih_16 tL_17 H7 nx7 =>
        wLen (tL_6.getD 0 undef) 0 H7 fun t39_18 =>
        wBin .lss (tL_17.getD 1 undef) t39_18 fun t40_19 =>
        wIf t40_19 (
          wIdx (tL_6.getD 0 undef) (tL_17.getD 1 undef) none 1 fun t45_20 =>
          wLd t45_20 none H7 fun t46_21 =>
          wConv .u64 t46_21 fun t49_22 =>
          wBin .shl (.int .u32 1) t49_22 fun t50_23 =>
          wBin .andNot (tL_17.getD 0 undef) t50_23 fun t51_24 =>
          wIdx t32_12 t46_21 none 1 fun t54_25 =>
          wLd t54_25 none H7 fun t55_26 =>
          wBin .and t55_26 t51_24 fun t57_27 =>
          wConv .u64 t46_21 fun t61_28 =>
          wBin .shl (.int .u32 1) t61_28 fun t62_29 =>
          wBin .or t57_27 t62_29 fun t63_30 =>
          wCall Tryz.prog 35 [a0, t63_30] H7 nx7 fun t64_31 H8 nx8 =>
          wUn .not t64_31 fun t65_32 =>
          wIf t65_32 (
            forceV (.bool false) fun tv_33 => k tv_33 H8 nx8) (
            wLoop (fun tih_34 tL_35 H9 nx9 =>
              wBin .lss (tL_35.getD 0 undef) a1 fun t68_36 =>
              wIf t68_36 (
                wJoin (fun tj_37 =>
                  wCall Tryz.prog 36 [t57_27, (tL_35.getD 0 undef)] H9 nx9 fun t73_39 H11 nx11 =>
                  wIf t73_39 (
                    wIdx t32_12 (tL_35.getD 0 undef) none 1 fun t78_40 =>
                    wLd t78_40 none H11 fun t79_41 =>
                    wBin .or t79_41 t57_27 fun t81_42 =>
                    wConv .u64 (tL_35.getD 0 undef) fun t83_43 =>
                    wBin .shl (.int .u32 1) t83_43 fun t84_44 =>
                    wBin .andNot t81_42 t84_44 fun t85_45 =>
                    wIdx t32_12 (tL_35.getD 0 undef) none 1 fun t86_46 =>
                    wSt t86_46 t85_45 1 H11 fun H12 =>
                    tj_37 [] H12 nx11) (
                    tj_37 [] H11 nx11)) (fun tL_38 H10 nx10 =>
                  wBin .add (tL_35.getD 0 undef) (.int .i64 1) fun t70_47 =>
                  tih_34 [t70_47] H10 nx10)) (
                wBin .add (tL_17.getD 1 undef) (.int .i64 1) fun t42_48 =>
                tih_16 [t51_24, t42_48] H9 nx9)) [(.int .i64 0)] H8 nx8)) (
          forceV (.bool true) fun tv_49 => k tv_49 H7 nx7)) [t36_15, (.int .i64 0)] H6 nx6)) [t19_3, t21_4] H2 nx2
theorem eq17 (a0 a1 a2 a3 : Value) (H : Heap) (nx : Nat) (k : EP) : wBody Tryz.prog 87 7 d17 [(.s 8, none)] [a0, a1, a2, a3] H nx k = F17 a0 a1 a2 a3 H nx k := by kernel_rfl
theorem spec17 {a0 a1 a2 a3 : Value} {H : Heap} {nx : Nat} {k : EP} (h : F17 a0 a1 a2 a3 H nx k) : Ans Tryz.prog 17 [a0, a1, a2, a3] H nx k :=
  spec_of_body mixed namesOK cfn17 ok17 (by simp) ((eq17 a0 a1 a2 a3 H nx k).symm ▸ h)

/-! 5: ordinal/ordinallaw33.DichotomyChecks -/
def d5 : D :=
  (.seq
    (.ops [
        (none, [⟨none, some 3, .a (.box (.s 0))⟩,
        ⟨none, some 5, .a (.box (.s 2))⟩,
        ⟨none, some 6, .p (.mv (.c (.bool false)))⟩])] (.one .nil))
    (.seq
      (.seq
        (.ops [
            (none, [⟨none, some 8, .e (.call (.c (.func (.func 6) ⟨[]⟩ ⟨[]⟩)) [])⟩,
            ⟨none, some 9, .p (.un .not (.s 8))⟩])] (.one .nil))
        (.cond (.s 9)
          (.seq
            (.ops [
                (none, [⟨none, some 6, .p (.mv (.c (.bool false)))⟩])] (.one .nil))
            .ret)
          .skip))
      (.seq
        (.join [25] [10, 11, 12, 13, 14, 15, 16, 17, 18, 19, 20, 21, 22, 23, 24]
          (.ops [
              (none, [⟨none, some 10, .r (.ld (.s 3) (some 2))⟩,
              ⟨none, some 11, .p (.mv (.s 1))⟩,
              ⟨none, some 12, .e (.call (.c (.func (.func 7) ⟨[]⟩ ⟨[]⟩)) [.s 10, .s 11])⟩,
              ⟨none, some 13, .p (.un .not (.s 12))⟩,
              ⟨none, some 14, .p (.mv (.s 13))⟩]),
              (some (14, false), [⟨none, some 15, .p (.fld (.s 5) 1)⟩,
              ⟨none, some 16, .r (.ld (.s 15) none)⟩,
              ⟨none, some 17, .r (.len (.s 16) 0)⟩,
              ⟨none, some 18, .p (.bin .gtr (.s 17) (.c (.int .i64 10)))⟩]),
              (none, [⟨none, some 19, .p (.pick (.s 14) (.c (.bool true)) (.s 18))⟩,
              ⟨none, some 20, .p (.mv (.s 19))⟩]),
              (some (20, false), [⟨none, some 21, .p (.fld (.s 5) 2)⟩,
              ⟨none, some 22, .r (.ld (.s 21) none)⟩,
              ⟨none, some 23, .r (.len (.s 22) 0)⟩,
              ⟨none, some 24, .p (.bin .gtr (.s 23) (.c (.int .i64 10)))⟩]),
              (none, [⟨none, some 25, .p (.pick (.s 20) (.c (.bool true)) (.s 24))⟩])] (.one (.tst (.one (.tst (.one .nil) (.one .nil))) (.one (.one (.one .nil))))))
          (.cond (.s 25)
            (.seq
              (.ops [
                  (none, [⟨none, some 6, .p (.mv (.c (.bool true)))⟩])] (.one .nil))
              .ret)
            .skip))
        (.join [7] [26, 27, 28, 29, 30, 31, 32, 33, 34, 35, 36, 37, 38]
          (.ops [
              (none, [⟨none, some 26, .r (.ld (.s 3) (some 2))⟩,
              ⟨none, some 27, .e (.call (.c (.func (.func 15) ⟨[]⟩ ⟨[]⟩)) [.s 26])⟩,
              ⟨none, some 28, .p (.bin .eql (.s 27) (.c (.int .i64 0)))⟩,
              ⟨none, some 29, .p (.mv (.s 28))⟩]),
              (some (29, true), [⟨none, some 30, .p (.mv (.s 1))⟩,
              ⟨none, some 31, .p (.bin .geq (.s 30) (.c (.int .i64 0)))⟩]),
              (none, [⟨none, some 32, .p (.pick (.s 29) (.s 31) (.c (.bool false)))⟩,
              ⟨none, some 33, .p (.mv (.s 32))⟩]),
              (some (33, true), [⟨none, some 34, .p (.mv (.s 1))⟩,
              ⟨none, some 35, .p (.fld (.s 3) 0)⟩,
              ⟨none, some 36, .r (.ld (.s 35) none)⟩,
              ⟨none, some 37, .p (.bin .leq (.s 34) (.s 36))⟩]),
              (none, [⟨none, some 38, .p (.pick (.s 33) (.s 37) (.c (.bool false)))⟩,
              ⟨none, some 7, .p (.mv (.s 38))⟩])] (.one (.tst (.one (.tst (.one .nil) (.one .nil))) (.one (.one (.one .nil))))))
          (.join [7] [39, 40, 41, 42, 43, 44, 45, 46, 47, 48, 49, 50, 51, 52, 53, 54, 55, 56, 57, 58, 59, 60, 61, 62, 63, 64, 65, 66, 67, 68, 69, 70, 71, 72, 73, 74, 75, 76, 77, 78, 79, 80, 81, 82, 83, 84, 85, 86, 87, 88, 89, 90, 91, 92, 93, 94, 95, 96, 97, 98, 99, 100, 101, 102, 103, 104, 105, 106, 107, 108, 109, 110, 111, 112, 113, 114, 115, 116, 117, 118, 119, 120]
            (.seq
              (.ops [
                  (none, [⟨none, some 39, .p (.mv (.s 7))⟩])] (.one .nil))
              (.cond (.s 39)
                (.seq
                  (.ops [
                      (none, [⟨none, some 40, .p (.fld (.s 5) 0)⟩,
                      ⟨none, some 41, .r (.ld (.s 40) none)⟩])] (.one .nil))
                  (.block 0
                    (.seq
                      (.ops [
                          (none, [⟨none, some 43, .p (.bin .eql (.s 41) (.c (.int .i64 0)))⟩,
                          ⟨none, some 42, .p (.mv (.s 43))⟩])] (.one .nil))
                      (.cond (.s 42)
                        (.ops [
                            (none, [⟨none, some 44, .p (.fld (.s 5) 2)⟩,
                            ⟨none, some 45, .r (.ld (.s 44) none)⟩,
                            ⟨none, some 46, .r (.len (.s 45) 0)⟩,
                            ⟨none, some 47, .p (.bin .eql (.s 46) (.c (.int .i64 0)))⟩,
                            ⟨none, some 48, .p (.mv (.s 47))⟩]),
                            (some (48, true), [⟨none, some 49, .p (.fld (.s 5) 1)⟩,
                            ⟨none, some 50, .r (.ld (.s 49) none)⟩,
                            ⟨none, some 51, .p (.mv (.s 1))⟩,
                            ⟨none, some 52, .p (.fld (.s 3) 0)⟩,
                            ⟨none, some 53, .r (.ld (.s 52) none)⟩,
                            ⟨none, some 54, .e (.call (.c (.func (.func 16) ⟨[]⟩ ⟨[]⟩)) [.s 50, .s 51, .s 53])⟩]),
                            (none, [⟨none, some 55, .p (.pick (.s 48) (.s 54) (.c (.bool false)))⟩,
                            ⟨none, some 56, .p (.mv (.s 55))⟩]),
                            (some (56, true), [⟨none, some 57, .p (.fld (.s 3) 1)⟩,
                            ⟨none, some 58, .r (.ld (.s 57) none)⟩,
                            ⟨none, some 59, .p (.fld (.s 3) 0)⟩,
                            ⟨none, some 60, .r (.ld (.s 59) none)⟩,
                            ⟨none, some 61, .p (.mv (.s 1))⟩,
                            ⟨none, some 62, .p (.fld (.s 5) 1)⟩,
                            ⟨none, some 63, .r (.ld (.s 62) none)⟩,
                            ⟨none, some 64, .e (.call (.c (.func (.func 17) ⟨[]⟩ ⟨[]⟩)) [.s 58, .s 60, .s 61, .s 63])⟩]),
                            (none, [⟨none, some 65, .p (.pick (.s 56) (.s 64) (.c (.bool false)))⟩,
                            ⟨none, some 7, .p (.mv (.s 65))⟩])] (.one (.tst (.one (.tst (.one .nil) (.one .nil))) (.one (.one (.one .nil))))))
                        (.seq
                          (.ops [
                              (none, [⟨none, some 67, .p (.bin .eql (.s 41) (.c (.int .i64 1)))⟩,
                              ⟨none, some 66, .p (.mv (.s 67))⟩])] (.one .nil))
                          (.cond (.s 66)
                            (.ops [
                                (none, [⟨none, some 68, .p (.fld (.s 5) 1)⟩,
                                ⟨none, some 69, .r (.ld (.s 68) none)⟩,
                                ⟨none, some 70, .r (.len (.s 69) 0)⟩,
                                ⟨none, some 71, .p (.bin .eql (.s 70) (.c (.int .i64 0)))⟩,
                                ⟨none, some 72, .p (.mv (.s 71))⟩]),
                                (some (72, true), [⟨none, some 73, .r (.ld (.s 3) (some 2))⟩,
                                ⟨none, some 74, .p (.fld (.s 5) 2)⟩,
                                ⟨none, some 75, .r (.ld (.s 74) none)⟩,
                                ⟨none, some 76, .e (.call (.c (.func (.func 18) ⟨[]⟩ ⟨[]⟩)) [.s 73, .s 75])⟩]),
                                (none, [⟨none, some 77, .p (.pick (.s 72) (.s 76) (.c (.bool false)))⟩,
                                ⟨none, some 7, .p (.mv (.s 77))⟩])] (.one (.tst (.one .nil) (.one .nil))))
                            (.seq
                              (.ops [
                                  (none, [⟨none, some 79, .p (.bin .eql (.s 41) (.c (.int .i64 2)))⟩,
                                  ⟨none, some 78, .p (.mv (.s 79))⟩])] (.one .nil))
                              (.cond (.s 78)
                                (.ops [
                                    (none, [⟨none, some 80, .p (.fld (.s 5) 1)⟩,
                                    ⟨none, some 81, .r (.ld (.s 80) none)⟩,
                                    ⟨none, some 82, .r (.len (.s 81) 0)⟩,
                                    ⟨none, some 83, .p (.bin .eql (.s 82) (.c (.int .i64 0)))⟩,
                                    ⟨none, some 84, .p (.mv (.s 83))⟩]),
                                    (some (84, true), [⟨none, some 85, .r (.ld (.s 3) (some 2))⟩,
                                    ⟨none, some 86, .p (.mv (.s 1))⟩,
                                    ⟨none, some 87, .p (.fld (.s 5) 2)⟩,
                                    ⟨none, some 88, .r (.ld (.s 87) none)⟩,
                                    ⟨none, some 89, .e (.call (.c (.func (.func 19) ⟨[]⟩ ⟨[]⟩)) [.s 85, .s 86, .s 88])⟩]),
                                    (none, [⟨none, some 90, .p (.pick (.s 84) (.s 89) (.c (.bool false)))⟩,
                                    ⟨none, some 7, .p (.mv (.s 90))⟩])] (.one (.tst (.one .nil) (.one .nil))))
                                (.seq
                                  (.ops [
                                      (none, [⟨none, some 92, .p (.bin .eql (.s 41) (.c (.int .i64 3)))⟩,
                                      ⟨none, some 91, .p (.mv (.s 92))⟩])] (.one .nil))
                                  (.cond (.s 91)
                                    (.draw [0, 1, 3, 7, 15, 31, 63, 127, 255, 511, 1023, 2047, 2047, 2047, 10239, 26623, 59391, 2047, 133119, 395263, 919551, 2047, 2099199, 6293503, 14682111, 33548287, 67108863, 134217727, 268435455] [
                                        (none, [⟨none, some 93, .p (.fld (.s 5) 1)⟩,
                                        ⟨none, some 94, .r (.ld (.s 93) none)⟩,
                                        ⟨none, some 95, .r (.len (.s 94) 0)⟩,
                                        ⟨none, some 96, .p (.bin .eql (.s 95) (.c (.int .i64 0)))⟩,
                                        ⟨none, some 97, .p (.mv (.s 96))⟩]),
                                        (some (97, true), [⟨none, some 98, .p (.fld (.s 5) 2)⟩,
                                        ⟨none, some 99, .r (.ld (.s 98) none)⟩,
                                        ⟨none, some 100, .r (.len (.s 99) 0)⟩,
                                        ⟨none, some 101, .p (.bin .eql (.s 100) (.c (.int .i64 3)))⟩]),
                                        (none, [⟨none, some 102, .p (.pick (.s 97) (.s 101) (.c (.bool false)))⟩,
                                        ⟨none, some 103, .p (.mv (.s 102))⟩]),
                                        (some (103, true), [⟨none, some 104, .r (.ld (.s 3) (some 2))⟩,
                                        ⟨none, some 105, .p (.mv (.s 1))⟩,
                                        ⟨none, some 106, .p (.fld (.s 5) 2)⟩,
                                        ⟨none, some 107, .r (.ld (.s 106) none)⟩,
                                        ⟨none, some 108, .p (.idx (.s 107) (.c (.int .i64 0)) none 1)⟩,
                                        ⟨none, some 109, .r (.ld (.s 108) none)⟩,
                                        ⟨none, some 110, .p (.fld (.s 5) 2)⟩,
                                        ⟨none, some 111, .r (.ld (.s 110) none)⟩,
                                        ⟨none, some 112, .p (.idx (.s 111) (.c (.int .i64 1)) none 1)⟩,
                                        ⟨none, some 113, .r (.ld (.s 112) none)⟩,
                                        ⟨none, some 114, .p (.fld (.s 5) 2)⟩,
                                        ⟨none, some 115, .r (.ld (.s 114) none)⟩,
                                        ⟨none, some 116, .p (.idx (.s 115) (.c (.int .i64 2)) none 1)⟩,
                                        ⟨none, some 117, .r (.ld (.s 116) none)⟩,
                                        ⟨none, some 118, .p (.build [.int .i64 0, .int .i64 0, .int .i64 0] [(0, 1), (1, 1), (2, 1)] [(0, .s 109), (1, .s 113), (2, .s 117)])⟩,
                                        ⟨none, some 119, .e (.call (.c (.func (.func 20) ⟨[]⟩ ⟨[]⟩)) [.s 104, .s 105, .s 118])⟩]),
                                        (none, [⟨none, some 120, .p (.pick (.s 103) (.s 119) (.c (.bool false)))⟩,
                                        ⟨none, some 7, .p (.mv (.s 120))⟩])] (.one (.tst (.one (.tst (.one .nil) (.one .nil))) (.one (.one (.one .nil))))))
                                    (.ops [
                                        (none, [⟨none, some 7, .p (.mv (.c (.bool false)))⟩])] (.one .nil))))))))))))
                .skip))
            (.seq
              (.ops [
                  (none, [⟨none, some 121, .r (.ld (.s 3) (some 2))⟩,
                  ⟨none, some 122, .p (.mv (.s 1))⟩,
                  ⟨none, some 123, .r (.ld (.s 5) (some 3))⟩,
                  ⟨none, some 124, .e (.call (.c (.func (.func 21) ⟨[]⟩ ⟨[]⟩)) [.s 121, .s 122, .s 123])⟩,
                  ⟨none, some 125, .p (.mv (.s 7))⟩,
                  ⟨none, some 126, .p (.vf (.eqb false) [.s 124, .s 125])⟩,
                  ⟨none, some 6, .p (.mv (.s 126))⟩])] (.one .nil))
              .ret))))))
theorem cfn5 : cfn Tryz.prog 5 = some ⟨127, 7, d5.erase, [(.s 6, none)]⟩ := by kernel_rfl
theorem ok5 : d5.ok 127 7 = true := by kernel_rfl
noncomputable def F5 (a0 a1 a2 : Value) (H : Heap) (nx : Nat) (k : EP) : Prop :=
  dBox a0 fun tc_1 => wNew (.cells tc_1 0) .ptr H nx fun t3_2 H1 nx1 =>
  dBox a2 fun tc_3 => wNew (.cells tc_3 0) .ptr H1 nx1 fun t5_4 H2 nx2 =>
  wCall Tryz.prog 6 [] H2 nx2 fun t8_5 H3 nx3 =>
  wUn .not t8_5 fun t9_6 =>
  wIf t9_6 (
    forceV (.bool false) fun tv_7 => k tv_7 H3 nx3) (
    wJoin (fun tj_8 =>
      wLd t3_2 (some 2) H3 fun t10_10 =>
      wCall Tryz.prog 7 [t10_10, a1] H3 nx3 fun t12_11 H5 nx5 =>
      wUn .not t12_11 fun t13_12 =>
      wGuard false t13_12 (
        wFld t5_4 1 fun t15_13 =>
        wLd t15_13 none H5 fun t16_14 =>
        wLen t16_14 0 H5 fun t17_15 =>
        wBin .gtr t17_15 (.int .i64 10) fun t18_16 =>
        wGuard false t18_16 (
          wFld t5_4 2 fun t21_17 =>
          wLd t21_17 none H5 fun t22_18 =>
          wLen t22_18 0 H5 fun t23_19 =>
          wBin .gtr t23_19 (.int .i64 10) fun t24_20 =>
          tj_8 [t24_20] H5 nx5) (
          tj_8 [(.bool true)] H5 nx5)) (
          tj_8 [(.bool true)] H5 nx5)) (fun tL_9 H4 nx4 =>
      wIf (tL_9.getD 0 undef) (
        forceV (.bool true) fun tv_21 => k tv_21 H4 nx4) (
        wJoin (fun tj_22 =>
          wLd t3_2 (some 2) H4 fun t26_24 =>
          wCall Tryz.prog 15 [t26_24] H4 nx4 fun t27_25 H7 nx7 =>
          wBin .eql t27_25 (.int .i64 0) fun t28_26 =>
          wGuard true t28_26 (
            wBin .geq a1 (.int .i64 0) fun t31_27 =>
            wGuard true t31_27 (
              wFld t3_2 0 fun t35_28 =>
              wLd t35_28 none H7 fun t36_29 =>
              wBin .leq a1 t36_29 fun t37_30 =>
              tj_22 [t37_30] H7 nx7) (
              tj_22 [(.bool false)] H7 nx7)) (
              tj_22 [(.bool false)] H7 nx7)) (fun tL_23 H6 nx6 =>
          wJoin (fun tj_31 =>
            wIf (tL_23.getD 0 undef) (
              wFld t5_4 0 fun t40_33 =>
              wLd t40_33 none H6 fun t41_34 =>
              wBin .eql t41_34 (.int .i64 0) fun t43_35 =>
              wIf t43_35 (
                wFld t5_4 2 fun t44_36 =>
                wLd t44_36 none H6 fun t45_37 =>
                wLen t45_37 0 H6 fun t46_38 =>
                wBin .eql t46_38 (.int .i64 0) fun t47_39 =>
                wGuard true t47_39 (
                  wFld t5_4 1 fun t49_40 =>
                  wLd t49_40 none H6 fun t50_41 =>
                  wFld t3_2 0 fun t52_42 =>
                  wLd t52_42 none H6 fun t53_43 =>
                  wCall Tryz.prog 16 [t50_41, a1, t53_43] H6 nx6 fun t54_44 H9 nx9 =>
                  wGuard true t54_44 (
                    wFld t3_2 1 fun t57_45 =>
                    wLd t57_45 none H9 fun t58_46 =>
                    wFld t3_2 0 fun t59_47 =>
                    wLd t59_47 none H9 fun t60_48 =>
                    wFld t5_4 1 fun t62_49 =>
                    wLd t62_49 none H9 fun t63_50 =>
                    wCall Tryz.prog 17 [t58_46, t60_48, a1, t63_50] H9 nx9 fun t64_51 H10 nx10 =>
                    tj_31 [t64_51] H10 nx10) (
                    tj_31 [(.bool false)] H9 nx9)) (
                    tj_31 [(.bool false)] H6 nx6)) (
                wBin .eql t41_34 (.int .i64 1) fun t67_52 =>
                wIf t67_52 (
                  wFld t5_4 1 fun t68_53 =>
                  wLd t68_53 none H6 fun t69_54 =>
                  wLen t69_54 0 H6 fun t70_55 =>
                  wBin .eql t70_55 (.int .i64 0) fun t71_56 =>
                  wGuard true t71_56 (
                    wLd t3_2 (some 2) H6 fun t73_57 =>
                    wFld t5_4 2 fun t74_58 =>
                    wLd t74_58 none H6 fun t75_59 =>
                    wCall Tryz.prog 18 [t73_57, t75_59] H6 nx6 fun t76_60 H11 nx11 =>
                    tj_31 [t76_60] H11 nx11) (
                    tj_31 [(.bool false)] H6 nx6)) (
                  wBin .eql t41_34 (.int .i64 2) fun t79_61 =>
                  wIf t79_61 (
                    wFld t5_4 1 fun t80_62 =>
                    wLd t80_62 none H6 fun t81_63 =>
                    wLen t81_63 0 H6 fun t82_64 =>
                    wBin .eql t82_64 (.int .i64 0) fun t83_65 =>
                    wGuard true t83_65 (
                      wLd t3_2 (some 2) H6 fun t85_66 =>
                      wFld t5_4 2 fun t87_67 =>
                      wLd t87_67 none H6 fun t88_68 =>
                      wCall Tryz.prog 19 [t85_66, a1, t88_68] H6 nx6 fun t89_69 H12 nx12 =>
                      tj_31 [t89_69] H12 nx12) (
                      tj_31 [(.bool false)] H6 nx6)) (
                    wBin .eql t41_34 (.int .i64 3) fun t92_70 =>
                    wIf t92_70 (
                      forceN (nx6 + 29) fun nx13 =>
                      wFld t5_4 1 fun t93_71 =>
                      wLd t93_71 none H6 fun t94_72 =>
                      wLen t94_72 0 H6 fun t95_73 =>
                      wBin .eql t95_73 (.int .i64 0) fun t96_74 =>
                      wGuard true t96_74 (
                        wFld t5_4 2 fun t98_75 =>
                        wLd t98_75 none H6 fun t99_76 =>
                        wLen t99_76 0 H6 fun t100_77 =>
                        wBin .eql t100_77 (.int .i64 3) fun t101_78 =>
                        wGuard true t101_78 (
                          wLd t3_2 (some 2) H6 fun t104_79 =>
                          wFld t5_4 2 fun t106_80 =>
                          wLd t106_80 none H6 fun t107_81 =>
                          wIdx t107_81 (.int .i64 0) none 1 fun t108_82 =>
                          wLd t108_82 none H6 fun t109_83 =>
                          wFld t5_4 2 fun t110_84 =>
                          wLd t110_84 none H6 fun t111_85 =>
                          wIdx t111_85 (.int .i64 1) none 1 fun t112_86 =>
                          wLd t112_86 none H6 fun t113_87 =>
                          wFld t5_4 2 fun t114_88 =>
                          wLd t114_88 none H6 fun t115_89 =>
                          wIdx t115_89 (.int .i64 2) none 1 fun t116_90 =>
                          wLd t116_90 none H6 fun t117_91 =>
                          wBuild [.int .i64 0, .int .i64 0, .int .i64 0] [(0, 1), (1, 1), (2, 1)] [(0, t109_83), (1, t113_87), (2, t117_91)] fun t118_92 =>
                          wCall Tryz.prog 20 [t104_79, a1, t118_92] H6 nx13 fun t119_93 H14 nx14 =>
                          (((((True) ∧ ((wLd t116_90 none H6 fun tq_104 => tq_104 = t117_91) ∧ True)) ∧ (((True) ∧ ((wLd t114_88 none H6 fun tq_103 => tq_103 = t115_89) ∧ True)) ∧ (((True) ∧ ((wLd t112_86 none H6 fun tq_102 => tq_102 = t113_87) ∧ True)) ∧ (((True) ∧ ((wLd t110_84 none H6 fun tq_101 => tq_101 = t111_85) ∧ True)) ∧ (((True) ∧ ((wLd t108_82 none H6 fun tq_100 => tq_100 = t109_83) ∧ True)) ∧ (((True) ∧ ((wLd t106_80 none H6 fun tq_99 => tq_99 = t107_81) ∧ True)) ∧ (((True) ∧ ((wLd t3_2 (some 2) H6 fun tq_98 => tq_98 = t104_79) ∧ True)) ∧ (((True) ∧ ((wLen t99_76 0 H6 fun tq_97 => tq_97 = t100_77) ∧ True)) ∧ (((True) ∧ ((wLd t98_75 none H6 fun tq_96 => tq_96 = t99_76) ∧ True)) ∧ (((True) ∧ ((wLen t94_72 0 H6 fun tq_95 => tq_95 = t95_73) ∧ True)) ∧ (((True) ∧ ((wLd t93_71 none H6 fun tq_94 => tq_94 = t94_72) ∧ True)) ∧ True)))))))))))) ∧ (
                            tj_31 [t119_93] H14 nx14)) ∨ False) (
                          (((((wLen t99_76 0 H6 fun tq_108 => tq_108 = t100_77) ∧ True) ∧ (((wLd t98_75 none H6 fun tq_107 => tq_107 = t99_76) ∧ True) ∧ (((wLen t94_72 0 H6 fun tq_106 => tq_106 = t95_73) ∧ True) ∧ (((wLd t93_71 none H6 fun tq_105 => tq_105 = t94_72) ∧ True) ∧ True))))) ∧ (
                            tj_31 [(.bool false)] H6 nx13)) ∨ False)) (
                          (((((wLen t94_72 0 H6 fun tq_110 => tq_110 = t95_73) ∧ True) ∧ (((wLd t93_71 none H6 fun tq_109 => tq_109 = t94_72) ∧ True) ∧ True))) ∧ (
                            tj_31 [(.bool false)] H6 nx13)) ∨ False)) (
                      tj_31 [(.bool false)] H6 nx6))))) (
              tj_31 [(tL_23.getD 0 undef)] H6 nx6)) (fun tL_32 H8 nx8 =>
            wLd t3_2 (some 2) H8 fun t121_111 =>
            wLd t5_4 (some 3) H8 fun t123_112 =>
            wCall Tryz.prog 21 [t121_111, a1, t123_112] H8 nx8 fun t124_113 H15 nx15 =>
            wVf (.eqb false) [t124_113, (tL_32.getD 0 undef)] fun t126_114 =>
            forceV t126_114 fun tv_115 => k tv_115 H15 nx15)))))
theorem eq5 (a0 a1 a2 : Value) (H : Heap) (nx : Nat) (k : EP) : wBody Tryz.prog 127 7 d5 [(.s 6, none)] [a0, a1, a2] H nx k = F5 a0 a1 a2 H nx k := by kernel_rfl
theorem spec5 {a0 a1 a2 : Value} {H : Heap} {nx : Nat} {k : EP} (h : F5 a0 a1 a2 H nx k) : Ans Tryz.prog 5 [a0, a1, a2] H nx k :=
  spec_of_body mixed namesOK cfn5 ok5 (by simp) ((eq5 a0 a1 a2 H nx k).symm ▸ h)

end Go.Proofs.YtdecggbglnbhlaaGreatDoor
