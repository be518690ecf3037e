/-
  MADE BY PROGRAM (wip/gen/gen.py): functions 11 7 3 4 5 as marked code, and their claims written out.
-/
import Derived.Test.YtjpgddpobnjmkaaDoorK6
import Derived.KernelRfl
set_option linter.unusedSimpArgs false
set_option linter.unusedVariables false
set_option linter.unusedSectionVars false
namespace Go.Proofs.YtjpgddpobnjmkaaDoor
open Go.Clo
set_option maxRecDepth 100000
/-! 11: ordinal/explain.ParseVerdict -/
def d11 : D :=
  (.seq
    (.ops [
        (none, [⟨none, some 4, .a (.alloc [.int .i64 0, .slice none 0 0, .slice none 0 0])⟩,
        ⟨none, some 5, .p (.mv (.c (.int .i64 0)))⟩])] (.one .nil))
    (.seq
      (.seq
        (.ops [
            (none, [⟨none, some 18, .p (.mv (.s 0))⟩,
            ⟨none, some 19, .e (.call (.c (.func (.func 14) ⟨[]⟩ ⟨[]⟩)) [.s 18])⟩,
            ⟨none, some 6, .p (.mv (.s 19))⟩])] (.one .nil))
        (.seq
          (.ops [
              (none, [⟨none, some 20, .p (.mv (.s 6))⟩,
              ⟨none, some 21, .p (.bin .neq (.s 20) (.c (.int .i64 0)))⟩])] (.one .nil))
          (.cond (.s 21)
            (.seq
              (.ops [
                  (none, [⟨none, some 22, .p (.build [.int .i64 0, .slice none 0 0, .slice none 0 0] [(0, 1), (1, 1), (2, 1)] [])⟩,
                  ⟨none, some 23, .p (.mv (.s 6))⟩,
                  ⟨none, none, .e (.st (.s 4) (.s 22) 3)⟩,
                  ⟨none, some 5, .p (.mv (.s 23))⟩])] (.one .nil))
              .ret)
            .skip)))
      (.seq
        (.ops [
            (none, [⟨none, some 24, .p (.mv (.s 1))⟩,
            ⟨none, some 25, .e (.call (.c (.func (.func 21) ⟨[]⟩ ⟨[]⟩)) [.s 24, .c (.string ⟨#[32]⟩)])⟩,
            ⟨none, some 7, .p (.mv (.s 25))⟩])] (.one .nil))
        (.seq
          (.draw [0, 0, 2, 6, 15, 31] [
              (none, [⟨none, some 26, .e (.call (.c (.func (.func 15) ⟨[]⟩ ⟨[]⟩)) [])⟩,
              ⟨none, some 27, .p (.mv (.s 7))⟩,
              ⟨none, some 28, .p (.idx (.s 27) (.c (.int .i64 0)) none 1)⟩,
              ⟨none, some 29, .r (.ld (.s 28) none)⟩,
              ⟨none, some 30, .e (.call (.c (.func (.func 22) ⟨[]⟩ ⟨[]⟩)) [.s 26, .s 29])⟩,
              ⟨none, some 8, .p (.mv (.s 30))⟩])] (.one .nil))
          (.seq
            (.join [36] [31, 32, 33, 34, 35]
              (.ops [
                  (none, [⟨none, some 31, .p (.mv (.s 8))⟩,
                  ⟨none, some 32, .p (.bin .lss (.s 31) (.c (.int .i64 0)))⟩,
                  ⟨none, some 33, .p (.mv (.s 32))⟩]),
                  (some (33, false), [⟨none, some 34, .p (.mv (.s 7))⟩,
                  ⟨none, some 35, .e (.call (.c (.func (.func 23) ⟨[]⟩ ⟨[]⟩)) [.s 34, .c (.string ⟨#[]⟩)])⟩]),
                  (none, [⟨none, some 36, .p (.pick (.s 33) (.c (.bool true)) (.s 35))⟩])] (.one (.tst (.one .nil) (.one .nil))))
              (.cond (.s 36)
                (.seq
                  (.ops [
                      (none, [⟨none, some 37, .p (.build [.int .i64 0, .slice none 0 0, .slice none 0 0] [(0, 1), (1, 1), (2, 1)] [])⟩,
                      ⟨none, none, .e (.st (.s 4) (.s 37) 3)⟩,
                      ⟨none, some 5, .p (.mv (.c (.int .i64 15)))⟩])] (.one .nil))
                  .ret)
                .skip))
            (.seq
              (.ops [
                  (none, [⟨none, some 38, .a (.mmap none)⟩,
                  ⟨none, some 9, .a (.alloc [.map none])⟩,
                  ⟨none, none, .e (.st (.s 9) (.s 38) 1)⟩])] (.one .nil))
              (.seq
                (.seq
                  (.ops [
                      (none, [⟨none, some 39, .p (.mv (.s 0))⟩,
                      ⟨none, some 40, .r (.len (.s 39) 0)⟩,
                      ⟨none, some 41, .p (.mv (.c (.int .i64 0)))⟩])] (.one .nil))
                  (.block 0
                    (.loop [41] [10, 11, 42, 43, 44, 45, 46, 47, 48, 49]
                      (.seq
                        (.ops [
                            (none, [⟨none, some 42, .p (.bin .lss (.s 41) (.s 40))⟩])] (.one .nil))
                        (.seq
                          (.cond (.s 42)
                            .skip
                            (.exit 0))
                          (.seq
                            (.block 1
                              (.seq
                                (.ops [
                                    (none, [⟨none, some 43, .p (.mv (.s 41))⟩,
                                    ⟨none, some 44, .p (.idx (.s 39) (.s 41) none 1)⟩,
                                    ⟨none, some 45, .r (.ld (.s 44) none)⟩,
                                    ⟨none, some 10, .p (.mv (.s 43))⟩,
                                    ⟨none, some 11, .p (.mv (.s 45))⟩])] (.one .nil))
                                (.ops [
                                    (none, [⟨none, some 46, .r (.ld (.s 9) none)⟩,
                                    ⟨none, some 47, .p (.mv (.s 11))⟩,
                                    ⟨none, some 48, .p (.mv (.s 10))⟩,
                                    ⟨none, none, .e (.upd .string (.s 46) (.s 47) (.s 48))⟩])] (.one .nil))))
                            (.ops [
                                (none, [⟨none, some 49, .p (.bin .add (.s 41) (.c (.int .i64 1)))⟩,
                                ⟨none, some 41, .p (.mv (.s 49))⟩])] (.one .nil))))))))
                (.seq
                  (.ops [
                      (none, [⟨none, some 50, .p (.mkf (.func 24) [] [.s 9])⟩,
                      ⟨none, some 12, .p (.mv (.s 50))⟩])] (.one .nil))
                  (.seq
                    (.ops [
                        (none, [⟨none, some 51, .a (.bsl 0 1 [.int .i64 0] [])⟩,
                        ⟨none, some 13, .p (.mv (.s 51))⟩])] (.one .nil))
                    (.seq
                      (.seq
                        (.ops [
                            (none, [⟨none, some 52, .p (.mv (.s 7))⟩,
                            ⟨none, some 53, .r (.sl (.s 52) 1 (some (.c (.int .i64 1))) none none)⟩,
                            ⟨none, some 54, .r (.len (.s 53) 0)⟩,
                            ⟨none, some 55, .p (.mv (.c (.int .i64 0)))⟩])] (.one .nil))
                        (.block 2
                          (.loop [13, 55] [5, 15, 16, 17, 56, 57, 58, 59, 60, 61, 62, 63, 64, 65, 66, 67, 68, 69, 70, 71, 72]
                            (.seq
                              (.ops [
                                  (none, [⟨none, some 56, .p (.bin .lss (.s 55) (.s 54))⟩])] (.one .nil))
                              (.seq
                                (.cond (.s 56)
                                  .skip
                                  (.exit 2))
                                (.seq
                                  (.block 3
                                    (.seq
                                      (.ops [
                                          (none, [⟨none, some 57, .p (.idx (.s 53) (.s 55) none 1)⟩,
                                          ⟨none, some 58, .r (.ld (.s 57) none)⟩,
                                          ⟨none, some 15, .p (.mv (.s 58))⟩])] (.one .nil))
                                      (.seq
                                        (.ops [
                                            (none, [⟨none, some 60, .p (.mv (.s 12))⟩,
                                            ⟨none, some 61, .p (.mv (.s 15))⟩,
                                            ⟨none, some 62, .e (.call (.s 60) [.s 61])⟩,
                                            ⟨none, some 59, .p (.mv (.s 62))⟩,
                                            ⟨none, some 63, .p (.ext (.s 59) 0)⟩,
                                            ⟨none, some 64, .p (.ext (.s 59) 1)⟩,
                                            ⟨none, some 16, .p (.mv (.s 63))⟩,
                                            ⟨none, some 17, .p (.mv (.s 64))⟩])] (.one .nil))
                                        (.seq
                                          (.seq
                                            (.ops [
                                                (none, [⟨none, some 65, .p (.mv (.s 17))⟩,
                                                ⟨none, some 66, .p (.un .not (.s 65))⟩])] (.one .nil))
                                            (.cond (.s 66)
                                              (.seq
                                                (.ops [
                                                    (none, [⟨none, some 67, .p (.build [.int .i64 0, .slice none 0 0, .slice none 0 0] [(0, 1), (1, 1), (2, 1)] [])⟩,
                                                    ⟨none, none, .e (.st (.s 4) (.s 67) 3)⟩,
                                                    ⟨none, some 5, .p (.mv (.c (.int .i64 7)))⟩])] (.one .nil))
                                                .ret)
                                              .skip))
                                          (.ops [
                                              (none, [⟨none, some 68, .p (.mv (.s 13))⟩,
                                              ⟨none, some 69, .p (.mv (.s 16))⟩,
                                              ⟨none, some 70, .a (.bsl 1 1 [.int .i64 0] [(0, .s 69)])⟩,
                                              ⟨none, some 71, .e (.app (.s 68) (.s 70) 1 8)⟩,
                                              ⟨none, some 13, .p (.mv (.s 71))⟩])] (.one .nil))))))
                                  (.ops [
                                      (none, [⟨none, some 72, .p (.bin .add (.s 55) (.c (.int .i64 1)))⟩,
                                      ⟨none, some 55, .p (.mv (.s 72))⟩])] (.one .nil))))))))
                      (.seq
                        (.seq
                          (.ops [
                              (none, [⟨none, some 73, .p (.mv (.s 8))⟩,
                              ⟨none, some 74, .p (.bin .eql (.s 73) (.c (.int .i64 0)))⟩])] (.one .nil))
                          (.cond (.s 74)
                            (.seq
                              (.ops [
                                  (none, [⟨none, some 75, .p (.mv (.s 8))⟩,
                                  ⟨none, some 76, .p (.mv (.s 13))⟩,
                                  ⟨none, some 77, .p (.build [.int .i64 0, .slice none 0 0, .slice none 0 0] [(0, 1), (1, 1), (2, 1)] [(0, .s 75), (1, .s 76)])⟩,
                                  ⟨none, none, .e (.st (.s 4) (.s 77) 3)⟩,
                                  ⟨none, some 5, .p (.mv (.c (.int .i64 0)))⟩])] (.one .nil))
                              .ret)
                            .skip))
                        (.seq
                          (.ops [
                              (none, [⟨none, some 78, .p (.mv (.s 8))⟩,
                              ⟨none, some 79, .p (.mv (.s 13))⟩,
                              ⟨none, some 80, .p (.build [.int .i64 0, .slice none 0 0, .slice none 0 0] [(0, 1), (1, 1), (2, 1)] [(0, .s 78), (2, .s 79)])⟩,
                              ⟨none, none, .e (.st (.s 4) (.s 80) 3)⟩,
                              ⟨none, some 5, .p (.mv (.c (.int .i64 0)))⟩])] (.one .nil))
                          .ret))))))))))))
theorem cfn11 : cfn Tryd.prog 11 = some ⟨81, 7, d11.erase, [(.s 4, some (some 3)), (.s 5, none)]⟩ := by kernel_rfl
theorem ok11 : d11.ok 81 7 = true := by kernel_rfl
noncomputable def F11 (a0 a1 : Value) (H : Heap) (nx : Nat) (k : EP) : Prop :=
  wNew (.cells [.int .i64 0, .slice none 0 0, .slice none 0 0] 0) .ptr H nx fun t4_1 H1 nx1 =>
  wCall Tryd.prog 14 [a0] H1 nx1 fun t19_2 H2 nx2 =>
  wBin .neq t19_2 (.int .i64 0) fun t21_3 =>
  wIf t21_3 (
    wBuild [.int .i64 0, .slice none 0 0, .slice none 0 0] [(0, 1), (1, 1), (2, 1)] [] fun t22_4 =>
    wSt t4_1 t22_4 3 H2 fun H3 =>
    wLd t4_1 (some 3) H3 fun tr_5 =>
    forceV (.tuple ⟨[tr_5, t19_2]⟩) fun tv_6 => k tv_6 H3 nx2) (
    wCall Tryd.prog 21 [a1, (.string ⟨#[32]⟩)] H2 nx2 fun t25_7 H4 nx4 =>
    forceN (nx4 + 6) fun nx5 =>
    wCall Tryd.prog 15 [] H4 nx5 fun t26_8 H6 nx6 =>
    wIdx t25_7 (.int .i64 0) none 1 fun t28_9 =>
    wLd t28_9 none H6 fun t29_10 =>
    wCall Tryd.prog 22 [t26_8, t29_10] H6 nx6 fun t30_11 H7 nx7 =>
    (((((True) ∧ ((wLd t28_9 none H6 fun tq_12 => tq_12 = t29_10) ∧ ((wLd t28_9 none H4 fun tq_13 => tq_13 = t29_10) ∧ True))) ∧ True)) ∧ (
      wJoin (fun tj_14 =>
        wBin .lss t30_11 (.int .i64 0) fun t32_16 =>
        wGuard false t32_16 (
          wCall Tryd.prog 23 [t25_7, (.string ⟨#[]⟩)] H7 nx7 fun t35_17 H9 nx9 =>
          tj_14 [t35_17] H9 nx9) (
          tj_14 [(.bool true)] H7 nx7)) (fun tL_15 H8 nx8 =>
        wIf (tL_15.getD 0 undef) (
          wBuild [.int .i64 0, .slice none 0 0, .slice none 0 0] [(0, 1), (1, 1), (2, 1)] [] fun t37_18 =>
          wSt t4_1 t37_18 3 H8 fun H10 =>
          wLd t4_1 (some 3) H10 fun tr_19 =>
          forceV (.tuple ⟨[tr_19, (.int .i64 15)]⟩) fun tv_20 => k tv_20 H10 nx8) (
          dMmap none <| wNew (.map [] 0) .map H8 nx8 fun t38_21 H11 nx11 =>
          wNew (.cells [.map none] 0) .ptr H11 nx11 fun t9_22 H12 nx12 =>
          wSt t9_22 t38_21 1 H12 fun H13 =>
          wLen a0 0 H13 fun t40_23 =>
          wLoop (fun tih_24 tL_25 H14 nx14 =>
            wBin .lss (tL_25.getD 0 undef) t40_23 fun t42_26 =>
            wIf t42_26 (
              wIdx a0 (tL_25.getD 0 undef) none 1 fun t44_27 =>
              wLd t44_27 none H14 fun t45_28 =>
              wLd t9_22 none H14 fun t46_29 =>
              wUpd .string t46_29 t45_28 (tL_25.getD 0 undef) H14 nx14 fun u_30 H15 nx15 =>
              wBin .add (tL_25.getD 0 undef) (.int .i64 1) fun t49_31 =>
              tih_24 [t49_31] H15 nx15) (
              dBsl 0 1 [.int .i64 0] [] fun tc_32 => wNew (.cells tc_32 0) (.slice 0 0) H14 nx14 fun t51_33 H16 nx16 =>
              wSl t25_7 1 (some (.int .i64 1)) none none H16 fun t53_34 =>
              wLen t53_34 0 H16 fun t54_35 =>
              wLoop (fun tih_36 tL_37 H17 nx17 =>
                wBin .lss (tL_37.getD 1 undef) t54_35 fun t56_38 =>
                wIf t56_38 (
                  wIdx t53_34 (tL_37.getD 1 undef) none 1 fun t57_39 =>
                  wLd t57_39 none H17 fun t58_40 =>
                  wCallV Tryd.prog (.func (.func 24) ⟨[]⟩ ⟨[t9_22]⟩) [t58_40] H17 nx17 fun t62_41 H18 nx18 =>
                  wExt t62_41 0 fun t63_42 =>
                  wExt t62_41 1 fun t64_43 =>
                  wUn .not t64_43 fun t66_44 =>
                  wIf t66_44 (
                    wBuild [.int .i64 0, .slice none 0 0, .slice none 0 0] [(0, 1), (1, 1), (2, 1)] [] fun t67_45 =>
                    wSt t4_1 t67_45 3 H18 fun H19 =>
                    wLd t4_1 (some 3) H19 fun tr_46 =>
                    forceV (.tuple ⟨[tr_46, (.int .i64 7)]⟩) fun tv_47 => k tv_47 H19 nx18) (
                    dBsl 1 1 [.int .i64 0] [(0, t63_42)] fun tc_48 => wNew (.cells tc_48 0) (.slice 1 1) H18 nx18 fun t70_49 H20 nx20 =>
                    wApp (tL_37.getD 0 undef) t70_49 1 8 H20 nx20 fun t71_50 H21 nx21 =>
                    wBin .add (tL_37.getD 1 undef) (.int .i64 1) fun t72_51 =>
                    tih_36 [t71_50, t72_51] H21 nx21)) (
                  wBin .eql t30_11 (.int .i64 0) fun t74_52 =>
                  wIf t74_52 (
                    wBuild [.int .i64 0, .slice none 0 0, .slice none 0 0] [(0, 1), (1, 1), (2, 1)] [(0, t30_11), (1, (tL_37.getD 0 undef))] fun t77_53 =>
                    wSt t4_1 t77_53 3 H17 fun H22 =>
                    wLd t4_1 (some 3) H22 fun tr_54 =>
                    forceV (.tuple ⟨[tr_54, (.int .i64 0)]⟩) fun tv_55 => k tv_55 H22 nx17) (
                    wBuild [.int .i64 0, .slice none 0 0, .slice none 0 0] [(0, 1), (1, 1), (2, 1)] [(0, t30_11), (2, (tL_37.getD 0 undef))] fun t80_56 =>
                    wSt t4_1 t80_56 3 H17 fun H23 =>
                    wLd t4_1 (some 3) H23 fun tr_57 =>
                    forceV (.tuple ⟨[tr_57, (.int .i64 0)]⟩) fun tv_58 => k tv_58 H23 nx17))) [t51_33, (.int .i64 0)] H16 nx16)) [(.int .i64 0)] H13 nx12)))) ∨ False)
theorem eq11 (a0 a1 : Value) (H : Heap) (nx : Nat) (k : EP) : wBody Tryd.prog 81 7 d11 [(.s 4, some (some 3)), (.s 5, none)] [a0, a1] H nx k = F11 a0 a1 H nx k := by kernel_rfl
theorem spec11 {a0 a1 : Value} {H : Heap} {nx : Nat} {k : EP} (h : F11 a0 a1 H nx k) : Ans Tryd.prog 11 [a0, a1] H nx k :=
  spec_of_body mixed namesOK cfn11 ok11 (by simp) ((eq11 a0 a1 H nx k).symm ▸ h)

/-! 7: ordinal/ordinallaw56.awake -/
def d7 : D :=
  (.seq
    (.ops [
        (none, [⟨none, some 0, .p (.mv (.c (.bool false)))⟩])] (.one .nil))
    (.seq
      (.ops [
          (none, [⟨none, some 8, .a (.bsl 3 1 [.string ⟨#[]⟩] [(0, .c (.string ⟨#[120]⟩)), (1, .c (.string ⟨#[121]⟩)), (2, .c (.string ⟨#[122]⟩))])⟩,
          ⟨none, some 1, .p (.mv (.s 8))⟩])] (.one .nil))
      (.seq
        (.ops [
            (none, [⟨none, some 10, .p (.mv (.s 1))⟩,
            ⟨none, some 11, .a (.bsl 3 1 [.int .i64 0] [(0, .c (.int .i64 0)), (1, .c (.int .i64 1)), (2, .c (.int .i64 2))])⟩,
            ⟨none, some 12, .p (.build [.int .i64 0, .slice none 0 0, .slice none 0 0] [(0, 1), (1, 1), (2, 1)] [(0, .c (.int .i64 3)), (2, .s 11)])⟩,
            ⟨none, some 13, .e (.call (.c (.func (.func 8) ⟨[]⟩ ⟨[]⟩)) [.s 10, .s 12])⟩,
            ⟨none, some 9, .p (.mv (.s 13))⟩,
            ⟨none, some 14, .p (.ext (.s 9) 0)⟩,
            ⟨none, some 15, .p (.ext (.s 9) 1)⟩,
            ⟨none, some 2, .p (.mv (.s 14))⟩,
            ⟨none, some 3, .p (.mv (.s 15))⟩])] (.one .nil))
        (.seq
          (.ops [
              (none, [⟨none, some 17, .p (.mv (.s 1))⟩,
              ⟨none, some 18, .p (.build [.int .i64 0, .slice none 0 0, .slice none 0 0] [(0, 1), (1, 1), (2, 1)] [])⟩,
              ⟨none, some 19, .e (.call (.c (.func (.func 8) ⟨[]⟩ ⟨[]⟩)) [.s 17, .s 18])⟩,
              ⟨none, some 16, .p (.mv (.s 19))⟩,
              ⟨none, some 20, .p (.ext (.s 16) 0)⟩,
              ⟨none, some 21, .p (.ext (.s 16) 1)⟩,
              ⟨none, some 4, .p (.mv (.s 20))⟩,
              ⟨none, some 5, .p (.mv (.s 21))⟩])] (.one .nil))
          (.seq
            (.ops [
                (none, [⟨none, some 23, .p (.mv (.s 1))⟩,
                ⟨none, some 24, .e (.call (.c (.func (.func 11) ⟨[]⟩ ⟨[]⟩)) [.s 23, .c (.string ⟨#[112, 97, 116, 104, 32, 122, 32, 120]⟩)])⟩,
                ⟨none, some 22, .p (.mv (.s 24))⟩,
                ⟨none, some 25, .p (.ext (.s 22) 0)⟩,
                ⟨none, some 26, .p (.ext (.s 22) 1)⟩,
                ⟨none, some 6, .a (.alloc [.int .i64 0, .slice none 0 0, .slice none 0 0])⟩,
                ⟨none, none, .e (.st (.s 6) (.s 25) 3)⟩,
                ⟨none, some 7, .p (.mv (.s 26))⟩])] (.one .nil))
            (.seq
              (.ops [
                  (none, [⟨none, some 27, .p (.mv (.s 3))⟩,
                  ⟨none, some 28, .p (.bin .eql (.s 27) (.c (.int .i64 0)))⟩,
                  ⟨none, some 29, .p (.mv (.s 28))⟩]),
                  (some (29, true), [⟨none, some 30, .p (.mv (.s 5))⟩,
                  ⟨none, some 31, .p (.bin .eql (.s 30) (.c (.int .i64 0)))⟩]),
                  (none, [⟨none, some 32, .p (.pick (.s 29) (.s 31) (.c (.bool false)))⟩,
                  ⟨none, some 33, .p (.mv (.s 32))⟩]),
                  (some (33, true), [⟨none, some 34, .p (.mv (.s 7))⟩,
                  ⟨none, some 35, .p (.bin .eql (.s 34) (.c (.int .i64 0)))⟩]),
                  (none, [⟨none, some 36, .p (.pick (.s 33) (.s 35) (.c (.bool false)))⟩,
                  ⟨none, some 37, .p (.mv (.s 36))⟩]),
                  (some (37, true), [⟨none, some 38, .p (.mv (.s 2))⟩,
                  ⟨none, some 39, .p (.bin .eql (.s 38) (.c (.string ⟨#[116, 114, 105, 111, 32, 120, 32, 121, 32, 122]⟩)))⟩]),
                  (none, [⟨none, some 40, .p (.pick (.s 37) (.s 39) (.c (.bool false)))⟩,
                  ⟨none, some 41, .p (.mv (.s 40))⟩]),
                  (some (41, true), [⟨none, some 42, .p (.mv (.s 4))⟩,
                  ⟨none, some 43, .p (.bin .eql (.s 42) (.c (.string ⟨#[97, 99, 99, 101, 112, 116, 101, 100]⟩)))⟩]),
                  (none, [⟨none, some 44, .p (.pick (.s 41) (.s 43) (.c (.bool false)))⟩,
                  ⟨none, some 45, .p (.mv (.s 44))⟩]),
                  (some (45, true), [⟨none, some 46, .p (.fld (.s 6) 0)⟩,
                  ⟨none, some 47, .r (.ld (.s 46) none)⟩,
                  ⟨none, some 48, .p (.bin .eql (.s 47) (.c (.int .i64 2)))⟩]),
                  (none, [⟨none, some 49, .p (.pick (.s 45) (.s 48) (.c (.bool false)))⟩,
                  ⟨none, some 50, .p (.mv (.s 49))⟩]),
                  (some (50, true), [⟨none, some 51, .p (.fld (.s 6) 2)⟩,
                  ⟨none, some 52, .r (.ld (.s 51) none)⟩,
                  ⟨none, some 53, .a (.bsl 2 1 [.int .i64 0] [(0, .c (.int .i64 2)), (1, .c (.int .i64 0))])⟩,
                  ⟨none, some 54, .e (.call (.c (.func (.func 13) ⟨[]⟩ ⟨[]⟩)) [.s 52, .s 53])⟩]),
                  (none, [⟨none, some 55, .p (.pick (.s 50) (.s 54) (.c (.bool false)))⟩,
                  ⟨none, some 56, .p (.mv (.s 55))⟩]),
                  (some (56, true), [⟨none, some 57, .p (.fld (.s 6) 1)⟩,
                  ⟨none, some 58, .r (.ld (.s 57) none)⟩,
                  ⟨none, some 59, .r (.len (.s 58) 0)⟩,
                  ⟨none, some 60, .p (.bin .eql (.s 59) (.c (.int .i64 0)))⟩]),
                  (none, [⟨none, some 61, .p (.pick (.s 56) (.s 60) (.c (.bool false)))⟩,
                  ⟨none, some 0, .p (.mv (.s 61))⟩])] (.one (.tst (.one (.tst (.one (.tst (.one (.tst (.one (.tst (.one (.tst (.one (.tst (.one .nil) (.one .nil))) (.one (.one (.one .nil))))) (.one (.one (.one (.one (.one .nil))))))) (.one (.one (.one (.one (.one (.one (.one .nil))))))))) (.one (.one (.one (.one (.one (.one (.one (.one (.one .nil))))))))))) (.one (.one (.one (.one (.one (.one (.one (.one (.one (.one (.one .nil))))))))))))) (.one (.one (.one (.one (.one (.one (.one (.one (.one (.one (.one (.one (.one .nil))))))))))))))))
              .ret))))))
theorem cfn7 : cfn Tryd.prog 7 = some ⟨62, 6, d7.erase, [(.s 0, none)]⟩ := by kernel_rfl
theorem ok7 : d7.ok 62 6 = true := by kernel_rfl
noncomputable def F7 (H : Heap) (nx : Nat) (k : EP) : Prop :=
  dBsl 3 1 [.string ⟨#[]⟩] [(0, (.string ⟨#[120]⟩)), (1, (.string ⟨#[121]⟩)), (2, (.string ⟨#[122]⟩))] fun tc_1 => wNew (.cells tc_1 0) (.slice 3 3) H nx fun t8_2 H1 nx1 =>
  dBsl 3 1 [.int .i64 0] [(0, (.int .i64 0)), (1, (.int .i64 1)), (2, (.int .i64 2))] fun tc_3 => wNew (.cells tc_3 0) (.slice 3 3) H1 nx1 fun t11_4 H2 nx2 =>
  wBuild [.int .i64 0, .slice none 0 0, .slice none 0 0] [(0, 1), (1, 1), (2, 1)] [(0, (.int .i64 3)), (2, t11_4)] fun t12_5 =>
  wCall Tryd.prog 8 [t8_2, t12_5] H2 nx2 fun t13_6 H3 nx3 =>
  wExt t13_6 0 fun t14_7 =>
  wExt t13_6 1 fun t15_8 =>
  wBuild [.int .i64 0, .slice none 0 0, .slice none 0 0] [(0, 1), (1, 1), (2, 1)] [] fun t18_9 =>
  wCall Tryd.prog 8 [t8_2, t18_9] H3 nx3 fun t19_10 H4 nx4 =>
  wExt t19_10 0 fun t20_11 =>
  wExt t19_10 1 fun t21_12 =>
  wCall Tryd.prog 11 [t8_2, (.string ⟨#[112, 97, 116, 104, 32, 122, 32, 120]⟩)] H4 nx4 fun t24_13 H5 nx5 =>
  wExt t24_13 0 fun t25_14 =>
  wExt t24_13 1 fun t26_15 =>
  wNew (.cells [.int .i64 0, .slice none 0 0, .slice none 0 0] 0) .ptr H5 nx5 fun t6_16 H6 nx6 =>
  wSt t6_16 t25_14 3 H6 fun H7 =>
  wBin .eql t15_8 (.int .i64 0) fun t28_17 =>
  wGuard true t28_17 (
    wBin .eql t21_12 (.int .i64 0) fun t31_18 =>
    wGuard true t31_18 (
      wBin .eql t26_15 (.int .i64 0) fun t35_19 =>
      wGuard true t35_19 (
        wBin .eql t14_7 (.string ⟨#[116, 114, 105, 111, 32, 120, 32, 121, 32, 122]⟩) fun t39_20 =>
        wGuard true t39_20 (
          wBin .eql t20_11 (.string ⟨#[97, 99, 99, 101, 112, 116, 101, 100]⟩) fun t43_21 =>
          wGuard true t43_21 (
            wFld t6_16 0 fun t46_22 =>
            wLd t46_22 none H7 fun t47_23 =>
            wBin .eql t47_23 (.int .i64 2) fun t48_24 =>
            wGuard true t48_24 (
              wFld t6_16 2 fun t51_25 =>
              wLd t51_25 none H7 fun t52_26 =>
              dBsl 2 1 [.int .i64 0] [(0, (.int .i64 2)), (1, (.int .i64 0))] fun tc_27 => wNew (.cells tc_27 0) (.slice 2 2) H7 nx6 fun t53_28 H8 nx8 =>
              wCall Tryd.prog 13 [t52_26, t53_28] H8 nx8 fun t54_29 H9 nx9 =>
              wGuard true t54_29 (
                wFld t6_16 1 fun t57_30 =>
                wLd t57_30 none H9 fun t58_31 =>
                wLen t58_31 0 H9 fun t59_32 =>
                wBin .eql t59_32 (.int .i64 0) fun t60_33 =>
                forceV t60_33 fun tv_34 => k tv_34 H9 nx9) (
                forceV (.bool false) fun tv_35 => k tv_35 H9 nx9)) (
                forceV (.bool false) fun tv_36 => k tv_36 H7 nx6)) (
                forceV (.bool false) fun tv_37 => k tv_37 H7 nx6)) (
                forceV (.bool false) fun tv_38 => k tv_38 H7 nx6)) (
                forceV (.bool false) fun tv_39 => k tv_39 H7 nx6)) (
                forceV (.bool false) fun tv_40 => k tv_40 H7 nx6)) (
                forceV (.bool false) fun tv_41 => k tv_41 H7 nx6)
theorem eq7 (H : Heap) (nx : Nat) (k : EP) : wBody Tryd.prog 62 6 d7 [(.s 0, none)] [] H nx k = F7  H nx k := by kernel_rfl
theorem spec7 {H : Heap} {nx : Nat} {k : EP} (h : F7  H nx k) : Ans Tryd.prog 7 [] H nx k :=
  spec_of_body mixed namesOK cfn7 ok7 (by simp) ((eq7  H nx k).symm ▸ h)

/-! 3: ordinal/ordinallaw56.ExplainVerdicts -/
def d3 : D :=
  (.seq
    (.ops [
        (none, [⟨none, some 3, .a (.box (.s 1))⟩,
        ⟨none, some 4, .p (.mv (.c (.bool false)))⟩])] (.one .nil))
    (.seq
      (.seq
        (.ops [
            (none, [⟨none, some 9, .p (.mv (.s 0))⟩,
            ⟨none, some 10, .r (.ld (.s 3) (some 3))⟩,
            ⟨none, some 11, .e (.call (.c (.func (.func 6) ⟨[]⟩ ⟨[]⟩)) [.s 9, .s 10])⟩])] (.one .nil))
        (.cond (.s 11)
          (.seq
            (.ops [
                (none, [⟨none, some 12, .e (.call (.c (.func (.func 7) ⟨[]⟩ ⟨[]⟩)) [])⟩,
                ⟨none, some 4, .p (.mv (.s 12))⟩])] (.one .nil))
            .ret)
          .skip))
      (.seq
        (.ops [
            (none, [⟨none, some 14, .p (.mv (.s 0))⟩,
            ⟨none, some 15, .r (.ld (.s 3) (some 3))⟩,
            ⟨none, some 16, .e (.call (.c (.func (.func 8) ⟨[]⟩ ⟨[]⟩)) [.s 14, .s 15])⟩,
            ⟨none, some 13, .p (.mv (.s 16))⟩,
            ⟨none, some 17, .p (.ext (.s 13) 0)⟩,
            ⟨none, some 18, .p (.ext (.s 13) 1)⟩,
            ⟨none, some 5, .p (.mv (.s 17))⟩,
            ⟨none, some 6, .p (.mv (.s 18))⟩])] (.one .nil))
        (.seq
          (.draw [0, 0, 2, 0, 8, 31, 63, 127, 127, 255, 1023] [
              (none, [⟨none, some 20, .p (.mv (.s 0))⟩,
              ⟨none, some 21, .p (.fld (.s 3) 0)⟩,
              ⟨none, some 22, .r (.ld (.s 21) none)⟩,
              ⟨none, some 23, .r (.ld (.s 3) (some 3))⟩,
              ⟨none, some 24, .e (.call (.c (.func (.func 10) ⟨[]⟩ ⟨[]⟩)) [.s 23])⟩,
              ⟨none, some 25, .e (.call (.c (.func (.func 9) ⟨[]⟩ ⟨[]⟩)) [.s 20, .s 22, .s 24])⟩,
              ⟨none, some 19, .p (.mv (.s 25))⟩,
              ⟨none, some 26, .p (.ext (.s 19) 0)⟩,
              ⟨none, some 27, .p (.ext (.s 19) 1)⟩,
              ⟨none, some 7, .p (.mv (.s 26))⟩,
              ⟨none, some 8, .p (.mv (.s 27))⟩])] (.one .nil))
          (.seq
            (.ops [
                (none, [⟨none, some 28, .p (.mv (.s 5))⟩,
                ⟨none, some 29, .p (.mv (.s 7))⟩,
                ⟨none, some 30, .p (.bin .eql (.s 28) (.s 29))⟩,
                ⟨none, some 31, .p (.mv (.s 30))⟩]),
                (some (31, true), [⟨none, some 32, .p (.mv (.s 6))⟩,
                ⟨none, some 33, .p (.mv (.s 8))⟩,
                ⟨none, some 34, .p (.bin .eql (.s 32) (.s 33))⟩]),
                (none, [⟨none, some 35, .p (.pick (.s 31) (.s 34) (.c (.bool false)))⟩,
                ⟨none, some 36, .p (.mv (.s 35))⟩]),
                (some (36, true), [⟨none, some 37, .e (.call (.c (.func (.func 7) ⟨[]⟩ ⟨[]⟩)) [])⟩]),
                (none, [⟨none, some 38, .p (.pick (.s 36) (.s 37) (.c (.bool false)))⟩,
                ⟨none, some 4, .p (.mv (.s 38))⟩])] (.one (.tst (.one (.tst (.one .nil) (.one .nil))) (.one (.one (.one .nil))))))
            .ret)))))
theorem cfn3 : cfn Tryd.prog 3 = some ⟨39, 6, d3.erase, [(.s 4, none)]⟩ := by kernel_rfl
theorem ok3 : d3.ok 39 6 = true := by kernel_rfl
noncomputable def F3 (a0 a1 : Value) (H : Heap) (nx : Nat) (k : EP) : Prop :=
  dBox a1 fun tc_1 => wNew (.cells tc_1 0) .ptr H nx fun t3_2 H1 nx1 =>
  wLd t3_2 (some 3) H1 fun t10_3 =>
  wCall Tryd.prog 6 [a0, t10_3] H1 nx1 fun t11_4 H2 nx2 =>
  wIf t11_4 (
    wCall Tryd.prog 7 [] H2 nx2 fun t12_5 H3 nx3 =>
    forceV t12_5 fun tv_6 => k tv_6 H3 nx3) (
    wLd t3_2 (some 3) H2 fun t15_7 =>
    wCall Tryd.prog 8 [a0, t15_7] H2 nx2 fun t16_8 H4 nx4 =>
    wExt t16_8 0 fun t17_9 =>
    wExt t16_8 1 fun t18_10 =>
    forceN (nx4 + 11) fun nx5 =>
    wFld t3_2 0 fun t21_11 =>
    wLd t21_11 none H4 fun t22_12 =>
    wLd t3_2 (some 3) H4 fun t23_13 =>
    wCall Tryd.prog 10 [t23_13] H4 nx5 fun t24_14 H6 nx6 =>
    wCall Tryd.prog 9 [a0, t22_12, t24_14] H6 nx6 fun t25_15 H7 nx7 =>
    wExt t25_15 0 fun t26_16 =>
    wExt t25_15 1 fun t27_17 =>
    (((((True) ∧ ((True) ∧ ((wLd t3_2 (some 3) H4 fun tq_20 => tq_20 = t23_13) ∧ True))) ∧ (((True) ∧ ((wLd t21_11 none H6 fun tq_18 => tq_18 = t22_12) ∧ ((wLd t21_11 none H4 fun tq_19 => tq_19 = t22_12) ∧ True))) ∧ True))) ∧ (
      wBin .eql t17_9 t26_16 fun t30_21 =>
      wGuard true t30_21 (
        wBin .eql t18_10 t27_17 fun t34_22 =>
        wGuard true t34_22 (
          wCall Tryd.prog 7 [] H7 nx7 fun t37_23 H8 nx8 =>
          forceV t37_23 fun tv_24 => k tv_24 H8 nx8) (
          forceV (.bool false) fun tv_25 => k tv_25 H7 nx7)) (
          forceV (.bool false) fun tv_26 => k tv_26 H7 nx7))) ∨ False)
theorem eq3 (a0 a1 : Value) (H : Heap) (nx : Nat) (k : EP) : wBody Tryd.prog 39 6 d3 [(.s 4, none)] [a0, a1] H nx k = F3 a0 a1 H nx k := by kernel_rfl
theorem spec3 {a0 a1 : Value} {H : Heap} {nx : Nat} {k : EP} (h : F3 a0 a1 H nx k) : Ans Tryd.prog 3 [a0, a1] H nx k :=
  spec_of_body mixed namesOK cfn3 ok3 (by simp) ((eq3 a0 a1 H nx k).symm ▸ h)

/-! 4: ordinal/ordinallaw56.ExplainParses -/
def d4 : D :=
  (.seq
    (.ops [
        (none, [⟨none, some 4, .p (.mv (.c (.bool false)))⟩])] (.one .nil))
    (.seq
      (.join [17] [10, 11, 12, 13, 14, 15, 16]
        (.ops [
            (none, [⟨none, some 10, .p (.mv (.s 0))⟩,
            ⟨none, some 11, .p (.build [.int .i64 0, .slice none 0 0, .slice none 0 0] [(0, 1), (1, 1), (2, 1)] [])⟩,
            ⟨none, some 12, .e (.call (.c (.func (.func 6) ⟨[]⟩ ⟨[]⟩)) [.s 10, .s 11])⟩,
            ⟨none, some 13, .p (.mv (.s 12))⟩]),
            (some (13, false), [⟨none, some 14, .p (.mv (.s 1))⟩,
            ⟨none, some 15, .r (.len (.s 14) 1)⟩,
            ⟨none, some 16, .p (.bin .gtr (.s 15) (.c (.int .i64 300)))⟩]),
            (none, [⟨none, some 17, .p (.pick (.s 13) (.c (.bool true)) (.s 16))⟩])] (.one (.tst (.one .nil) (.one .nil))))
        (.cond (.s 17)
          (.seq
            (.ops [
                (none, [⟨none, some 18, .e (.call (.c (.func (.func 7) ⟨[]⟩ ⟨[]⟩)) [])⟩,
                ⟨none, some 4, .p (.mv (.s 18))⟩])] (.one .nil))
            .ret)
          .skip))
      (.seq
        (.ops [
            (none, [⟨none, some 20, .p (.mv (.s 0))⟩,
            ⟨none, some 21, .p (.mv (.s 1))⟩,
            ⟨none, some 22, .e (.call (.c (.func (.func 11) ⟨[]⟩ ⟨[]⟩)) [.s 20, .s 21])⟩,
            ⟨none, some 19, .p (.mv (.s 22))⟩,
            ⟨none, some 23, .p (.ext (.s 19) 0)⟩,
            ⟨none, some 24, .p (.ext (.s 19) 1)⟩,
            ⟨none, some 5, .a (.alloc [.int .i64 0, .slice none 0 0, .slice none 0 0])⟩,
            ⟨none, none, .e (.st (.s 5) (.s 23) 3)⟩,
            ⟨none, some 6, .p (.mv (.s 24))⟩])] (.one .nil))
        (.seq
          (.ops [
              (none, [⟨none, some 26, .p (.mv (.s 0))⟩,
              ⟨none, some 27, .p (.mv (.s 1))⟩,
              ⟨none, some 28, .e (.call (.c (.func (.func 12) ⟨[]⟩ ⟨[]⟩)) [.s 26, .s 27])⟩,
              ⟨none, some 25, .p (.mv (.s 28))⟩,
              ⟨none, some 29, .p (.ext (.s 25) 0)⟩,
              ⟨none, some 30, .p (.ext (.s 25) 1)⟩,
              ⟨none, some 31, .p (.ext (.s 25) 2)⟩,
              ⟨none, some 7, .p (.mv (.s 29))⟩,
              ⟨none, some 8, .p (.mv (.s 30))⟩,
              ⟨none, some 9, .p (.mv (.s 31))⟩])] (.one .nil))
          (.seq
            (.join [47] [32, 33, 34, 35, 36, 37, 38, 39, 40, 41, 42, 43, 44, 45, 46]
              (.ops [
                  (none, [⟨none, some 32, .p (.mv (.s 6))⟩,
                  ⟨none, some 33, .p (.mv (.s 9))⟩,
                  ⟨none, some 34, .p (.bin .neq (.s 32) (.s 33))⟩,
                  ⟨none, some 35, .p (.mv (.s 34))⟩]),
                  (some (35, false), [⟨none, some 36, .p (.fld (.s 5) 0)⟩,
                  ⟨none, some 37, .r (.ld (.s 36) none)⟩,
                  ⟨none, some 38, .p (.mv (.s 7))⟩,
                  ⟨none, some 39, .p (.bin .neq (.s 37) (.s 38))⟩]),
                  (none, [⟨none, some 40, .p (.pick (.s 35) (.c (.bool true)) (.s 39))⟩,
                  ⟨none, some 41, .p (.mv (.s 40))⟩]),
                  (some (41, false), [⟨none, some 42, .r (.ld (.s 5) (some 3))⟩,
                  ⟨none, some 43, .e (.call (.c (.func (.func 10) ⟨[]⟩ ⟨[]⟩)) [.s 42])⟩,
                  ⟨none, some 44, .p (.mv (.s 8))⟩,
                  ⟨none, some 45, .e (.call (.c (.func (.func 13) ⟨[]⟩ ⟨[]⟩)) [.s 43, .s 44])⟩,
                  ⟨none, some 46, .p (.un .not (.s 45))⟩]),
                  (none, [⟨none, some 47, .p (.pick (.s 41) (.c (.bool true)) (.s 46))⟩])] (.one (.tst (.one (.tst (.one .nil) (.one .nil))) (.one (.one (.one .nil))))))
              (.cond (.s 47)
                (.seq
                  (.ops [
                      (none, [⟨none, some 4, .p (.mv (.c (.bool false)))⟩])] (.one .nil))
                  .ret)
                .skip))
            (.seq
              (.ops [
                  (none, [⟨none, some 48, .p (.fld (.s 5) 1)⟩,
                  ⟨none, some 49, .r (.ld (.s 48) none)⟩,
                  ⟨none, some 50, .r (.len (.s 49) 0)⟩,
                  ⟨none, some 51, .p (.fld (.s 5) 2)⟩,
                  ⟨none, some 52, .r (.ld (.s 51) none)⟩,
                  ⟨none, some 53, .r (.len (.s 52) 0)⟩,
                  ⟨none, some 54, .p (.bin .add (.s 50) (.s 53))⟩,
                  ⟨none, some 55, .p (.mv (.s 8))⟩,
                  ⟨none, some 56, .r (.len (.s 55) 0)⟩,
                  ⟨none, some 57, .p (.bin .eql (.s 54) (.s 56))⟩,
                  ⟨none, some 58, .p (.mv (.s 57))⟩]),
                  (some (58, true), [⟨none, some 59, .e (.call (.c (.func (.func 7) ⟨[]⟩ ⟨[]⟩)) [])⟩]),
                  (none, [⟨none, some 60, .p (.pick (.s 58) (.s 59) (.c (.bool false)))⟩,
                  ⟨none, some 4, .p (.mv (.s 60))⟩])] (.one (.tst (.one .nil) (.one .nil))))
              .ret))))))
theorem cfn4 : cfn Tryd.prog 4 = some ⟨61, 6, d4.erase, [(.s 4, none)]⟩ := by kernel_rfl
theorem ok4 : d4.ok 61 6 = true := by kernel_rfl
noncomputable def F4 (a0 a1 : Value) (H : Heap) (nx : Nat) (k : EP) : Prop :=
  wJoin (fun tj_1 =>
    wBuild [.int .i64 0, .slice none 0 0, .slice none 0 0] [(0, 1), (1, 1), (2, 1)] [] fun t11_3 =>
    wCall Tryd.prog 6 [a0, t11_3] H nx fun t12_4 H2 nx2 =>
    wGuard false t12_4 (
      wLen a1 1 H2 fun t15_5 =>
      wBin .gtr t15_5 (.int .i64 300) fun t16_6 =>
      tj_1 [t16_6] H2 nx2) (
      tj_1 [(.bool true)] H2 nx2)) (fun tL_2 H1 nx1 =>
    wIf (tL_2.getD 0 undef) (
      wCall Tryd.prog 7 [] H1 nx1 fun t18_7 H3 nx3 =>
      forceV t18_7 fun tv_8 => k tv_8 H3 nx3) (
      wCall Tryd.prog 11 [a0, a1] H1 nx1 fun t22_9 H4 nx4 =>
      wExt t22_9 0 fun t23_10 =>
      wExt t22_9 1 fun t24_11 =>
      wNew (.cells [.int .i64 0, .slice none 0 0, .slice none 0 0] 0) .ptr H4 nx4 fun t5_12 H5 nx5 =>
      wSt t5_12 t23_10 3 H5 fun H6 =>
      wCall Tryd.prog 12 [a0, a1] H6 nx5 fun t28_13 H7 nx7 =>
      wExt t28_13 0 fun t29_14 =>
      wExt t28_13 1 fun t30_15 =>
      wExt t28_13 2 fun t31_16 =>
      wJoin (fun tj_17 =>
        wBin .neq t24_11 t31_16 fun t34_19 =>
        wGuard false t34_19 (
          wFld t5_12 0 fun t36_20 =>
          wLd t36_20 none H7 fun t37_21 =>
          wBin .neq t37_21 t29_14 fun t39_22 =>
          wGuard false t39_22 (
            wLd t5_12 (some 3) H7 fun t42_23 =>
            wCall Tryd.prog 10 [t42_23] H7 nx7 fun t43_24 H9 nx9 =>
            wCall Tryd.prog 13 [t43_24, t30_15] H9 nx9 fun t45_25 H10 nx10 =>
            wUn .not t45_25 fun t46_26 =>
            tj_17 [t46_26] H10 nx10) (
            tj_17 [(.bool true)] H7 nx7)) (
            tj_17 [(.bool true)] H7 nx7)) (fun tL_18 H8 nx8 =>
        wIf (tL_18.getD 0 undef) (
          forceV (.bool false) fun tv_27 => k tv_27 H8 nx8) (
          wFld t5_12 1 fun t48_28 =>
          wLd t48_28 none H8 fun t49_29 =>
          wLen t49_29 0 H8 fun t50_30 =>
          wFld t5_12 2 fun t51_31 =>
          wLd t51_31 none H8 fun t52_32 =>
          wLen t52_32 0 H8 fun t53_33 =>
          wBin .add t50_30 t53_33 fun t54_34 =>
          wLen t30_15 0 H8 fun t56_35 =>
          wBin .eql t54_34 t56_35 fun t57_36 =>
          wGuard true t57_36 (
            wCall Tryd.prog 7 [] H8 nx8 fun t59_37 H11 nx11 =>
            forceV t59_37 fun tv_38 => k tv_38 H11 nx11) (
            forceV (.bool false) fun tv_39 => k tv_39 H8 nx8)))))
theorem eq4 (a0 a1 : Value) (H : Heap) (nx : Nat) (k : EP) : wBody Tryd.prog 61 6 d4 [(.s 4, none)] [a0, a1] H nx k = F4 a0 a1 H nx k := by kernel_rfl
theorem spec4 {a0 a1 : Value} {H : Heap} {nx : Nat} {k : EP} (h : F4 a0 a1 H nx k) : Ans Tryd.prog 4 [a0, a1] H nx k :=
  spec_of_body mixed namesOK cfn4 ok4 (by simp) ((eq4 a0 a1 H nx k).symm ▸ h)

/-! 5: ordinal/ordinallaw56.ExplainBack -/
def d5 : D :=
  (.seq
    (.ops [
        (none, [⟨none, some 4, .a (.box (.s 1))⟩,
        ⟨none, some 6, .p (.mv (.c (.bool false)))⟩])] (.one .nil))
    (.seq
      (.join [22] [15, 16, 17, 18, 19, 20, 21]
        (.ops [
            (none, [⟨none, some 15, .p (.mv (.s 0))⟩,
            ⟨none, some 16, .r (.ld (.s 4) (some 3))⟩,
            ⟨none, some 17, .e (.call (.c (.func (.func 6) ⟨[]⟩ ⟨[]⟩)) [.s 15, .s 16])⟩,
            ⟨none, some 18, .p (.mv (.s 17))⟩]),
            (some (18, false), [⟨none, some 19, .p (.mv (.s 2))⟩,
            ⟨none, some 20, .r (.len (.s 19) 1)⟩,
            ⟨none, some 21, .p (.bin .gtr (.s 20) (.c (.int .i64 300)))⟩]),
            (none, [⟨none, some 22, .p (.pick (.s 18) (.c (.bool true)) (.s 21))⟩])] (.one (.tst (.one .nil) (.one .nil))))
        (.cond (.s 22)
          (.seq
            (.ops [
                (none, [⟨none, some 23, .e (.call (.c (.func (.func 7) ⟨[]⟩ ⟨[]⟩)) [])⟩,
                ⟨none, some 6, .p (.mv (.s 23))⟩])] (.one .nil))
            .ret)
          .skip))
      (.join [] [24, 25, 26, 27, 28]
        (.seq
          (.ops [
              (none, [⟨none, some 24, .p (.fld (.s 4) 0)⟩,
              ⟨none, some 25, .r (.ld (.s 24) none)⟩,
              ⟨none, some 26, .p (.bin .eql (.s 25) (.c (.int .i64 0)))⟩])] (.one .nil))
          (.cond (.s 26)
            (.ops [
                (none, [⟨none, some 27, .p (.fld (.s 4) 2)⟩,
                ⟨none, none, .e (.st (.s 27) (.c (.slice none 0 0)) 1)⟩])] (.one .nil))
            (.ops [
                (none, [⟨none, some 28, .p (.fld (.s 4) 1)⟩,
                ⟨none, none, .e (.st (.s 28) (.c (.slice none 0 0)) 1)⟩])] (.one .nil))))
        (.join [] [6, 7, 8, 9, 10, 29, 30, 31, 32, 33, 34, 35, 36, 37, 38, 39, 40, 41, 42, 43, 44, 45, 46, 47, 48, 49, 50, 51, 52, 53, 54, 55, 56, 57, 58, 59, 60, 61, 62, 63, 64, 65, 66, 67]
          (.seq
            (.ops [
                (none, [⟨none, some 30, .p (.mv (.s 0))⟩,
                ⟨none, some 31, .r (.ld (.s 4) (some 3))⟩,
                ⟨none, some 32, .e (.call (.c (.func (.func 8) ⟨[]⟩ ⟨[]⟩)) [.s 30, .s 31])⟩,
                ⟨none, some 29, .p (.mv (.s 32))⟩,
                ⟨none, some 33, .p (.ext (.s 29) 0)⟩,
                ⟨none, some 34, .p (.ext (.s 29) 1)⟩,
                ⟨none, some 7, .p (.mv (.s 33))⟩,
                ⟨none, some 8, .p (.mv (.s 34))⟩])] (.one .nil))
            (.seq
              (.ops [
                  (none, [⟨none, some 35, .p (.mv (.s 8))⟩,
                  ⟨none, some 36, .p (.bin .eql (.s 35) (.c (.int .i64 0)))⟩])] (.one .nil))
              (.cond (.s 36)
                (.seq
                  (.ops [
                      (none, [⟨none, some 38, .p (.mv (.s 0))⟩,
                      ⟨none, some 39, .p (.mv (.s 7))⟩,
                      ⟨none, some 40, .e (.call (.c (.func (.func 11) ⟨[]⟩ ⟨[]⟩)) [.s 38, .s 39])⟩,
                      ⟨none, some 37, .p (.mv (.s 40))⟩,
                      ⟨none, some 41, .p (.ext (.s 37) 0)⟩,
                      ⟨none, some 42, .p (.ext (.s 37) 1)⟩,
                      ⟨none, some 9, .a (.alloc [.int .i64 0, .slice none 0 0, .slice none 0 0])⟩,
                      ⟨none, none, .e (.st (.s 9) (.s 41) 3)⟩,
                      ⟨none, some 10, .p (.mv (.s 42))⟩])] (.one .nil))
                  (.join [67] [43, 44, 45, 46, 47, 48, 49, 50, 51, 52, 53, 54, 55, 56, 57, 58, 59, 60, 61, 62, 63, 64, 65, 66]
                    (.ops [
                        (none, [⟨none, some 43, .p (.mv (.s 10))⟩,
                        ⟨none, some 44, .p (.bin .neq (.s 43) (.c (.int .i64 0)))⟩,
                        ⟨none, some 45, .p (.mv (.s 44))⟩]),
                        (some (45, false), [⟨none, some 46, .p (.fld (.s 9) 0)⟩,
                        ⟨none, some 47, .r (.ld (.s 46) none)⟩,
                        ⟨none, some 48, .p (.fld (.s 4) 0)⟩,
                        ⟨none, some 49, .r (.ld (.s 48) none)⟩,
                        ⟨none, some 50, .p (.bin .neq (.s 47) (.s 49))⟩]),
                        (none, [⟨none, some 51, .p (.pick (.s 45) (.c (.bool true)) (.s 50))⟩,
                        ⟨none, some 52, .p (.mv (.s 51))⟩]),
                        (some (52, false), [⟨none, some 53, .p (.fld (.s 9) 1)⟩,
                        ⟨none, some 54, .r (.ld (.s 53) none)⟩,
                        ⟨none, some 55, .p (.fld (.s 4) 1)⟩,
                        ⟨none, some 56, .r (.ld (.s 55) none)⟩,
                        ⟨none, some 57, .e (.call (.c (.func (.func 13) ⟨[]⟩ ⟨[]⟩)) [.s 54, .s 56])⟩,
                        ⟨none, some 58, .p (.un .not (.s 57))⟩]),
                        (none, [⟨none, some 59, .p (.pick (.s 52) (.c (.bool true)) (.s 58))⟩,
                        ⟨none, some 60, .p (.mv (.s 59))⟩]),
                        (some (60, false), [⟨none, some 61, .p (.fld (.s 9) 2)⟩,
                        ⟨none, some 62, .r (.ld (.s 61) none)⟩,
                        ⟨none, some 63, .p (.fld (.s 4) 2)⟩,
                        ⟨none, some 64, .r (.ld (.s 63) none)⟩,
                        ⟨none, some 65, .e (.call (.c (.func (.func 13) ⟨[]⟩ ⟨[]⟩)) [.s 62, .s 64])⟩,
                        ⟨none, some 66, .p (.un .not (.s 65))⟩]),
                        (none, [⟨none, some 67, .p (.pick (.s 60) (.c (.bool true)) (.s 66))⟩])] (.one (.tst (.one (.tst (.one (.tst (.one .nil) (.one .nil))) (.one (.one (.one .nil))))) (.one (.one (.one (.one (.one .nil))))))))
                    (.cond (.s 67)
                      (.seq
                        (.ops [
                            (none, [⟨none, some 6, .p (.mv (.c (.bool false)))⟩])] (.one .nil))
                        .ret)
                      .skip)))
                .skip)))
          (.join [] [6, 11, 12, 13, 14, 68, 69, 70, 71, 72, 73, 74, 75, 76, 77, 78, 79, 80, 81, 82, 83, 84, 85, 86, 87, 88]
            (.seq
              (.ops [
                  (none, [⟨none, some 69, .p (.mv (.s 0))⟩,
                  ⟨none, some 70, .p (.mv (.s 2))⟩,
                  ⟨none, some 71, .e (.call (.c (.func (.func 11) ⟨[]⟩ ⟨[]⟩)) [.s 69, .s 70])⟩,
                  ⟨none, some 68, .p (.mv (.s 71))⟩,
                  ⟨none, some 72, .p (.ext (.s 68) 0)⟩,
                  ⟨none, some 73, .p (.ext (.s 68) 1)⟩,
                  ⟨none, some 11, .a (.alloc [.int .i64 0, .slice none 0 0, .slice none 0 0])⟩,
                  ⟨none, none, .e (.st (.s 11) (.s 72) 3)⟩,
                  ⟨none, some 12, .p (.mv (.s 73))⟩])] (.one .nil))
              (.seq
                (.ops [
                    (none, [⟨none, some 74, .p (.mv (.s 12))⟩,
                    ⟨none, some 75, .p (.bin .eql (.s 74) (.c (.int .i64 0)))⟩])] (.one .nil))
                (.cond (.s 75)
                  (.seq
                    (.ops [
                        (none, [⟨none, some 77, .p (.mv (.s 0))⟩,
                        ⟨none, some 78, .r (.ld (.s 11) (some 3))⟩,
                        ⟨none, some 79, .e (.call (.c (.func (.func 8) ⟨[]⟩ ⟨[]⟩)) [.s 77, .s 78])⟩,
                        ⟨none, some 76, .p (.mv (.s 79))⟩,
                        ⟨none, some 80, .p (.ext (.s 76) 0)⟩,
                        ⟨none, some 81, .p (.ext (.s 76) 1)⟩,
                        ⟨none, some 13, .p (.mv (.s 80))⟩,
                        ⟨none, some 14, .p (.mv (.s 81))⟩])] (.one .nil))
                    (.join [88] [82, 83, 84, 85, 86, 87]
                      (.ops [
                          (none, [⟨none, some 82, .p (.mv (.s 14))⟩,
                          ⟨none, some 83, .p (.bin .neq (.s 82) (.c (.int .i64 0)))⟩,
                          ⟨none, some 84, .p (.mv (.s 83))⟩]),
                          (some (84, false), [⟨none, some 85, .p (.mv (.s 13))⟩,
                          ⟨none, some 86, .p (.mv (.s 2))⟩,
                          ⟨none, some 87, .p (.bin .neq (.s 85) (.s 86))⟩]),
                          (none, [⟨none, some 88, .p (.pick (.s 84) (.c (.bool true)) (.s 87))⟩])] (.one (.tst (.one .nil) (.one .nil))))
                      (.cond (.s 88)
                        (.seq
                          (.ops [
                              (none, [⟨none, some 6, .p (.mv (.c (.bool false)))⟩])] (.one .nil))
                          .ret)
                        .skip)))
                  .skip)))
            (.seq
              (.ops [
                  (none, [⟨none, some 89, .e (.call (.c (.func (.func 7) ⟨[]⟩ ⟨[]⟩)) [])⟩,
                  ⟨none, some 6, .p (.mv (.s 89))⟩])] (.one .nil))
              .ret))))))
theorem cfn5 : cfn Tryd.prog 5 = some ⟨90, 7, d5.erase, [(.s 6, none)]⟩ := by kernel_rfl
theorem ok5 : d5.ok 90 7 = true := by kernel_rfl
noncomputable def F5 (a0 a1 a2 : Value) (H : Heap) (nx : Nat) (k : EP) : Prop :=
  dBox a1 fun tc_1 => wNew (.cells tc_1 0) .ptr H nx fun t4_2 H1 nx1 =>
  wJoin (fun tj_3 =>
    wLd t4_2 (some 3) H1 fun t16_5 =>
    wCall Tryd.prog 6 [a0, t16_5] H1 nx1 fun t17_6 H3 nx3 =>
    wGuard false t17_6 (
      wLen a2 1 H3 fun t20_7 =>
      wBin .gtr t20_7 (.int .i64 300) fun t21_8 =>
      tj_3 [t21_8] H3 nx3) (
      tj_3 [(.bool true)] H3 nx3)) (fun tL_4 H2 nx2 =>
    wIf (tL_4.getD 0 undef) (
      wCall Tryd.prog 7 [] H2 nx2 fun t23_9 H4 nx4 =>
      forceV t23_9 fun tv_10 => k tv_10 H4 nx4) (
      wJoin (fun tj_11 =>
        wFld t4_2 0 fun t24_13 =>
        wLd t24_13 none H2 fun t25_14 =>
        wBin .eql t25_14 (.int .i64 0) fun t26_15 =>
        wIf t26_15 (
          wFld t4_2 2 fun t27_16 =>
          wSt t27_16 (.slice none 0 0) 1 H2 fun H6 =>
          tj_11 [] H6 nx2) (
          wFld t4_2 1 fun t28_17 =>
          wSt t28_17 (.slice none 0 0) 1 H2 fun H7 =>
          tj_11 [] H7 nx2)) (fun tL_12 H5 nx5 =>
        wJoin (fun tj_18 =>
          wLd t4_2 (some 3) H5 fun t31_20 =>
          wCall Tryd.prog 8 [a0, t31_20] H5 nx5 fun t32_21 H9 nx9 =>
          wExt t32_21 0 fun t33_22 =>
          wExt t32_21 1 fun t34_23 =>
          wBin .eql t34_23 (.int .i64 0) fun t36_24 =>
          wIf t36_24 (
            wCall Tryd.prog 11 [a0, t33_22] H9 nx9 fun t40_25 H10 nx10 =>
            wExt t40_25 0 fun t41_26 =>
            wExt t40_25 1 fun t42_27 =>
            wNew (.cells [.int .i64 0, .slice none 0 0, .slice none 0 0] 0) .ptr H10 nx10 fun t9_28 H11 nx11 =>
            wSt t9_28 t41_26 3 H11 fun H12 =>
            wJoin (fun tj_29 =>
              wBin .neq t42_27 (.int .i64 0) fun t44_31 =>
              wGuard false t44_31 (
                wFld t9_28 0 fun t46_32 =>
                wLd t46_32 none H12 fun t47_33 =>
                wFld t4_2 0 fun t48_34 =>
                wLd t48_34 none H12 fun t49_35 =>
                wBin .neq t47_33 t49_35 fun t50_36 =>
                wGuard false t50_36 (
                  wFld t9_28 1 fun t53_37 =>
                  wLd t53_37 none H12 fun t54_38 =>
                  wFld t4_2 1 fun t55_39 =>
                  wLd t55_39 none H12 fun t56_40 =>
                  wCall Tryd.prog 13 [t54_38, t56_40] H12 nx11 fun t57_41 H14 nx14 =>
                  wUn .not t57_41 fun t58_42 =>
                  wGuard false t58_42 (
                    wFld t9_28 2 fun t61_43 =>
                    wLd t61_43 none H14 fun t62_44 =>
                    wFld t4_2 2 fun t63_45 =>
                    wLd t63_45 none H14 fun t64_46 =>
                    wCall Tryd.prog 13 [t62_44, t64_46] H14 nx14 fun t65_47 H15 nx15 =>
                    wUn .not t65_47 fun t66_48 =>
                    tj_29 [t66_48] H15 nx15) (
                    tj_29 [(.bool true)] H14 nx14)) (
                    tj_29 [(.bool true)] H12 nx11)) (
                    tj_29 [(.bool true)] H12 nx11)) (fun tL_30 H13 nx13 =>
              wIf (tL_30.getD 0 undef) (
                forceV (.bool false) fun tv_49 => k tv_49 H13 nx13) (
                tj_18 [] H13 nx13))) (
            tj_18 [] H9 nx9)) (fun tL_19 H8 nx8 =>
          wJoin (fun tj_50 =>
            wCall Tryd.prog 11 [a0, a2] H8 nx8 fun t71_52 H17 nx17 =>
            wExt t71_52 0 fun t72_53 =>
            wExt t71_52 1 fun t73_54 =>
            wNew (.cells [.int .i64 0, .slice none 0 0, .slice none 0 0] 0) .ptr H17 nx17 fun t11_55 H18 nx18 =>
            wSt t11_55 t72_53 3 H18 fun H19 =>
            wBin .eql t73_54 (.int .i64 0) fun t75_56 =>
            wIf t75_56 (
              wLd t11_55 (some 3) H19 fun t78_57 =>
              wCall Tryd.prog 8 [a0, t78_57] H19 nx18 fun t79_58 H20 nx20 =>
              wExt t79_58 0 fun t80_59 =>
              wExt t79_58 1 fun t81_60 =>
              wJoin (fun tj_61 =>
                wBin .neq t81_60 (.int .i64 0) fun t83_63 =>
                wGuard false t83_63 (
                  wBin .neq t80_59 a2 fun t87_64 =>
                  tj_61 [t87_64] H20 nx20) (
                  tj_61 [(.bool true)] H20 nx20)) (fun tL_62 H21 nx21 =>
                wIf (tL_62.getD 0 undef) (
                  forceV (.bool false) fun tv_65 => k tv_65 H21 nx21) (
                  tj_50 [] H21 nx21))) (
              tj_50 [] H19 nx18)) (fun tL_51 H16 nx16 =>
            wCall Tryd.prog 7 [] H16 nx16 fun t89_66 H22 nx22 =>
            forceV t89_66 fun tv_67 => k tv_67 H22 nx22)))))
theorem eq5 (a0 a1 a2 : Value) (H : Heap) (nx : Nat) (k : EP) : wBody Tryd.prog 90 7 d5 [(.s 6, none)] [a0, a1, a2] H nx k = F5 a0 a1 a2 H nx k := by kernel_rfl
theorem spec5 {a0 a1 a2 : Value} {H : Heap} {nx : Nat} {k : EP} (h : F5 a0 a1 a2 H nx k) : Ans Tryd.prog 5 [a0, a1, a2] H nx k :=
  spec_of_body mixed namesOK cfn5 ok5 (by simp) ((eq5 a0 a1 a2 H nx k).symm ▸ h)

end Go.Proofs.YtjpgddpobnjmkaaDoor
