/-
  MADE BY PROGRAM (wip/gen/gen.py): functions 62 as marked code, and their claims written out.
-/
import Derived.Test.YtdecggbglnbhlaaGreatDoorK9
import Derived.KernelRfl
set_option linter.unusedSimpArgs false
set_option linter.unusedVariables false
set_option linter.unusedSectionVars false
namespace Go.Proofs.YtdecggbglnbhlaaGreatDoor
open Go.Clo
set_option maxRecDepth 100000
/-! 62: ordinal/elimination.Bags -/
def d62 : D :=
  (.seq
    (.ops [
        (none, [⟨none, some 3, .a (.box (.s 0))⟩,
        ⟨none, some 6, .p (.mv (.c (.slice none 0 0)))⟩,
        ⟨none, some 7, .p (.mv (.c (.int .i64 0)))⟩])] (.one .nil))
    (.seq
      (.seq
        (.ops [
            (none, [⟨none, some 22, .r (.ld (.s 3) (some 2))⟩,
            ⟨none, some 23, .p (.mv (.s 1))⟩,
            ⟨none, some 24, .e (.call (.c (.func (.func 69) ⟨[]⟩ ⟨[]⟩)) [.s 22, .s 23])⟩,
            ⟨none, some 8, .p (.mv (.s 24))⟩])] (.one .nil))
        (.seq
          (.ops [
              (none, [⟨none, some 25, .p (.mv (.s 8))⟩,
              ⟨none, some 26, .p (.bin .neq (.s 25) (.c (.int .i64 0)))⟩])] (.one .nil))
          (.cond (.s 26)
            (.seq
              (.ops [
                  (none, [⟨none, some 27, .p (.mv (.s 8))⟩,
                  ⟨none, some 6, .p (.mv (.c (.slice none 0 0)))⟩,
                  ⟨none, some 7, .p (.mv (.s 27))⟩])] (.one .nil))
              .ret)
            .skip)))
      (.seq
        (.ops [
            (none, [⟨none, some 9, .p (.mv (.c (.int .u32 0)))⟩])] (.one .nil))
        (.seq
          (.seq
            (.ops [
                (none, [⟨none, some 28, .p (.mv (.s 2))⟩,
                ⟨none, some 29, .r (.len (.s 28) 0)⟩,
                ⟨none, some 30, .p (.mv (.c (.int .i64 0)))⟩])] (.one .nil))
            (.block 0
              (.loop [9, 30] [6, 7, 11, 31, 32, 33, 34, 35, 36, 37, 38, 39, 40, 41, 42, 43, 44, 45, 46, 47, 48, 49, 50, 51, 52, 53, 54]
                (.seq
                  (.ops [
                      (none, [⟨none, some 31, .p (.bin .lss (.s 30) (.s 29))⟩])] (.one .nil))
                  (.seq
                    (.cond (.s 31)
                      .skip
                      (.exit 0))
                    (.seq
                      (.block 1
                        (.seq
                          (.ops [
                              (none, [⟨none, some 32, .p (.idx (.s 28) (.s 30) none 1)⟩,
                              ⟨none, some 33, .r (.ld (.s 32) none)⟩,
                              ⟨none, some 11, .p (.mv (.s 33))⟩])] (.one .nil))
                          (.seq
                            (.join [49] [34, 35, 36, 37, 38, 39, 40, 41, 42, 43, 44, 45, 46, 47, 48]
                              (.ops [
                                  (none, [⟨none, some 34, .p (.mv (.s 11))⟩,
                                  ⟨none, some 35, .p (.mv (.s 1))⟩,
                                  ⟨none, some 36, .p (.bin .lss (.s 34) (.s 35))⟩,
                                  ⟨none, some 37, .p (.mv (.s 36))⟩]),
                                  (some (37, false), [⟨none, some 38, .p (.mv (.s 11))⟩,
                                  ⟨none, some 39, .p (.fld (.s 3) 0)⟩,
                                  ⟨none, some 40, .r (.ld (.s 39) none)⟩,
                                  ⟨none, some 41, .p (.bin .geq (.s 38) (.s 40))⟩]),
                                  (none, [⟨none, some 42, .p (.pick (.s 37) (.c (.bool true)) (.s 41))⟩,
                                  ⟨none, some 43, .p (.mv (.s 42))⟩]),
                                  (some (43, false), [⟨none, some 44, .p (.mv (.s 9))⟩,
                                  ⟨none, some 45, .p (.mv (.s 11))⟩,
                                  ⟨none, some 46, .p (.bin .shr (.s 44) (.s 45))⟩,
                                  ⟨none, some 47, .p (.bin .and (.s 46) (.c (.int .u32 1)))⟩,
                                  ⟨none, some 48, .p (.bin .eql (.s 47) (.c (.int .u32 1)))⟩]),
                                  (none, [⟨none, some 49, .p (.pick (.s 43) (.c (.bool true)) (.s 48))⟩])] (.one (.tst (.one (.tst (.one .nil) (.one .nil))) (.one (.one (.one .nil))))))
                              (.cond (.s 49)
                                (.seq
                                  (.ops [
                                      (none, [⟨none, some 6, .p (.mv (.c (.slice none 0 0)))⟩,
                                      ⟨none, some 7, .p (.mv (.c (.int .i64 1)))⟩])] (.one .nil))
                                  .ret)
                                .skip))
                            (.ops [
                                (none, [⟨none, some 50, .p (.mv (.s 9))⟩,
                                ⟨none, some 51, .p (.mv (.s 11))⟩,
                                ⟨none, some 52, .p (.bin .shl (.c (.int .u32 1)) (.s 51))⟩,
                                ⟨none, some 53, .p (.bin .or (.s 50) (.s 52))⟩,
                                ⟨none, some 9, .p (.mv (.s 53))⟩])] (.one .nil)))))
                      (.ops [
                          (none, [⟨none, some 54, .p (.bin .add (.s 30) (.c (.int .i64 1)))⟩,
                          ⟨none, some 30, .p (.mv (.s 54))⟩])] (.one .nil))))))))
          (.seq
            (.seq
              (.ops [
                  (none, [⟨none, some 55, .p (.mv (.s 2))⟩,
                  ⟨none, some 56, .r (.len (.s 55) 0)⟩,
                  ⟨none, some 57, .p (.fld (.s 3) 0)⟩,
                  ⟨none, some 58, .r (.ld (.s 57) none)⟩,
                  ⟨none, some 59, .p (.mv (.s 1))⟩,
                  ⟨none, some 60, .p (.bin .sub (.s 58) (.s 59))⟩,
                  ⟨none, some 61, .p (.bin .neq (.s 56) (.s 60))⟩])] (.one .nil))
              (.cond (.s 61)
                (.seq
                  (.ops [
                      (none, [⟨none, some 6, .p (.mv (.c (.slice none 0 0)))⟩,
                      ⟨none, some 7, .p (.mv (.c (.int .i64 1)))⟩])] (.one .nil))
                  .ret)
                .skip))
            (.seq
              (.ops [
                  (none, [⟨none, some 12, .a (.alloc [.int .i64 0, .int .i64 0, .int .i64 0, .int .i64 0, .int .i64 0, .int .i64 0, .int .i64 0, .int .i64 0, .int .i64 0, .int .i64 0, .int .i64 0, .int .i64 0, .int .i64 0, .int .i64 0, .int .i64 0, .int .i64 0, .int .i64 0, .int .i64 0, .int .i64 0, .int .i64 0, .int .i64 0, .int .i64 0, .int .i64 0, .int .i64 0, .int .i64 0, .int .i64 0, .int .i64 0, .int .i64 0, .int .i64 0, .int .i64 0, .int .i64 0, .int .i64 0])⟩,
                  ⟨none, some 13, .a (.alloc [.int .i64 0, .int .i64 0, .int .i64 0, .int .i64 0, .int .i64 0, .int .i64 0, .int .i64 0, .int .i64 0, .int .i64 0, .int .i64 0, .int .i64 0, .int .i64 0, .int .i64 0, .int .i64 0, .int .i64 0, .int .i64 0, .int .i64 0, .int .i64 0, .int .i64 0, .int .i64 0, .int .i64 0, .int .i64 0, .int .i64 0, .int .i64 0, .int .i64 0, .int .i64 0, .int .i64 0, .int .i64 0, .int .i64 0, .int .i64 0, .int .i64 0, .int .i64 0])⟩])] (.one .nil))
              (.seq
                (.ops [
                    (none, [⟨none, some 62, .p (.slA (.s 12) 32 1 none none none)⟩,
                    ⟨none, some 63, .p (.mv (.s 2))⟩,
                    ⟨none, some 64, .e (.copy (.s 62) (.s 63) 1)⟩])] (.one .nil))
                (.seq
                  (.seq
                    (.ops [
                        (none, [⟨none, some 65, .p (.mv (.s 1))⟩,
                        ⟨none, some 66, .p (.mv (.c (.int .i64 0)))⟩])] (.one .nil))
                    (.block 2
                      (.loop [66] [14, 67, 68, 69, 70, 71, 72, 73, 74, 75, 76, 77, 78]
                        (.seq
                          (.ops [
                              (none, [⟨none, some 67, .p (.bin .lss (.s 66) (.s 65))⟩])] (.one .nil))
                          (.seq
                            (.cond (.s 67)
                              .skip
                              (.exit 2))
                            (.seq
                              (.block 3
                                (.seq
                                  (.ops [
                                      (none, [⟨none, some 68, .p (.mv (.s 66))⟩,
                                      ⟨none, some 14, .p (.mv (.s 68))⟩])] (.one .nil))
                                  (.ops [
                                      (none, [⟨none, some 69, .p (.mv (.s 2))⟩,
                                      ⟨none, some 70, .r (.len (.s 69) 0)⟩,
                                      ⟨none, some 71, .p (.mv (.s 14))⟩,
                                      ⟨none, some 72, .p (.bin .add (.s 70) (.s 71))⟩,
                                      ⟨none, some 73, .p (.mv (.s 1))⟩,
                                      ⟨none, some 74, .p (.bin .sub (.s 73) (.c (.int .i64 1)))⟩,
                                      ⟨none, some 75, .p (.mv (.s 14))⟩,
                                      ⟨none, some 76, .p (.bin .sub (.s 74) (.s 75))⟩,
                                      ⟨none, some 77, .p (.idx (.s 12) (.s 72) (some 32) 1)⟩,
                                      ⟨none, none, .e (.st (.s 77) (.s 76) 1)⟩])] (.one .nil))))
                              (.ops [
                                  (none, [⟨none, some 78, .p (.bin .add (.s 66) (.c (.int .i64 1)))⟩,
                                  ⟨none, some 66, .p (.mv (.s 78))⟩])] (.one .nil))))))))
                  (.seq
                    (.seq
                      (.ops [
                          (none, [⟨none, some 79, .p (.fld (.s 3) 0)⟩,
                          ⟨none, some 80, .r (.ld (.s 79) none)⟩,
                          ⟨none, some 81, .p (.mv (.c (.int .i64 0)))⟩])] (.one .nil))
                      (.block 4
                        (.loop [81] [15, 82, 83, 84, 85, 86, 87, 88, 89]
                          (.seq
                            (.ops [
                                (none, [⟨none, some 82, .p (.bin .lss (.s 81) (.s 80))⟩])] (.one .nil))
                            (.seq
                              (.cond (.s 82)
                                .skip
                                (.exit 4))
                              (.seq
                                (.block 5
                                  (.seq
                                    (.ops [
                                        (none, [⟨none, some 83, .p (.mv (.s 81))⟩,
                                        ⟨none, some 15, .p (.mv (.s 83))⟩])] (.one .nil))
                                    (.ops [
                                        (none, [⟨none, some 84, .p (.mv (.s 15))⟩,
                                        ⟨none, some 85, .p (.idx (.s 12) (.s 84) (some 32) 1)⟩,
                                        ⟨none, some 86, .r (.ld (.s 85) none)⟩,
                                        ⟨none, some 87, .p (.mv (.s 15))⟩,
                                        ⟨none, some 88, .p (.idx (.s 13) (.s 86) (some 32) 1)⟩,
                                        ⟨none, none, .e (.st (.s 88) (.s 87) 1)⟩])] (.one .nil))))
                                (.ops [
                                    (none, [⟨none, some 89, .p (.bin .add (.s 81) (.c (.int .i64 1)))⟩,
                                    ⟨none, some 81, .p (.mv (.s 89))⟩])] (.one .nil))))))))
                    (.seq
                      (.ops [
                          (none, [⟨none, some 90, .r (.ld (.s 3) (some 2))⟩,
                          ⟨none, some 91, .e (.call (.c (.func (.func 71) ⟨[]⟩ ⟨[]⟩)) [.s 90])⟩,
                          ⟨none, some 16, .a (.alloc [.int .u32 0, .int .u32 0, .int .u32 0, .int .u32 0, .int .u32 0, .int .u32 0, .int .u32 0, .int .u32 0, .int .u32 0, .int .u32 0, .int .u32 0, .int .u32 0, .int .u32 0, .int .u32 0, .int .u32 0, .int .u32 0, .int .u32 0, .int .u32 0, .int .u32 0, .int .u32 0, .int .u32 0, .int .u32 0, .int .u32 0, .int .u32 0, .int .u32 0, .int .u32 0, .int .u32 0, .int .u32 0, .int .u32 0, .int .u32 0, .int .u32 0, .int .u32 0])⟩,
                          ⟨none, none, .e (.st (.s 16) (.s 91) 32)⟩])] (.one .nil))
                      (.seq
                        (.ops [
                            (none, [⟨none, some 92, .p (.fld (.s 3) 0)⟩,
                            ⟨none, some 93, .r (.ld (.s 92) none)⟩,
                            ⟨none, some 94, .a (.msl (.s 93) (.s 93) [.int .i64 0, .int .u32 0, .int .i64 0])⟩,
                            ⟨none, some 17, .p (.mv (.s 94))⟩])] (.one .nil))
                        (.seq
                          (.seq
                            (.ops [
                                (none, [⟨none, some 95, .p (.fld (.s 3) 0)⟩,
                                ⟨none, some 96, .r (.ld (.s 95) none)⟩,
                                ⟨none, some 97, .p (.mv (.c (.int .i64 0)))⟩])] (.one .nil))
                            (.block 6
                              (.loop [97] [18, 19, 20, 21, 98, 99, 100, 101, 102, 103, 104, 105, 106, 107, 108, 109, 110, 111, 112, 113, 114, 115, 116, 117, 118, 119, 120, 121, 122, 123, 124, 125, 126, 127, 128, 129, 130, 131, 132, 133, 134, 135, 136, 137, 138, 139, 140, 141, 142, 143, 144, 145, 146, 147, 148, 149, 150, 151, 152, 153]
                                (.seq
                                  (.ops [
                                      (none, [⟨none, some 98, .p (.bin .lss (.s 97) (.s 96))⟩])] (.one .nil))
                                  (.seq
                                    (.cond (.s 98)
                                      .skip
                                      (.exit 6))
                                    (.seq
                                      (.block 7
                                        (.seq
                                          (.ops [
                                              (none, [⟨none, some 99, .p (.mv (.s 97))⟩,
                                              ⟨none, some 18, .p (.mv (.s 99))⟩])] (.one .nil))
                                          (.seq
                                            (.ops [
                                                (none, [⟨none, some 100, .p (.mv (.s 18))⟩,
                                                ⟨none, some 101, .p (.idx (.s 12) (.s 100) (some 32) 1)⟩,
                                                ⟨none, some 102, .r (.ld (.s 101) none)⟩,
                                                ⟨none, some 19, .p (.mv (.s 102))⟩])] (.one .nil))
                                            (.seq
                                              (.ops [
                                                  (none, [⟨none, some 103, .p (.mv (.s 19))⟩,
                                                  ⟨none, some 104, .p (.mv (.s 19))⟩,
                                                  ⟨none, some 105, .p (.idx (.s 16) (.s 104) (some 32) 1)⟩,
                                                  ⟨none, some 106, .r (.ld (.s 105) none)⟩,
                                                  ⟨none, some 107, .p (.build [.int .i64 0, .int .u32 0, .int .i64 0] [(0, 1), (1, 1), (2, 1)] [(0, .s 103), (1, .s 106), (2, .c (.int .i64 (-1)))])⟩,
                                                  ⟨none, some 20, .a (.alloc [.int .i64 0, .int .u32 0, .int .i64 0])⟩,
                                                  ⟨none, none, .e (.st (.s 20) (.s 107) 3)⟩])] (.one .nil))
                                              (.seq
                                                (.seq
                                                  (.ops [
                                                      (none, [⟨none, some 108, .p (.fld (.s 3) 0)⟩,
                                                      ⟨none, some 109, .r (.ld (.s 108) none)⟩,
                                                      ⟨none, some 110, .p (.mv (.c (.int .i64 0)))⟩])] (.one .nil))
                                                  (.block 8
                                                    (.loop [110] [21, 111, 112, 113, 114, 115, 116, 117, 118, 119, 120, 121, 122, 123, 124, 125, 126, 127, 128, 129, 130, 131, 132, 133, 134, 135, 136, 137, 138, 139, 140, 141, 142, 143, 144, 145, 146, 147, 148]
                                                      (.seq
                                                        (.ops [
                                                            (none, [⟨none, some 111, .p (.bin .lss (.s 110) (.s 109))⟩])] (.one .nil))
                                                        (.seq
                                                          (.cond (.s 111)
                                                            .skip
                                                            (.exit 8))
                                                          (.join [] [21, 112, 113, 114, 115, 116, 117, 118, 119, 120, 121, 122, 123, 124, 125, 126, 127, 128, 129, 130, 131, 132, 133, 134, 135, 136, 137, 138, 139, 140, 141, 142, 143, 144, 145, 146, 147]
                                                            (.block 9
                                                              (.seq
                                                                (.ops [
                                                                    (none, [⟨none, some 112, .p (.mv (.s 110))⟩,
                                                                    ⟨none, some 21, .p (.mv (.s 112))⟩])] (.one .nil))
                                                                (.seq
                                                                  (.seq
                                                                    (.ops [
                                                                        (none, [⟨none, some 113, .p (.fld (.s 20) 1)⟩,
                                                                        ⟨none, some 114, .r (.ld (.s 113) none)⟩,
                                                                        ⟨none, some 115, .p (.mv (.s 21))⟩,
                                                                        ⟨none, some 116, .p (.bin .shr (.s 114) (.s 115))⟩,
                                                                        ⟨none, some 117, .p (.bin .and (.s 116) (.c (.int .u32 1)))⟩,
                                                                        ⟨none, some 118, .p (.bin .eql (.s 117) (.c (.int .u32 0)))⟩])] (.one .nil))
                                                                    (.cond (.s 118)
                                                                      (.exit 9)
                                                                      .skip))
                                                                  (.join [] [119, 120, 121, 122, 123, 124, 125, 126, 127, 128, 129, 130, 131, 132, 133]
                                                                    (.join [131] [119, 120, 121, 122, 123, 124, 125, 126, 127, 128, 129, 130]
                                                                      (.draw [0, 1, 3, 7, 15, 31, 63, 15, 143, 399, 911, 2047, 4095] [
                                                                          (none, [⟨none, some 119, .p (.fld (.s 20) 2)⟩,
                                                                          ⟨none, some 120, .r (.ld (.s 119) none)⟩,
                                                                          ⟨none, some 121, .p (.bin .lss (.s 120) (.c (.int .i64 0)))⟩,
                                                                          ⟨none, some 122, .p (.mv (.s 121))⟩]),
                                                                          (some (122, false), [⟨none, some 123, .p (.mv (.s 21))⟩,
                                                                          ⟨none, some 124, .p (.idx (.s 13) (.s 123) (some 32) 1)⟩,
                                                                          ⟨none, some 125, .r (.ld (.s 124) none)⟩,
                                                                          ⟨none, some 126, .p (.fld (.s 20) 2)⟩,
                                                                          ⟨none, some 127, .r (.ld (.s 126) none)⟩,
                                                                          ⟨none, some 128, .p (.idx (.s 13) (.s 127) (some 32) 1)⟩,
                                                                          ⟨none, some 129, .r (.ld (.s 128) none)⟩,
                                                                          ⟨none, some 130, .p (.bin .lss (.s 125) (.s 129))⟩]),
                                                                          (none, [⟨none, some 131, .p (.pick (.s 122) (.c (.bool true)) (.s 130))⟩])] (.one (.tst (.one .nil) (.one .nil))))
                                                                      (.cond (.s 131)
                                                                        (.ops [
                                                                            (none, [⟨none, some 132, .p (.mv (.s 21))⟩,
                                                                            ⟨none, some 133, .p (.fld (.s 20) 2)⟩,
                                                                            ⟨none, none, .e (.st (.s 133) (.s 132) 1)⟩])] (.one .nil))
                                                                        .skip))
                                                                    (.draw [0, 0, 2, 6, 0, 16, 62, 0, 128, 0, 512, 1920, 4094, 8191, 16383] [
                                                                        (none, [⟨none, some 134, .p (.mv (.s 21))⟩,
                                                                        ⟨none, some 135, .p (.mv (.s 21))⟩,
                                                                        ⟨none, some 136, .p (.idx (.s 16) (.s 135) (some 32) 1)⟩,
                                                                        ⟨none, some 137, .r (.ld (.s 136) none)⟩,
                                                                        ⟨none, some 138, .p (.fld (.s 20) 1)⟩,
                                                                        ⟨none, some 139, .r (.ld (.s 138) none)⟩,
                                                                        ⟨none, some 140, .p (.bin .or (.s 137) (.s 139))⟩,
                                                                        ⟨none, some 141, .p (.mv (.s 21))⟩,
                                                                        ⟨none, some 142, .p (.bin .shl (.c (.int .u32 1)) (.s 141))⟩,
                                                                        ⟨none, some 143, .p (.mv (.s 19))⟩,
                                                                        ⟨none, some 144, .p (.bin .shl (.c (.int .u32 1)) (.s 143))⟩,
                                                                        ⟨none, some 145, .p (.bin .or (.s 142) (.s 144))⟩,
                                                                        ⟨none, some 146, .p (.bin .andNot (.s 140) (.s 145))⟩,
                                                                        ⟨none, some 147, .p (.idx (.s 16) (.s 134) (some 32) 1)⟩,
                                                                        ⟨none, none, .e (.st (.s 147) (.s 146) 1)⟩])] (.one .nil))))))
                                                            (.ops [
                                                                (none, [⟨none, some 148, .p (.bin .add (.s 110) (.c (.int .i64 1)))⟩,
                                                                ⟨none, some 110, .p (.mv (.s 148))⟩])] (.one .nil))))))))
                                                (.ops [
                                                    (none, [⟨none, some 149, .p (.mv (.s 17))⟩,
                                                    ⟨none, some 150, .p (.mv (.s 19))⟩,
                                                    ⟨none, some 151, .r (.ld (.s 20) (some 3))⟩,
                                                    ⟨none, some 152, .p (.idx (.s 149) (.s 150) none 3)⟩,
                                                    ⟨none, none, .e (.st (.s 152) (.s 151) 3)⟩])] (.one .nil)))))))
                                      (.ops [
                                          (none, [⟨none, some 153, .p (.bin .add (.s 97) (.c (.int .i64 1)))⟩,
                                          ⟨none, some 97, .p (.mv (.s 153))⟩])] (.one .nil))))))))
                          (.seq
                            (.ops [
                                (none, [⟨none, some 154, .p (.mv (.s 17))⟩,
                                ⟨none, some 6, .p (.mv (.s 154))⟩,
                                ⟨none, some 7, .p (.mv (.c (.int .i64 0)))⟩])] (.one .nil))
                            .ret)))))))))))))
theorem cfn62 : cfn Tryz.prog 62 = some ⟨155, 8, d62.erase, [(.s 6, none), (.s 7, none)]⟩ := by kernel_rfl
theorem ok62 : d62.ok 155 8 = true := by kernel_rfl
noncomputable def F62 (a0 a1 a2 : Value) (H : Heap) (nx : Nat) (k : EP) : Prop :=
  dBox a0 fun tc_1 => wNew (.cells tc_1 0) .ptr H nx fun t3_2 H1 nx1 =>
  wLd t3_2 (some 2) H1 fun t22_3 =>
  wCall Tryz.prog 69 [t22_3, a1] H1 nx1 fun t24_4 H2 nx2 =>
  wBin .neq t24_4 (.int .i64 0) fun t26_5 =>
  wIf t26_5 (
    forceV (.tuple ⟨[(.slice none 0 0), t24_4]⟩) fun tv_6 => k tv_6 H2 nx2) (
    wLen a2 0 H2 fun t29_7 =>
    wLoop (fun tih_8 tL_9 H3 nx3 =>
      wBin .lss (tL_9.getD 1 undef) t29_7 fun t31_10 =>
      wIf t31_10 (
        wIdx a2 (tL_9.getD 1 undef) none 1 fun t32_11 =>
        wLd t32_11 none H3 fun t33_12 =>
        wJoin (fun tj_13 =>
          wBin .lss t33_12 a1 fun t36_15 =>
          wGuard false t36_15 (
            wFld t3_2 0 fun t39_16 =>
            wLd t39_16 none H3 fun t40_17 =>
            wBin .geq t33_12 t40_17 fun t41_18 =>
            wGuard false t41_18 (
              wBin .shr (tL_9.getD 0 undef) t33_12 fun t46_19 =>
              wBin .and t46_19 (.int .u32 1) fun t47_20 =>
              wBin .eql t47_20 (.int .u32 1) fun t48_21 =>
              tj_13 [t48_21] H3 nx3) (
              tj_13 [(.bool true)] H3 nx3)) (
              tj_13 [(.bool true)] H3 nx3)) (fun tL_14 H4 nx4 =>
          wIf (tL_14.getD 0 undef) (
            forceV (.tuple ⟨[(.slice none 0 0), (.int .i64 1)]⟩) fun tv_22 => k tv_22 H4 nx4) (
            wBin .shl (.int .u32 1) t33_12 fun t52_23 =>
            wBin .or (tL_9.getD 0 undef) t52_23 fun t53_24 =>
            wBin .add (tL_9.getD 1 undef) (.int .i64 1) fun t54_25 =>
            tih_8 [t53_24, t54_25] H4 nx4))) (
        wLen a2 0 H3 fun t56_26 =>
        wFld t3_2 0 fun t57_27 =>
        wLd t57_27 none H3 fun t58_28 =>
        wBin .sub t58_28 a1 fun t60_29 =>
        wBin .neq t56_26 t60_29 fun t61_30 =>
        wIf t61_30 (
          forceV (.tuple ⟨[(.slice none 0 0), (.int .i64 1)]⟩) fun tv_31 => k tv_31 H3 nx3) (
          wNew (.cells [.int .i64 0, .int .i64 0, .int .i64 0, .int .i64 0, .int .i64 0, .int .i64 0, .int .i64 0, .int .i64 0, .int .i64 0, .int .i64 0, .int .i64 0, .int .i64 0, .int .i64 0, .int .i64 0, .int .i64 0, .int .i64 0, .int .i64 0, .int .i64 0, .int .i64 0, .int .i64 0, .int .i64 0, .int .i64 0, .int .i64 0, .int .i64 0, .int .i64 0, .int .i64 0, .int .i64 0, .int .i64 0, .int .i64 0, .int .i64 0, .int .i64 0, .int .i64 0] 0) .ptr H3 nx3 fun t12_32 H5 nx5 =>
          wNew (.cells [.int .i64 0, .int .i64 0, .int .i64 0, .int .i64 0, .int .i64 0, .int .i64 0, .int .i64 0, .int .i64 0, .int .i64 0, .int .i64 0, .int .i64 0, .int .i64 0, .int .i64 0, .int .i64 0, .int .i64 0, .int .i64 0, .int .i64 0, .int .i64 0, .int .i64 0, .int .i64 0, .int .i64 0, .int .i64 0, .int .i64 0, .int .i64 0, .int .i64 0, .int .i64 0, .int .i64 0, .int .i64 0, .int .i64 0, .int .i64 0, .int .i64 0, .int .i64 0] 0) .ptr H5 nx5 fun t13_33 H6 nx6 =>
          wSlA t12_32 32 1 none none none fun t62_34 =>
          wCopy t62_34 a2 1 H6 nx6 fun t64_35 H7 nx7 =>
          wLoop (fun tih_36 tL_37 H8 nx8 =>
            wBin .lss (tL_37.getD 0 undef) a1 fun t67_38 =>
            wIf t67_38 (
              wLen a2 0 H8 fun t70_39 =>
              wBin .add t70_39 (tL_37.getD 0 undef) fun t72_40 =>
              wBin .sub a1 (.int .i64 1) fun t74_41 =>
              wBin .sub t74_41 (tL_37.getD 0 undef) fun t76_42 =>
              wIdx t12_32 t72_40 (some 32) 1 fun t77_43 =>
              wSt t77_43 t76_42 1 H8 fun H9 =>
              wBin .add (tL_37.getD 0 undef) (.int .i64 1) fun t78_44 =>
              tih_36 [t78_44] H9 nx8) (
              wFld t3_2 0 fun t79_45 =>
              wLd t79_45 none H8 fun t80_46 =>
              wLoop (fun tih_47 tL_48 H10 nx10 =>
                wBin .lss (tL_48.getD 0 undef) t80_46 fun t82_49 =>
                wIf t82_49 (
                  wIdx t12_32 (tL_48.getD 0 undef) (some 32) 1 fun t85_50 =>
                  wLd t85_50 none H10 fun t86_51 =>
                  wIdx t13_33 t86_51 (some 32) 1 fun t88_52 =>
                  wSt t88_52 (tL_48.getD 0 undef) 1 H10 fun H11 =>
                  wBin .add (tL_48.getD 0 undef) (.int .i64 1) fun t89_53 =>
                  tih_47 [t89_53] H11 nx10) (
                  wLd t3_2 (some 2) H10 fun t90_54 =>
                  wCall Tryz.prog 71 [t90_54] H10 nx10 fun t91_55 H12 nx12 =>
                  wNew (.cells [.int .u32 0, .int .u32 0, .int .u32 0, .int .u32 0, .int .u32 0, .int .u32 0, .int .u32 0, .int .u32 0, .int .u32 0, .int .u32 0, .int .u32 0, .int .u32 0, .int .u32 0, .int .u32 0, .int .u32 0, .int .u32 0, .int .u32 0, .int .u32 0, .int .u32 0, .int .u32 0, .int .u32 0, .int .u32 0, .int .u32 0, .int .u32 0, .int .u32 0, .int .u32 0, .int .u32 0, .int .u32 0, .int .u32 0, .int .u32 0, .int .u32 0, .int .u32 0] 0) .ptr H12 nx12 fun t16_56 H13 nx13 =>
                  wSt t16_56 t91_55 32 H13 fun H14 =>
                  wFld t3_2 0 fun t92_57 =>
                  wLd t92_57 none H14 fun t93_58 =>
                  dMsl t93_58 t93_58 [.int .i64 0, .int .u32 0, .int .i64 0] fun tc_59 tl_61 tm_62 => wNew (.cells tc_59 0) (.slice tl_61 tm_62) H14 nx13 fun t94_60 H15 nx15 =>
                  wFld t3_2 0 fun t95_63 =>
                  wLd t95_63 none H15 fun t96_64 =>
                  wLoop (fun tih_65 tL_66 H16 nx16 =>
                    wBin .lss (tL_66.getD 0 undef) t96_64 fun t98_67 =>
                    wIf t98_67 (
                      wIdx t12_32 (tL_66.getD 0 undef) (some 32) 1 fun t101_68 =>
                      wLd t101_68 none H16 fun t102_69 =>
                      wIdx t16_56 t102_69 (some 32) 1 fun t105_70 =>
                      wLd t105_70 none H16 fun t106_71 =>
                      wBuild [.int .i64 0, .int .u32 0, .int .i64 0] [(0, 1), (1, 1), (2, 1)] [(0, t102_69), (1, t106_71), (2, (.int .i64 (-1)))] fun t107_72 =>
                      wNew (.cells [.int .i64 0, .int .u32 0, .int .i64 0] 0) .ptr H16 nx16 fun t20_73 H17 nx17 =>
                      wSt t20_73 t107_72 3 H17 fun H18 =>
                      wFld t3_2 0 fun t108_74 =>
                      wLd t108_74 none H18 fun t109_75 =>
                      wLoop (fun tih_76 tL_77 H19 nx19 =>
                        wBin .lss (tL_77.getD 0 undef) t109_75 fun t111_78 =>
                        wIf t111_78 (
                          wJoin (fun tj_79 =>
                            wFld t20_73 1 fun t113_81 =>
                            wLd t113_81 none H19 fun t114_82 =>
                            wBin .shr t114_82 (tL_77.getD 0 undef) fun t116_83 =>
                            wBin .and t116_83 (.int .u32 1) fun t117_84 =>
                            wBin .eql t117_84 (.int .u32 0) fun t118_85 =>
                            wIf t118_85 (
                              tj_79 [] H19 nx19) (
                              wJoin (fun tj_86 =>
                                wJoin (fun tj_88 =>
                                  forceN (nx19 + 13) fun nx23 =>
                                  wFld t20_73 2 fun t119_90 =>
                                  wLd t119_90 none H19 fun t120_91 =>
                                  wBin .lss t120_91 (.int .i64 0) fun t121_92 =>
                                  wGuard false t121_92 (
                                    wIdx t13_33 (tL_77.getD 0 undef) (some 32) 1 fun t124_93 =>
                                    wLd t124_93 none H19 fun t125_94 =>
                                    wFld t20_73 2 fun t126_95 =>
                                    wLd t126_95 none H19 fun t127_96 =>
                                    wIdx t13_33 t127_96 (some 32) 1 fun t128_97 =>
                                    wLd t128_97 none H19 fun t129_98 =>
                                    wBin .lss t125_94 t129_98 fun t130_99 =>
                                    (((((wLd t128_97 none H19 fun tq_103 => tq_103 = t129_98) ∧ True) ∧ (((wLd t126_95 none H19 fun tq_102 => tq_102 = t127_96) ∧ True) ∧ (((wLd t124_93 none H19 fun tq_101 => tq_101 = t125_94) ∧ True) ∧ (((wLd t119_90 none H19 fun tq_100 => tq_100 = t120_91) ∧ True) ∧ True))))) ∧ (
                                      tj_88 [t130_99] H19 nx23)) ∨ False) (
                                    (((((wLd t119_90 none H19 fun tq_104 => tq_104 = t120_91) ∧ True) ∧ True)) ∧ (
                                      tj_88 [(.bool true)] H19 nx23)) ∨ False)) (fun tL_89 H22 nx22 =>
                                  wIf (tL_89.getD 0 undef) (
                                    wFld t20_73 2 fun t133_105 =>
                                    wSt t133_105 (tL_77.getD 0 undef) 1 H22 fun H24 =>
                                    tj_86 [] H24 nx22) (
                                    tj_86 [] H22 nx22))) (fun tL_87 H21 nx21 =>
                                forceN (nx21 + 15) fun nx25 =>
                                wIdx t16_56 (tL_77.getD 0 undef) (some 32) 1 fun t136_106 =>
                                wLd t136_106 none H21 fun t137_107 =>
                                wFld t20_73 1 fun t138_108 =>
                                wLd t138_108 none H21 fun t139_109 =>
                                wBin .or t137_107 t139_109 fun t140_110 =>
                                wBin .shl (.int .u32 1) (tL_77.getD 0 undef) fun t142_111 =>
                                wBin .shl (.int .u32 1) t102_69 fun t144_112 =>
                                wBin .or t142_111 t144_112 fun t145_113 =>
                                wBin .andNot t140_110 t145_113 fun t146_114 =>
                                wIdx t16_56 (tL_77.getD 0 undef) (some 32) 1 fun t147_115 =>
                                wSt t147_115 t146_114 1 H21 fun H26 =>
                                (((((True) ∧ ((wLd t138_108 none H21 fun tq_117 => tq_117 = t139_109) ∧ True)) ∧ (((True) ∧ ((wLd t136_106 none H21 fun tq_116 => tq_116 = t137_107) ∧ True)) ∧ True))) ∧ (
                                  tj_79 [] H26 nx25)) ∨ False))) (fun tL_80 H20 nx20 =>
                            wBin .add (tL_77.getD 0 undef) (.int .i64 1) fun t148_118 =>
                            tih_76 [t148_118] H20 nx20)) (
                          wLd t20_73 (some 3) H19 fun t151_119 =>
                          wIdx t94_60 t102_69 none 3 fun t152_120 =>
                          wSt t152_120 t151_119 3 H19 fun H27 =>
                          wBin .add (tL_66.getD 0 undef) (.int .i64 1) fun t153_121 =>
                          tih_65 [t153_121] H27 nx19)) [(.int .i64 0)] H18 nx17) (
                      forceV (.tuple ⟨[t94_60, (.int .i64 0)]⟩) fun tv_122 => k tv_122 H16 nx16)) [(.int .i64 0)] H15 nx15)) [(.int .i64 0)] H8 nx8)) [(.int .i64 0)] H7 nx7))) [(.int .u32 0), (.int .i64 0)] H2 nx2)
theorem eq62 (a0 a1 a2 : Value) (H : Heap) (nx : Nat) (k : EP) : wBody Tryz.prog 155 8 d62 [(.s 6, none), (.s 7, none)] [a0, a1, a2] H nx k = F62 a0 a1 a2 H nx k := by kernel_rfl
theorem spec62 {a0 a1 a2 : Value} {H : Heap} {nx : Nat} {k : EP} (h : F62 a0 a1 a2 H nx k) : Ans Tryz.prog 62 [a0, a1, a2] H nx k :=
  spec_of_body mixed namesOK cfn62 ok62 (by simp) ((eq62 a0 a1 a2 H nx k).symm ▸ h)

end Go.Proofs.YtdecggbglnbhlaaGreatDoor
