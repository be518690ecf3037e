/-
  The functions that the law reaches, found with a bit for each that is met: the same list as the row's, with less memory.
  The closed facts of the row, one by one.
-/
import Derived.Test.YtbmiedinclieaaaGreatDoorRows
import Derived.Test.YtbmiedinclieaaaGreatDoorU1
import Derived.KernelRfl
import Derived.ProofKit
set_option linter.all false
namespace Go.Proofs.YtbmiedinclieaaaGreatDoor.engineCollects
open Go Go.Clo
def tb (m x : Nat) : Bool := Nat.beq (Nat.land (Nat.shiftRight m x) 1) 1
theorem tb_is (m x : Nat) : tb m x = m.testBit x := by
  rw [Nat.testBit_eq_decide_div_mod_eq]
  have e1 : Nat.land (Nat.shiftRight m x) 1 = m / 2 ^ x % 2 := by
    show (m >>> x) &&& 1 = _
    rw [Nat.and_one_is_mod, Nat.shiftRight_eq_div_pow]
  unfold tb
  rw [e1]
  by_cases h : m / 2 ^ x % 2 = 1
  · rw [h]; rfl
  · rw [decide_eq_false h]
    exact Bool.eq_false_iff.2 fun hb => h (Nat.eq_of_beq_eq_true hb)
theorem tb_new (m f x : Nat) : tb (Nat.lor m (Nat.shiftLeft 1 f)) x = (tb m x || decide (f = x)) := by
  rw [tb_is, tb_is]
  show (m ||| 1 <<< f).testBit x = _
  rw [Nat.testBit_or, Nat.one_shiftLeft, Nat.testBit_two_pow]
noncomputable def clF (P : Program) (n : Nat) : List FuncId → List FuncId → Nat → List FuncId :=
  @Nat.rec (fun _ => List FuncId → List FuncId → Nat → List FuncId) (fun _ seen _ => seen.reverse)
    (fun _ ih todo seen m => match todo with
      | [] => seen.reverse
      | f :: todo => forceN f fun f => cond (tb m f) (ih todo seen m) (forceN (Nat.lor m (Nat.shiftLeft 1 f)) fun m => ih ((P.funcs[f]?).elim [] P.leadsTo ++ todo) (f :: seen) m)) n
theorem clF_eq (P : Program) : ∀ (n : Nat) (todo seen : List FuncId) (m : Nat), (∀ x, tb m x = seen.contains x) → clF P n todo seen m = P.closureVia n todo seen
  | 0, todo, seen, m, _ => by
    cases todo <;> rfl
  | n + 1, [], seen, m, _ => rfl
  | n + 1, f :: todo, seen, m, h => by
    show (forceN f fun f => cond (tb m f) (clF P n todo seen m) (forceN (Nat.lor m (Nat.shiftLeft 1 f)) fun m => clF P n ((P.funcs[f]?).elim [] P.leadsTo ++ todo) (f :: seen) m)) = _
    rw [forceN_eq, forceN_eq, h f, Program.closureVia]
    cases hc : seen.contains f with
    | true => simp only [cond_true, if_true]; exact clF_eq P n todo seen m h
    | false =>
      simp only [cond_false, Bool.false_eq_true, if_false]
      refine clF_eq P n _ _ _ fun x => ?_
      rw [tb_new, h x, List.contains_cons, Bool.or_comm]
      congr 1
      by_cases e : f = x
      · subst e; simp
      · rw [decide_eq_false e]; simp; exact fun g => e g.symm
theorem closure_clF (P : Program) (f : FuncId) : P.closure f = forceN (1 + (P.funcs.toList.map fun g => (P.leadsTo g).length + 1).sum) fun n => clF P n [f] [] 0 := by
  rw [forceN_eq, clF_eq P _ [f] [] 0 fun x => by rw [tb_is]; simp]
  rfl
end Go.Proofs.YtbmiedinclieaaaGreatDoor.engineCollects

namespace Go.Proofs.YtbmiedinclieaaaGreatDoor.engineCollects
open Go Go.Clo
def cl : List FuncId := [3, 4, 5, 28, 56, 119, 120, 121, 57, 58, 122, 81, 123, 79, 124, 220, 221, 331, 410, 77, 59, 125, 127, 128, 224, 126, 222, 332, 223, 61, 60, 129, 225, 130, 226, 227, 131, 44, 100, 191, 296, 190, 294, 377, 295, 148, 55, 254, 378, 441, 447, 495, 442, 492, 443, 344, 345, 444, 493, 494, 521, 445, 446, 448, 449, 101, 192, 297, 229, 228, 333, 349, 425, 479, 255, 157, 80, 348, 263, 258, 424, 426, 480, 481, 482, 334, 412, 413, 470, 411, 159, 351, 427, 335, 414, 415, 471, 508, 336, 416, 417, 473, 474, 472, 509, 543, 510, 544, 420, 511, 418, 475, 419, 478, 514, 477, 476, 512, 513, 545, 561, 230, 136, 237, 231, 337, 141, 242, 243, 338, 132, 133, 62, 29, 63, 64, 65, 87, 162, 163, 264, 265, 156, 261, 356, 430, 357, 68, 137, 146, 138, 238, 139, 239, 340, 240, 342, 422, 118, 219, 52, 116, 329, 408, 330, 409, 469, 25, 54, 341, 421, 36, 241, 66, 67, 134, 232, 233, 234, 135, 236, 339, 235, 33, 76, 74, 8, 26, 16, 7, 30, 69, 140, 70, 142, 143, 71, 31, 73, 145, 72, 144, 244, 75, 147, 245, 251, 246, 343, 247, 248, 346, 347, 423, 249, 250, 252, 253, 32, 38, 15, 37, 17, 39, 40, 78, 149, 41, 82, 150, 256, 83, 84, 151, 257, 259, 350, 153, 152, 154, 155, 260, 352, 428, 353, 354, 355, 429, 85, 158, 160, 262, 161, 86, 88, 18, 42, 12, 35, 20, 21, 47, 24, 51, 46, 108, 200, 27, 109, 201, 202, 110, 23, 53, 117, 203, 204, 301, 302, 303, 304, 305, 306, 19, 43, 89, 90, 91, 164, 266, 358, 359, 194, 267, 268, 360, 361, 431, 167, 272, 362, 363, 432, 269, 165, 270, 166, 271, 364, 92, 93, 168, 273, 169, 170, 274, 275, 94, 171, 173, 172, 95, 96, 174, 175, 97, 176, 276, 288, 183, 182, 277, 184, 177, 278, 365, 367, 366, 279, 368, 369, 433, 370, 280, 178, 281, 282, 289, 283, 284, 371, 285, 372, 434, 373, 179, 287, 286, 374, 98, 180, 181, 185, 186, 212, 291, 290, 375, 436, 435, 376, 437, 438, 439, 483, 484, 491, 515, 516, 485, 517, 546, 548, 519, 547, 518, 562, 307, 451, 488, 520, 486, 487, 489, 490, 440, 187, 188, 292, 189, 293, 99, 45, 102, 103, 112, 207, 312, 311, 388, 196, 300, 313, 389, 314, 390, 453, 454, 391, 455, 315, 392, 393, 456, 457, 499, 497, 523, 550, 524, 525, 551, 552, 563, 526, 527, 528, 529, 458, 316, 395, 397, 398, 396, 460, 394, 459, 399, 461, 104, 105, 193, 113, 208, 317, 400, 462, 209, 210, 211, 114, 213, 318, 401, 402, 404, 403, 464, 463, 500, 530, 532, 531, 533, 501, 502, 534, 553, 554, 535, 537, 556, 555, 564, 536, 538, 503, 214, 319, 320, 321, 323, 322, 405, 465, 504, 539, 540, 557, 558, 541, 542, 559, 560, 565, 215, 324, 325, 406, 466, 505, 506, 407, 507, 467, 468, 326, 216, 217, 327, 328, 298, 379, 380, 381, 450, 496, 382, 383, 384, 195, 299, 107, 199, 198, 106, 197, 22, 48, 111, 205, 308, 115, 218, 206, 310, 385, 387, 386, 452, 498, 522, 549, 309, 49, 50, 14, 6, 9, 10, 34, 11, 13]
theorem cl_is : Tryz.prog.closure 3 = cl := (closure_clF _ _).trans (by kernel_rfl)
theorem j1 : Rows.engineCollectsRow.inPlace = Tryz.pinned.checked.prog.inPlace 3 := by
  show _ = Tryz.prog.inPlace 3
  unfold Program.inPlace
  rw [cl_is]
  kernel_rfl
theorem u3 : Tryz.prog.unfollowed 3 = true := by
  unfold Program.unfollowed
  rw [cl_is]
  kernel_rfl
theorem j2 : Rows.engineCollectsRow.unfollowed = Tryz.pinned.checked.prog.unfollowed 3 := u3.symm
theorem j3 : Rows.engineCollectsRow.recurses = Tryz.pinned.checked.prog.recurses 3 := by
  show true = Tryz.prog.recurses 3
  unfold Program.recurses
  rw [u3]; rfl
theorem j4 : Rows.engineCollectsRow.named = Tryz.pinned.checked.prog.varsNamed 3 := by
  show _ = Tryz.prog.varsNamed 3
  unfold Program.varsNamed
  rw [cl_is]
  kernel_rfl
end Go.Proofs.YtbmiedinclieaaaGreatDoor.engineCollects
