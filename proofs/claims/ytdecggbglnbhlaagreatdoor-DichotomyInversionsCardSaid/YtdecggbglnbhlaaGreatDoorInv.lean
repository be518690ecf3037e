/-
  Plain: inversions, and counting them while runs are merged.
-/
set_option linter.unusedSimpArgs false
set_option linter.unusedVariables false
set_option linter.unusedSectionVars false
namespace Go.Inv

def less (x : Int) (r : List Int) : Nat := r.countP fun y => decide (y < x)
/-- The number of inversions. -/
def inv : List Int → Nat
  | [] => 0
  | x :: r => less x r + inv r
def cross (a b : List Int) : Nat := (a.map fun x => less x b).sum
theorem less_append (x : Int) (a b : List Int) : less x (a ++ b) = less x a + less x b := List.countP_append
theorem less_perm (x : Int) {a b : List Int} (h : a.Perm b) : less x a = less x b := h.countP_eq _
theorem inv_append : ∀ a b : List Int, inv (a ++ b) = inv a + inv b + cross a b
  | [], b => by simp [inv, cross]
  | x :: a, b => by
    have := inv_append a b
    simp only [List.cons_append, inv, less_append, cross, List.map_cons, List.sum_cons] at this ⊢
    omega
theorem cross_perm_right (a : List Int) {b c : List Int} (h : b.Perm c) : cross a b = cross a c := by
  unfold cross
  congr 1
  exact List.map_congr_left fun x _ => less_perm x h
theorem cross_perm_left {a c : List Int} (b : List Int) (h : a.Perm c) : cross a b = cross c b := (h.map _).sum_nat
theorem cross_cons_left (x : Int) (a b : List Int) : cross (x :: a) b = less x b + cross a b := by simp [cross]
theorem cross_nil_left (b : List Int) : cross [] b = 0 := rfl
theorem cross_nil_right : ∀ a : List Int, cross a [] = 0
  | [] => rfl
  | x :: a => by rw [cross_cons_left, cross_nil_right a]; rfl
theorem cross_cons_right : ∀ (a : List Int) (y : Int) (b : List Int), cross a (y :: b) = (a.countP fun x => decide (y < x)) + cross a b
  | [], y, b => rfl
  | x :: a, y, b => by
    rw [cross_cons_left, cross_cons_left, cross_cons_right a y b]
    simp only [less, List.countP_cons]
    omega

abbrev Srt (l : List Int) : Prop := l.Pairwise (· ≤ ·)
/-- Two sorted runs are merged; what is counted on the way. -/
def mergeC : List Int → List Int → List Int × Nat
  | [], b => (b, 0)
  | a, [] => (a, 0)
  | x :: a, y :: b => if x ≤ y then ((x :: (mergeC a (y :: b)).1), (mergeC a (y :: b)).2) else ((y :: (mergeC (x :: a) b).1), (mergeC (x :: a) b).2 + (a.length + 1))
termination_by a b => a.length + b.length
theorem merge_nil (b : List Int) : mergeC [] b = (b, 0) := by rw [mergeC]
theorem merge_nil' (a : List Int) : mergeC a [] = (a, 0) := by cases a <;> rw [mergeC]; simp
theorem merge_le {x y : Int} (h : x ≤ y) (a b : List Int) : mergeC (x :: a) (y :: b) = ((x :: (mergeC a (y :: b)).1), (mergeC a (y :: b)).2) := by rw [mergeC, if_pos h]
theorem merge_gt {x y : Int} (h : ¬ x ≤ y) (a b : List Int) : mergeC (x :: a) (y :: b) = ((y :: (mergeC (x :: a) b).1), (mergeC (x :: a) b).2 + (a.length + 1)) := by rw [mergeC, if_neg h]
theorem merge_perm : ∀ (n : Nat) (a b : List Int), a.length + b.length ≤ n → (mergeC a b).1.Perm (a ++ b)
  | _, [], b, _ => by rw [merge_nil]; exact List.Perm.refl _
  | _, x :: a, [], _ => by rw [merge_nil']; simp
  | 0, x :: a, y :: b, h => by simp at h
  | n + 1, x :: a, y :: b, h => by
    simp only [List.length_cons] at h
    by_cases hxy : x ≤ y
    · rw [merge_le hxy]
      exact (merge_perm n a (y :: b) (by simp; omega)).cons x
    · rw [merge_gt hxy]
      have h1 := (merge_perm n (x :: a) b (by simp; omega)).cons y
      exact h1.trans (List.perm_middle (l₁ := x :: a)).symm
theorem merge_srt : ∀ (n : Nat) (a b : List Int), a.length + b.length ≤ n → Srt a → Srt b → Srt (mergeC a b).1
  | _, [], b, _, _, hb => by rw [merge_nil]; exact hb
  | _, x :: a, [], _, ha, _ => by rw [merge_nil']; exact ha
  | 0, x :: a, y :: b, h, _, _ => by simp at h
  | n + 1, x :: a, y :: b, h, ha, hb => by
    simp only [List.length_cons] at h
    have ha' := List.pairwise_cons.1 ha
    have hb' := List.pairwise_cons.1 hb
    by_cases hxy : x ≤ y
    · rw [merge_le hxy]
      refine List.pairwise_cons.2 ⟨fun z hz => ?_, merge_srt n a (y :: b) (by simp; omega) ha'.2 hb⟩
      rcases List.mem_append.1 ((merge_perm n a (y :: b) (by simp; omega)).mem_iff.1 hz) with hz | hz
      · exact ha'.1 z hz
      · rcases List.mem_cons.1 hz with rfl | hz
        · exact hxy
        · exact Int.le_trans hxy (hb'.1 z hz)
    · rw [merge_gt hxy]
      refine List.pairwise_cons.2 ⟨fun z hz => ?_, merge_srt n (x :: a) b (by simp; omega) ha hb'.2⟩
      rcases List.mem_append.1 ((merge_perm n (x :: a) b (by simp; omega)).mem_iff.1 hz) with hz | hz
      · rcases List.mem_cons.1 hz with rfl | hz
        · omega
        · have := ha'.1 z hz; omega
      · exact hb'.1 z hz
theorem merge_count : ∀ (n : Nat) (a b : List Int), a.length + b.length ≤ n → Srt a → Srt b → (mergeC a b).2 = cross a b
  | _, [], b, _, _, _ => by rw [merge_nil]; rfl
  | _, x :: a, [], _, _, _ => by rw [merge_nil', cross_nil_right]
  | 0, x :: a, y :: b, h, _, _ => by simp at h
  | n + 1, x :: a, y :: b, h, ha, hb => by
    simp only [List.length_cons] at h
    have ha' := List.pairwise_cons.1 ha
    have hb' := List.pairwise_cons.1 hb
    by_cases hxy : x ≤ y
    · rw [merge_le hxy, cross_cons_left]
      show (mergeC a (y :: b)).2 = _
      rw [merge_count n a (y :: b) (by simp; omega) ha'.2 hb]
      have : less x (y :: b) = 0 := by
        unfold less
        rw [List.countP_eq_zero]
        intro z hz
        rcases List.mem_cons.1 hz with rfl | hz
        · simp; omega
        · have := hb'.1 z hz
          simp; omega
      omega
    · rw [merge_gt hxy, cross_cons_right]
      show (mergeC (x :: a) b).2 + (a.length + 1) = _
      rw [merge_count n (x :: a) b (by simp; omega) ha hb'.2]
      have : ((x :: a).countP fun x => decide (y < x)) = a.length + 1 := by
        rw [← List.length_cons (a := x), List.countP_eq_length]
        intro z hz
        rcases List.mem_cons.1 hz with rfl | hz
        · simp; omega
        · have := ha'.1 z hz
          simp; omega
      omega
theorem merge_length (a b : List Int) : (mergeC a b).1.length = a.length + b.length := by rw [(merge_perm _ a b (Nat.le_refl _)).length_eq, List.length_append]

/-- One pass over the runs of a width. -/
def passC (w : Nat) : Nat → List Int → List Int × Nat
  | 0, l => (l, 0)
  | n + 1, l => ((mergeC (l.take w) ((l.drop w).take w)).1 ++ (passC w n (l.drop (2 * w))).1, (mergeC (l.take w) ((l.drop w).take w)).2 + (passC w n (l.drop (2 * w))).2)

/-- The runs of a width are sorted; what lies in each is what lay there; the inversions inside are counted. -/
inductive R (w : Nat) : List Int → List Int → Nat → Prop
  | last {p f : List Int} : p.length ≤ w → Srt f → f.Perm p → R w p f (inv p)
  | cons {p1 p2 f1 f2 : List Int} {c : Nat} : p1.length = w → Srt f1 → f1.Perm p1 → R w p2 f2 c → R w (p1 ++ p2) (f1 ++ f2) (inv p1 + c)
theorem R.length {w : Nat} {p f : List Int} {c : Nat} (h : R w p f c) : f.length = p.length := by
  induction h with
  | last _ _ h => exact h.length_eq
  | cons _ _ h _ ih => simp [h.length_eq, ih]
theorem R.one : ∀ p : List Int, R 1 p p 0
  | [] => R.last (by simp) List.Pairwise.nil (List.Perm.refl _)
  | x :: p => by
    have := R.cons (w := 1) (p1 := [x]) (f1 := [x]) rfl (by simp) (List.Perm.refl _) (R.one p)
    simpa [inv, less] using this
theorem R.done {w : Nat} {p f : List Int} {c : Nat} (h : R w p f c) (hl : p.length ≤ w) : c = inv p := by
  induction h with
  | last => rfl
  | @cons p1 p2 f1 f2 c h1 _ _ h4 ih =>
    rw [List.length_append] at hl
    have h2 : p2.length = 0 := by omega
    have h3 : p2 = [] := List.length_eq_zero_iff.1 h2
    subst h3
    rw [ih (by omega)]
    simp [inv]
theorem R.pass {w : Nat} (hw : 0 < w) : ∀ (n : Nat) {p f : List Int} {c : Nat}, R w p f c → f.length ≤ n * (2 * w) → R (2 * w) p (passC w n f).1 (c + (passC w n f).2)
  | 0, p, f, c, h, hl => by
    have hf : f.length = 0 := by omega
    have hp : p.length = 0 := by rw [← h.length]; exact hf
    have hf' := List.length_eq_zero_iff.1 hf
    have hp' := List.length_eq_zero_iff.1 hp
    subst hf' hp'
    have := h.done (by simp)
    subst this
    exact R.last (by simp) List.Pairwise.nil (List.Perm.refl _)
  | n + 1, p, f, c, h, hl => by
    cases h with
    | last h1 h2 h3 =>
      have hfl := h3.length_eq
      have e1 : f.take w = f := List.take_of_length_le (by omega)
      have e2 : (f.drop w) = [] := List.drop_eq_nil_of_le (by omega)
      have e3 : (f.drop (2 * w)) = [] := List.drop_eq_nil_of_le (by omega)
      have e4 : ∀ m, passC w m ([] : List Int) = ([], 0) := fun m => by
        induction m with
        | zero => rfl
        | succ m ih => simp [passC, ih, merge_nil]
      simp only [passC, e1, e2, e3, e4, List.take_nil, merge_nil', List.append_nil, Nat.add_zero]
      exact R.last (by omega) h2 h3
    | @cons p1 p2 f1 f2 c2 h1 h2 h3 h4 =>
      have hf1 := h3.length_eq
      have e1 : (f1 ++ f2).take w = f1 := by rw [← h1, ← hf1]; simp
      have e2 : (f1 ++ f2).drop w = f2 := by rw [← h1, ← hf1]; simp
      have e3 : (f1 ++ f2).drop (2 * w) = f2.drop w := by rw [Nat.two_mul, ← List.drop_drop, e2]
      simp only [passC, e1, e2, e3]
      cases h4 with
      | last g1 g2 g3 =>
        have hfl := g3.length_eq
        have e4 : f2.take w = f2 := List.take_of_length_le (by omega)
        have e5 : f2.drop w = [] := List.drop_eq_nil_of_le (by omega)
        have e6 : ∀ m, passC w m ([] : List Int) = ([], 0) := fun m => by
          induction m with
          | zero => rfl
          | succ m ih => simp [passC, ih, merge_nil]
        simp only [e4, e5, e6, List.append_nil, Nat.add_zero]
        have hc := merge_count _ f1 f2 (Nat.le_refl _) h2 g2
        have hi := inv_append p1 p2
        rw [cross_perm_left _ h3, cross_perm_right _ g3] at hc
        have : inv p1 + inv p2 + (mergeC f1 f2).2 = inv (p1 ++ p2) := by omega
        rw [this]
        exact R.last (by simp; omega) (merge_srt _ f1 f2 (Nat.le_refl _) h2 g2) ((merge_perm _ f1 f2 (Nat.le_refl _)).trans (h3.append g3))
      | @cons q1 q2 r1 r2 c3 g1 g2 g3 g4 =>
        have hr1 := g3.length_eq
        have e4 : (r1 ++ r2).take w = r1 := by rw [← g1, ← hr1]; simp
        have e5 : (r1 ++ r2).drop w = r2 := by rw [← g1, ← hr1]; simp
        simp only [e4, e5]
        have ih := R.pass hw n g4 (by simp only [List.length_append] at hl; rw [Nat.add_mul] at hl; omega)
        have hc := merge_count _ f1 r1 (Nat.le_refl _) h2 g2
        have hi := inv_append p1 q1
        rw [cross_perm_left _ h3, cross_perm_right _ g3] at hc
        have e7 : inv p1 + (inv q1 + c3) + ((mergeC f1 r1).2 + (passC w n r2).2) = inv (p1 ++ q1) + (c3 + (passC w n r2).2) := by omega
        rw [e7, ← List.append_assoc]
        exact R.cons (by simp; omega) (merge_srt _ f1 r1 (Nat.le_refl _) h2 g2) ((merge_perm _ f1 r1 (Nat.le_refl _)).trans (h3.append g3)) ih

/-- Two neighbours in ascending order, exchanged. -/
theorem inv_swap {x y : Int} (h : x < y) (a b : List Int) : inv (a ++ y :: x :: b) = inv (a ++ x :: y :: b) + 1 := by
  rw [inv_append, inv_append, cross_perm_right a (List.Perm.swap x y b)]
  simp only [inv, less, List.countP_cons]
  have h1 : decide (x < y) = true := by simp [h]
  have h2 : decide (y < x) = false := by simp; omega
  simp only [h1, h2]
  simp
  omega
theorem less_le (x : Int) (l : List Int) : less x l ≤ l.length := List.countP_le_length
theorem inv_le : ∀ l : List Int, inv l ≤ l.length * l.length
  | [] => by simp [inv]
  | x :: l => by
    have h1 := inv_le l
    have h2 := less_le x l
    simp only [inv, List.length_cons]
    have : (l.length + 1) * (l.length + 1) = l.length * l.length + 2 * l.length + 1 := by
      rw [Nat.add_mul, Nat.mul_add]; omega
    omega
end Go.Inv
