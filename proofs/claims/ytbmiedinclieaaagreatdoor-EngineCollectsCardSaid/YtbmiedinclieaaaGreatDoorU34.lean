/-
  THE STATEMENT EngineCollects: for every input the law returns true, and the arguments read behind the call as they did (what the row lists of Go's tables is tied to the program's text). No condition.
-/
import Derived.Test.YtbmiedinclieaaaGreatDoorU33
import Derived.Test.YtbmiedinclieaaaGreatDoorU17
import Derived.Test.YtbmiedinclieaaaGreatDoorU18
import Derived.Test.YtbmiedinclieaaaGreatDoorRows
import Derived.Test.YtbmiedinclieaaaGreatDoorCards
import Derived.WalkKit
import Derived.ProofKit
import Derived.OpenShut
import Derived.Lib.SmallJoins
import Derived.Lib.LaidTab
import Derived.SizedLaws
import Derived.LaidMore
import Derived.Lay
import Derived.Stop.Joined
import Derived.SevenTiedAt
set_option linter.all false
namespace Go.Proofs.YtbmiedinclieaaaGreatDoor.engineCollects
open Go.ChangeShapes Go.WideShapes Go.ChangeAt Go.RowKit Go.Joins Go.Clo

theorem own : ownKnob Tryz.prog.godebug = none := by kernel_rfl
def laidR : List (String × DataW Unit) := Rows.engineCollectsRow.laid
theorem laid_deB : (Rows.laid_math_bits_deBruijn32tab : DataW Unit) = Lib.tabData .u8 (deB.map fun (n : Nat) => (n : Int)) := by kernel_rfl
theorem laid_crc : (Rows.laid_ordinal_checksum_remainders : DataW Unit) = Lib.tabData .u32 (ctab.map fun (n : Nat) => (n : Int)) := by kernel_rfl
theorem var_block {W : World} {n : String} {g : Nat} {cs : Array Value} (hg : Tryz.prog.globalNamed n = some g) (hv : W.var? Tryz.prog n = some cs) {l : List Value} (hc : cs.toList = l) : g < W.heap.size ∧ ∃ e m, W.heap[g]? = some (.cells ⟨l⟩ e m) := by
  unfold World.var? at hv
  rw [hg] at hv
  simp only [Option.bind_some] at hv
  split at hv
  · rename_i cs' e m hw
    cases hv
    refine ⟨(Array.getElem?_eq_some_iff.1 hw).1, e, m, ?_⟩
    rw [hw, ← hc]
  · cases hv
theorem glw_of_laid {W : World} (h : laidMetH Tryz.prog laidR W) : GlW W := by
  rw [MakeChecks.laidMetH_plain _ _ _ (by kernel_rfl)] at h
  obtain ⟨ps, h, _, _⟩ := h
  obtain ⟨g, t, cs, fuel, p, q, hg, ht, hv, hd, h, _⟩ := (show DataW.LaidVars Tryz.prog W [_, _, _, _] ps from h)
  obtain ⟨g2, t2, cs2, fuel2, p2, q2, hg2, ht2, hv2, hd2, _, _⟩ := h
  have e1 : Tryz.prog.globalNamed ((laidR.map (·.1)).getD 0 default) = some 2 := by kernel_rfl
  have e2 : Tryz.prog.globalNamed ((laidR.map (·.1)).getD 1 default) = some 1 := by kernel_rfl
  obtain rfl := Option.some.inj (e1.symm.trans hg)
  obtain rfl := Option.some.inj (e2.symm.trans hg2)
  obtain rfl := Option.some.inj ((show (Tryz.prog.globals[2]?).map (·.type) = some 716 by kernel_rfl).symm.trans ht)
  obtain rfl := Option.some.inj ((show (Tryz.prog.globals[1]?).map (·.type) = some 684 by kernel_rfl).symm.trans ht2)
  have hd' : DataW.trod (fun _ => ()) Tryz.prog W 0 (fun _ => true) false fuel 716 cs.toList = some (Lib.tabData .u32 (ctab.map fun (n : Nat) => (n : Int)), p) := by rw [← laid_crc]; exact hd
  have hd2' : DataW.trod (fun _ => ()) Tryz.prog W 0 (fun _ => true) false fuel2 684 cs2.toList = some (Lib.tabData .u8 (deB.map fun (n : Nat) => (n : Int)), p2) := by rw [← laid_deB]; exact hd2
  have hc := Lib.cells_of_tab Tryz.underlying716 Tryz.underlying84 (by kernel_rfl) (by kernel_rfl) hd'
  have hc2 := Lib.cells_of_tab Tryz.underlying684 Tryz.underlying5 (by kernel_rfl) (by kernel_rfl) hd2'
  rw [List.map_map] at hc hc2
  intro x hx
  rcases List.mem_cons.1 hx with rfl | hx
  · exact var_block hg hv hc
  · rw [List.mem_singleton.1 hx]
    exact var_block hg2 hv2 hc2

/-- The step from the call's end to the row's post-condition. -/
theorem law_post {X : Type} {enc : TypeId × Value → X} {fn : Func} {s : ChangeSpec} {W W' : World} {args : Array Value} {ds gs : List (DataW X)} {before p : List MemPlace}
    (hW : DataW.Whole enc Tryz.prog fn.params.toList s.vars false W args.toList ds gs before) (hv : s.vars = []) (hres : (s.fn X (ds ++ gs)).results = [.lit (.bool true)]) (hvars : (s.fn X (ds ++ gs)).vars = [])
    (hargs : (s.fn X (ds ++ gs)).args = ds) (hrt : fn.resultTypes = #[4]) (hts : ∀ t ∈ fn.params.toList, Tryz.prog.readableRec t = true ∧ t < Tryz.prog.types.size) (hb : Below W.heap.size W W')
    (hA : DataW.TrodAll enc Tryz.prog W 0 (fun _ => true) true fn.params.toList args.toList ds p) (hp : ∀ x ∈ p, x ∈ before) :
    s.post enc Tryz.prog fn false true false false W args (.bool true) W' := by
  refine post_of_below (pa := p) (pv := []) hW hb (fun _ _ _ => ?_) ?_ ?_
  · rw [hres, hrt]
    exact trodAll_cons_mk (shut_bool Tryz.underlying4 _) trodAll_mk0
  · rw [hargs]
    exact trodAll_below laidOut hb _ _ _ _ hts hA fun x hx => hW.lt x (hp x hx)
  · rw [hv, hvars]; rfl
theorem shaped (os : Os) : (World.laidAll Tryz.prog os laidR).Shaped Tryz.prog := World.shaped_of_ZipB (by kernel_rfl) (by kernel_rfl)
theorem met (os : Os) (args : Array Value) : laidMetH Tryz.prog laidR ((World.laidAll Tryz.prog os laidR).forCall (fun _ _ => 0) ⟨#[], args, []⟩).memory := by
  rw [MakeChecks.laidMetH_plain _ _ _ (by kernel_rfl)]; exact laidMet_laidAll _ (by kernel_rfl) (by kernel_rfl)
set_option maxRecDepth 100000 in
theorem byte_open {X : Type} {enc : TypeId × Value → X} {W : World} {base b0 : Nat} {spare : Nat → Bool} {held : Bool} {v : Value} {d : DataW X} {p : List MemPlace} (hv : Value.okWide Tryz.prog W .any b0 5 v) (h : DataW.Trod enc Tryz.prog W base spare held 5 v d p) :
    ∃ m : Nat, v = .int .u8 (.ofNat m) ∧ m < 256 := by
  obtain ⟨fuel, h⟩ := h
  obtain ⟨k, rfl⟩ : ∃ z : Int, v = .int .u8 z := by
    simp only [Value.okWide, Tryz.underlying5] at hv
    cases v <;> simp_all [Cell.okWide, Cell.ok, Tryz.underlying5]
  obtain ⟨z, e, _, hz⟩ := DataW.trod_int Tryz.underlying5 h
  have e : [Value.int IntKind.u8 k] = [Value.int IntKind.u8 z] := e
  cases e
  simp only [Lit.wf, Bool.and_eq_true, decide_eq_true_eq, show IntKind.u8.min = 0 from rfl, show IntKind.u8.max = 255 from rfl] at hz
  refine ⟨k.toNat, ?_, by omega⟩
  have : (Int.ofNat k.toNat) = k := Int.toNat_of_nonneg (by omega)
  rw [this]

section
variable {X : Type} {enc : TypeId × Value → X} {W : World} {b0 base : Nat} {spare : Nat → Bool} {held : Bool}
theorem okWide_cell {P : Program} {r : Reach} {t e : TypeId} {A : Option Addr} {len cap : Nat} (ht : P.underlying t = some (.slice e)) (h : Cell.okWide P W r b0 t (.slice A len cap)) : Cell.ok P W r b0 t (.slice A len cap) := by
  simp only [Cell.okWide, ht] at h
  exact h
theorem okWide_value {P : Program} {r : Reach} {t e : TypeId} {A : Option Addr} {len cap : Nat} (ht : P.underlying t = some (.slice e)) (h : Value.okWide P W r b0 t (.slice A len cap)) : Cell.ok P W r b0 t (.slice A len cap) := by
  simp only [Value.okWide, ht] at h
  exact okWide_cell ht h
theorem flatMap_one {α : Type} (f : α → Value) (xs : List α) : (xs.flatMap fun a => [f a]) = xs.map f := by
  induction xs with
  | nil => rfl
  | cons a xs ih => simp [ih]
set_option maxRecDepth 100000 in
theorem open_bytes {F : FM} {H : Heap} {nx : Nat} (hi : In W F H nx) {A : Option Addr} {len cap n : Nat} {y : DataW X × List MemPlace} (hok : Cell.ok Tryz.prog W .any b0 22 (.slice A len cap)) (h : DataW.trod enc Tryz.prog W base spare held n 22 [.slice A len cap] = some y) :
    ∃ (F' : FM) (H' : Heap) (nx' : Nat) (A' : Option Addr) (bs : List Nat), In W F' H' nx' ∧ VR F' (.slice A' bs.length cap) (.slice A len cap) ∧ Sl H' nx' A' (u8s bs) ∧ ∀ x ∈ bs, x < 256 := by
  obtain ⟨F', H', nx', A', xs, h1, h2, h3, rfl, h5, h6, h7, _, h9⟩ := hi.sliceH (f := fun a : Nat => [Value.int .u8 (a : Int)]) (Pr := fun a => a < 256) (sz := 1) Tryz.underlying22 (by kernel_rfl) (fun _ => rfl) hok h (fun n cs y h => by
    obtain ⟨z, rfl, _, hz⟩ := DataW.trod_int Tryz.underlying5 h
    simp only [Lit.wf, Bool.and_eq_true, decide_eq_true_eq, show IntKind.u8.min = 0 from rfl, show IntKind.u8.max = 255 from rfl] at hz
    refine ⟨z.toNat, ?_, by omega⟩
    show [Value.int .u8 (z.toNat : Int)] = [Value.int .u8 z]
    rw [Int.toNat_of_nonneg (by omega)]) (fun _ => rfl)
  rw [flatMap_one] at h6
  exact ⟨F', H', nx', A', xs, h1, h3, h6, h5⟩
end
set_option maxRecDepth 100000 in
theorem lifted (os : Os) (started : os.Started) (H : Type) (enc : TypeId × Value → H) :
    ReturnsInHanded {} Tryz.checked os 3 .any (fun w args => (Rows.engineCollectsSpec.pre enc Tryz.prog Tryz.f3 Rows.engineCollectsRow.domain false w args ∧ laidMetH Tryz.prog laidR w) ∧ sizedMet enc Tryz.prog Tryz.f3 (OpenSpec.ofChange Rows.engineCollectsSpec) false w args)
      (Rows.engineCollectsSpec.post enc Tryz.prog Tryz.f3 false true false false) := by
  refine returnsInHanded_of_change_and (C := Tryz.checked) (X := fun w _ => laidMetH Tryz.prog laidR w) (fun _ _ _ hh h => h.of_heap hh) own started (by kernel_rfl) Tryz.func3
    (ChangeSpec.witness_shaped (enc := enc) (C := Tryz.checked) (os := os) (X := fun w _ => laidMetH Tryz.prog laidR w) false (World.laidAll Tryz.prog os laidR) #[.slice none 0 0, .int .u8 0] 8 (World.laidAll_os _ _ _)
      (shaped os) (by kernel_rfl) (by kernel_rfl) (by kernel_rfl) (met os _)) ?_
  intro W base args ds gs before hval0 hW _ _ hlaid _
  have hval : ∀ (j : Nat) t v, Tryz.f3.params[j]? = some t → args[j]? = some v → Value.okWide Tryz.prog W .any base t v := hval0
  have hW' := hW
  obtain ⟨p, q, hA0, hV, rfl, _, _⟩ := hW
  have hA : DataW.TrodAll enc Tryz.prog W 0 (fun _ => true) true Tryz.f3.params.toList args.toList ds p := hA0
  have hAll := hA
  rw [Tryz.params3] at hA hval
  obtain ⟨v0, vs0, d0, ds0, p0, q0, hargs, rfl, rfl, h0, r0⟩ := trodAll_cons hA
  obtain ⟨v1, vs1, d1, ds1, p1, q1, hargs1, rfl, rfl, h1, r1⟩ := trodAll_cons r0
  obtain ⟨rfl, rfl, rfl⟩ := trodAll_nil r1
  subst hargs1
  obtain rfl : args = #[v0, v1] := by cases args; simp_all
  obtain ⟨rfl, rfl⟩ := trodVars_none hV
  obtain ⟨A, len, cap, rfl⟩ := okWide_slice Tryz.underlying22 (hval 0 22 v0 rfl rfl)
  obtain ⟨fuel0, ht0⟩ := h0
  obtain ⟨m, rfl, hm⟩ := byte_open (hval 1 5 v1 rfl rfl) h1
  obtain ⟨F1, H1, nx1, A', bs, hi1, hr1, hS, hbs⟩ := open_bytes (In.start W (glw_of_laid hlaid)) (okWide_value Tryz.underlying22 (hval 0 22 _ rfl rfl)) ht0
  have hvl : VL F1 [.slice A' bs.length cap, .int .u8 (m : Int)] [.slice A len cap, .int .u8 (.ofNat m)] := .cons hr1 (.cons (.int _ _) .nil)
  refine (calls_of_ans (law_ans bs cap m hS hbs hm) (fun _ _ _ h => h) hi1 hvl).mono fun e W' ⟨he, hb⟩ => ?_
  subst he
  refine ⟨_, rfl, law_post hW' rfl rfl rfl rfl (by kernel_rfl) ?_ hb hAll fun x hx => List.mem_append_left _ hx⟩
  rw [Tryz.params3]
  intro t ht
  have : t = 22 ∨ t = 5 := by simpa using ht
  rcases this with rfl | rfl
  · exact ⟨r9, by rw [size_is]; decide⟩
  · exact ⟨r5, by rw [size_is]; decide⟩

theorem over : Rows.engineCollectsRow.holds Tryz.pinned (OpenSpec.ofChange Rows.engineCollectsSpec) :=
  OpenClaim.holds_of_wide 3 Tryz.f3 rfl rfl rfl rfl rfl rfl rfl ⟨rfl, rfl, rfl, rfl, rfl⟩ rfl rfl rfl rfl rfl (by kernel_rfl) Tryz.func3 closed
    (of_decide_eq_true (by kernel_rfl)) (by unfold Func.isWrapper; first | (rw [if_pos (by decide +kernel)]; kernel_rfl) | (rw [if_neg (by decide +kernel)]; exact ⟨rfl, rfl⟩))
    (fun os started H enc _ => lifted os started H enc)

/-- THE STATEMENT -/
theorem proved : Rows.EngineCollectsCardSaid :=
  Claim7.holds_tied_plain_at .later [] [.data, .data, .data, .data] true (true, "07c44e6f159c175ebf633aaa5f4d16bc4e176d794bf5110a870e942e873631e8") true over (fun _ h => by cases h) k1 (fun _ h => by cases h) row_tie0 rfl ⟨rfl, rfl⟩ k2 rfl
    (fun f fn hf hfn => by
      obtain rfl : f = 3 := Option.some.inj (k5.symm.trans hf) |>.symm
      obtain rfl : fn = Tryz.f3 := (Option.some.inj (Tryz.func3.symm.trans hfn)).symm
      exact ⟨k4, fun j t ht => by
        rw [Tryz.params3] at ht
        have hm : t ∈ [22, 5] := by simpa using Array.mem_of_getElem? ht
        exact (show Tryz.prog.wantsStandIn t = false by simpa using List.all_eq_true.1 k6 t (by simpa using hm))⟩)
    k3
end Go.Proofs.YtbmiedinclieaaaGreatDoor.engineCollects
