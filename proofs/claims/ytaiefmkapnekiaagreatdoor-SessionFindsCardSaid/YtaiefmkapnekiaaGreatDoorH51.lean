/-
  THE STATEMENT SessionFinds: for every input the law returns true, and the arguments read behind the call as they did (what the row lists of Go's tables is tied to the program's text). No condition.
-/
import Derived.Test.YtaiefmkapnekiaaGreatDoorH50
import Derived.Test.YtaiefmkapnekiaaGreatDoorH29
import Derived.Test.YtaiefmkapnekiaaGreatDoorH30
import Derived.Test.YtaiefmkapnekiaaGreatDoorRows
import Derived.Test.YtaiefmkapnekiaaGreatDoorTie
import Derived.Test.YtaiefmkapnekiaaGreatDoorCards
import Derived.WalkKit
import Derived.ProofKit
import Derived.OpenShut
import Derived.Lib.SmallJoins
import Derived.Lib.LaidTab
import Derived.SizedLaws
import Derived.LaidMore
import Derived.Lay
import Derived.Stop.Joined
import Derived.SevenTiedAt
set_option linter.all false
namespace Go.Proofs.YtaiefmkapnekiaaGreatDoor.sessionFinds
open Go.Proofs.YtaiefmkapnekiaaGreatDoor.facts
open Go.ChangeShapes Go.WideShapes Go.ChangeAt Go.RowKit Go.Joins Go.Clo

theorem own : ownKnob Tryz.prog.godebug = none := by kernel_rfl
def laidR : List (String × DataW Unit) := Rows.sessionFindsRow.laid
theorem laid_deB : (Rows.laid_math_bits_deBruijn32tab : DataW Unit) = Lib.tabData .u8 (deB.map fun (n : Nat) => (n : Int)) := by kernel_rfl
theorem laid_crc : (Rows.laid_ordinal_checksum_remainders : DataW Unit) = Lib.tabData .u32 (ctab.map fun (n : Nat) => (n : Int)) := by kernel_rfl
theorem var_block {W : World} {n : String} {g : Nat} {cs : Array Value} (hg : Tryz.prog.globalNamed n = some g) (hv : W.var? Tryz.prog n = some cs) {l : List Value} (hc : cs.toList = l) : g < W.heap.size ∧ ∃ e m, W.heap[g]? = some (.cells ⟨l⟩ e m) := by
  unfold World.var? at hv
  rw [hg] at hv
  simp only [Option.bind_some] at hv
  split at hv
  · rename_i cs' e m hw
    cases hv
    refine ⟨(Array.getElem?_eq_some_iff.1 hw).1, e, m, ?_⟩
    rw [hw, ← hc]
  · cases hv
theorem glw_of_laid {W : World} (h : laidMetH Tryz.prog laidR W) : GlW W := by
  rw [MakeChecks.laidMetH_plain _ _ _ (by kernel_rfl)] at h
  obtain ⟨ps, h, _, _⟩ := h
  obtain ⟨g, t, cs, fuel, p, q, hg, ht, hv, hd, h, _⟩ := (show DataW.LaidVars Tryz.prog W [_, _, _, _] ps from h)
  obtain ⟨g2, t2, cs2, fuel2, p2, q2, hg2, ht2, hv2, hd2, h, _⟩ := h
  obtain ⟨g3, t3, cs3, fuel3, p3, q3, hg3, ht3, hv3, hd3, h, _⟩ := h
  obtain ⟨g4, t4, cs4, fuel4, p4, q4, hg4, ht4, hv4, hd4, _, _⟩ := h
  have e1 : Tryz.prog.globalNamed ((laidR.map (·.1)).getD 0 default) = some 1 := by kernel_rfl
  have e4 : Tryz.prog.globalNamed ((laidR.map (·.1)).getD 3 default) = some 0 := by kernel_rfl
  obtain rfl := Option.some.inj (e1.symm.trans hg)
  obtain rfl := Option.some.inj (e4.symm.trans hg4)
  obtain rfl := Option.some.inj ((show (Tryz.prog.globals[1]?).map (·.type) = some 655 by kernel_rfl).symm.trans ht)
  obtain rfl := Option.some.inj ((show (Tryz.prog.globals[0]?).map (·.type) = some 630 by kernel_rfl).symm.trans ht4)
  have hd' : DataW.trod (fun _ => ()) Tryz.prog W 0 (fun _ => true) false fuel 655 cs.toList = some (Lib.tabData .u8 (deB.map fun (n : Nat) => (n : Int)), p) := by rw [← laid_deB]; exact hd
  have hd4' : DataW.trod (fun _ => ()) Tryz.prog W 0 (fun _ => true) false fuel4 630 cs4.toList = some (Lib.tabData .u32 (ctab.map fun (n : Nat) => (n : Int)), p4) := by rw [← laid_crc]; exact hd4
  have hc := Lib.cells_of_tab Tryz.underlying655 Tryz.underlying5 (by kernel_rfl) (by kernel_rfl) hd'
  have hc4 := Lib.cells_of_tab Tryz.underlying630 Tryz.underlying146 (by kernel_rfl) (by kernel_rfl) hd4'
  rw [List.map_map] at hc hc4
  intro x hx
  rcases List.mem_cons.1 hx with rfl | hx
  · exact var_block hg4 hv4 hc4
  · rw [List.mem_singleton.1 hx]
    exact var_block hg hv hc

/-- The step from the call's end to the row's post-condition. -/
theorem law_post {X : Type} {enc : TypeId × Value → X} {fn : Func} {s : ChangeSpec} {W W' : World} {args : Array Value} {ds gs : List (DataW X)} {before p : List MemPlace}
    (hW : DataW.Whole enc Tryz.prog fn.params.toList s.vars false W args.toList ds gs before) (hv : s.vars = []) (hres : (s.fn X (ds ++ gs)).results = [.lit (.bool true)]) (hvars : (s.fn X (ds ++ gs)).vars = [])
    (hargs : (s.fn X (ds ++ gs)).args = ds) (hrt : fn.resultTypes = #[4]) (hts : ∀ t ∈ fn.params.toList, Tryz.prog.readableRec t = true ∧ t < Tryz.prog.types.size) (hb : Below W.heap.size W W')
    (hA : DataW.TrodAll enc Tryz.prog W 0 (fun _ => true) true fn.params.toList args.toList ds p) (hp : ∀ x ∈ p, x ∈ before) :
    s.post enc Tryz.prog fn false true false false W args (.bool true) W' := by
  refine post_of_below (pa := p) (pv := []) hW hb (fun _ _ _ => ?_) ?_ ?_
  · rw [hres, hrt]
    exact trodAll_cons_mk (shut_bool Tryz.underlying4 _) trodAll_mk0
  · rw [hargs]
    exact trodAll_below laidOut hb _ _ _ _ hts hA fun x hx => hW.lt x (hp x hx)
  · rw [hv, hvars]; rfl
theorem shaped (os : Os) : (World.laidAll Tryz.prog os laidR).Shaped Tryz.prog := World.shaped_of_ZipB (by kernel_rfl) (by kernel_rfl)
theorem met (os : Os) (args : Array Value) : laidMetH Tryz.prog laidR ((World.laidAll Tryz.prog os laidR).forCall (fun _ _ => 0) ⟨#[], args, []⟩).memory := by
  rw [MakeChecks.laidMetH_plain _ _ _ (by kernel_rfl)]; exact laidMet_laidAll _ (by kernel_rfl) (by kernel_rfl)
set_option maxRecDepth 100000 in
theorem byte_open {X : Type} {enc : TypeId × Value → X} {W : World} {base b0 : Nat} {spare : Nat → Bool} {held : Bool} {v : Value} {d : DataW X} {p : List MemPlace} (hv : Value.okWide Tryz.prog W .any b0 5 v) (h : DataW.Trod enc Tryz.prog W base spare held 5 v d p) :
    ∃ m : Nat, v = .int .u8 (.ofNat m) ∧ m < 256 := by
  obtain ⟨fuel, h⟩ := h
  obtain ⟨k, rfl⟩ : ∃ z : Int, v = .int .u8 z := by
    simp only [Value.okWide, Tryz.underlying5] at hv
    cases v <;> simp_all [Cell.okWide, Cell.ok, Tryz.underlying5]
  obtain ⟨z, e, _, hz⟩ := DataW.trod_int Tryz.underlying5 h
  have e : [Value.int IntKind.u8 k] = [Value.int IntKind.u8 z] := e
  cases e
  simp only [Lit.wf, Bool.and_eq_true, decide_eq_true_eq, show IntKind.u8.min = 0 from rfl, show IntKind.u8.max = 255 from rfl] at hz
  refine ⟨k.toNat, ?_, by omega⟩
  have : (Int.ofNat k.toNat) = k := Int.toNat_of_nonneg (by omega)
  rw [this]

set_option maxRecDepth 100000 in
theorem pair_open {X : Type} {enc : TypeId × Value → X} {W : World} {base b0 : Nat} {spare : Nat → Bool} {held : Bool} {v : Value} {d : DataW X} {p : List MemPlace} (hv : Value.okWide Tryz.prog W .any b0 71 v) (h : DataW.Trod enc Tryz.prog W base spare held 71 v d p) :
    ∃ x y : Int, v = .agg ⟨[.int .i8 x, .int .i8 y]⟩ ∧ (-128 ≤ x ∧ x < 128) ∧ (-128 ≤ y ∧ y < 128) := by
  obtain ⟨fuel, h⟩ := h
  simp only [Value.okWide, Tryz.underlying71] at hv
  obtain ⟨cs, rfl, hsz, _⟩ := hv
  have h : DataW.trod enc Tryz.prog W base spare held fuel 71 cs.toList = some (d, p) := h
  obtain ⟨xs, m, _, _, hlen, hl, hel⟩ := DataW.trod_array Tryz.underlying71 h
  have c2 : Tryz.prog.cellsOf 71 = 2 := by kernel_rfl
  have c1 : Tryz.prog.cellsOf 70 = 1 := by kernel_rfl
  rw [c2] at hlen
  obtain ⟨a, b, e⟩ : ∃ a b, cs.toList = [a, b] := by
    match hc : cs.toList, hlen with
    | [a, b], _ => exact ⟨a, b, rfl⟩
  have hcs : cs = ⟨[a, b]⟩ := by rw [← e]
  have e0 := hel 0 (by omega)
  have e1 := hel 1 (by omega)
  rw [c1, e] at e0 e1
  rw [List.getElem?_eq_getElem (show 0 < xs.length by omega)] at e0
  rw [List.getElem?_eq_getElem (show 1 < xs.length by omega)] at e1
  obtain ⟨x, hx, _, wx⟩ := DataW.trod_int Tryz.underlying70 e0
  obtain ⟨y, hy, _, wy⟩ := DataW.trod_int Tryz.underlying70 e1
  have hx : [a] = [Value.int .i8 x] := hx
  have hy : [b] = [Value.int .i8 y] := hy
  cases hx; cases hy
  have bx := bounds_i8 wx
  have by' := bounds_i8 wy
  exact ⟨x, y, by rw [hcs], by omega, by omega⟩
set_option maxRecDepth 100000 in
theorem lifted (os : Os) (started : os.Started) (H : Type) (enc : TypeId × Value → H) :
    ReturnsInHanded {} Tryz.checked os 4 .any (fun w args => (Rows.sessionFindsSpec.pre enc Tryz.prog Tryz.f4 Rows.sessionFindsRow.domain false w args ∧ laidMetH Tryz.prog laidR w) ∧ sizedMet enc Tryz.prog Tryz.f4 (OpenSpec.ofChange Rows.sessionFindsSpec) false w args)
      (Rows.sessionFindsSpec.post enc Tryz.prog Tryz.f4 false true false false) := by
  refine returnsInHanded_of_change_and (C := Tryz.checked) (X := fun w _ => laidMetH Tryz.prog laidR w) (fun _ _ _ hh h => h.of_heap hh) own started (by kernel_rfl) Tryz.func4
    (ChangeSpec.witness_shaped (enc := enc) (C := Tryz.checked) (os := os) (X := fun w _ => laidMetH Tryz.prog laidR w) false (World.laidAll Tryz.prog os laidR) #[.int .u8 0, .int .u8 0, .agg #[.int .i8 0, .int .i8 0]] 8 (World.laidAll_os _ _ _)
      (shaped os) (by kernel_rfl) (by kernel_rfl) (by kernel_rfl) (met os _)) ?_
  intro W base args ds gs before hval0 hW _ _ hlaid _
  have hval : ∀ (j : Nat) t v, Tryz.f4.params[j]? = some t → args[j]? = some v → Value.okWide Tryz.prog W .any base t v := hval0
  have hW' := hW
  obtain ⟨p, q, hA0, hV, rfl, _, _⟩ := hW
  have hA : DataW.TrodAll enc Tryz.prog W 0 (fun _ => true) true Tryz.f4.params.toList args.toList ds p := hA0
  have hAll := hA
  rw [Tryz.params4] at hA hval
  obtain ⟨v0, vs0, d0, ds0, p0, q0, hargs, rfl, rfl, h0, r0⟩ := trodAll_cons hA
  obtain ⟨v1, vs1, d1, ds1, p1, q1, hargs1, rfl, rfl, h1, r1⟩ := trodAll_cons r0
  obtain ⟨v2, vs2, d2, ds2, p2, q2, hargs2, rfl, rfl, h2, r2⟩ := trodAll_cons r1
  obtain ⟨rfl, rfl, rfl⟩ := trodAll_nil r2
  subst hargs2
  subst hargs1
  obtain rfl : args = #[v0, v1, v2] := by cases args; simp_all
  obtain ⟨rfl, rfl⟩ := trodVars_none hV
  obtain ⟨m, rfl, hm⟩ := byte_open (hval 0 5 v0 rfl rfl) h0
  obtain ⟨c, rfl, hc⟩ := byte_open (hval 1 5 v1 rfl rfl) h1
  obtain ⟨x, y, rfl, hx, hy⟩ := pair_open (hval 2 71 v2 rfl rfl) h2
  refine (law_calls m c x y hm hc hx hy W (glw_of_laid hlaid)).mono fun e W' ⟨he, hb⟩ => ?_
  subst he
  refine ⟨_, rfl, law_post hW' rfl rfl rfl rfl (by kernel_rfl) ?_ hb hAll fun x hx => List.mem_append_left _ hx⟩
  rw [Tryz.params4]
  intro t ht
  have : t = 5 ∨ t = 71 := by simpa using ht
  rcases this with rfl | rfl
  · exact ⟨r5, by rw [size_is]; decide⟩
  · exact ⟨r8, by rw [size_is]; decide⟩

theorem over : Rows.sessionFindsRow.holds Tryz.pinned (OpenSpec.ofChange Rows.sessionFindsSpec) :=
  OpenClaim.holds_of_wide 4 Tryz.f4 rfl rfl rfl rfl rfl rfl rfl ⟨rfl, rfl, rfl, rfl, rfl⟩ rfl rfl rfl rfl rfl (by kernel_rfl) Tryz.func4 closed
    (of_decide_eq_true (by kernel_rfl)) (by unfold Func.isWrapper; first | (rw [if_pos (by decide +kernel)]; kernel_rfl) | (rw [if_neg (by decide +kernel)]; exact ⟨rfl, rfl⟩))
    (fun os started H enc _ => lifted os started H enc)

/-- THE STATEMENT -/
theorem proved : Rows.SessionFindsCardSaid :=
  Claim7.holds_tied_plain_at .later [] [.data, .data, .data, .data] true (true, "7acaea9157489fea7d5bdc8200c6bacaa3c548cf3167544913f224d47347260e") true over (fun _ h => by cases h) k1 (fun _ h => by cases h) sessionFinds_row_tie rfl ⟨rfl, rfl⟩ k2 rfl
    (fun f fn hf hfn => by
      obtain rfl : f = 4 := Option.some.inj (k5.symm.trans hf) |>.symm
      obtain rfl : fn = Tryz.f4 := (Option.some.inj (Tryz.func4.symm.trans hfn)).symm
      exact ⟨k4, fun j t ht => by
        rw [Tryz.params4] at ht
        have hm : t ∈ [5, 5, 71] := by simpa using Array.mem_of_getElem? ht
        exact (show Tryz.prog.wantsStandIn t = false by simpa using List.all_eq_true.1 k6 t (by simpa using hm))⟩)
    k3
end Go.Proofs.YtaiefmkapnekiaaGreatDoor.sessionFinds
