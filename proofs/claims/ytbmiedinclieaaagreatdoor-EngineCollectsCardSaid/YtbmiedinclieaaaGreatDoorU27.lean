/-
  maps.Clone of the versions; how many there are.
-/
import Derived.Test.YtbmiedinclieaaaGreatDoorU11
import Derived.Test.YtbmiedinclieaaaGreatDoorU7
set_option linter.all false
namespace Go.Proofs.YtbmiedinclieaaaGreatDoor
open Go.Clo Go.RowKit Go.Shelf

theorem clone_ok : CloneOK := by
  intro r es c H nx hg
  refine mcloneG ⟨_, _, Tryz.func74, rfl, by kernel_rfl⟩ (fun b es c w hb => Go.Proofs.AnyW.maps_Clone Tryz.mclone79 b es c w hb) (fun w => Go.Proofs.AnyW.maps_Clone_nil Tryz.mclone79 w) ?_
  show getB H r none _ = _
  rw [getB_eq, hg]
  simp only [Option.elim_some]
  rw [hsK_eq, forceN_eq]
theorem newR_ext (cs : List Value) (H : Heap) (nx : Nat) : ∃ A c, (newR cs H nx).1 = .slice A cs.length c ∧ Ext H nx (newR cs H nx).2.1 (newR cs H nx).2.2 := by
  cases cs with
  | nil => exact ⟨none, 0, rfl, Ext.refl _ _⟩
  | cons z l => exact ⟨_, _, rfl, (Ext.refl _ _).new _ (Nat.le_refl _) (by simp only [newR]; omega)⟩
theorem sorted_ok : SortedOK := by
  intro r ks val H nx hm hr hk hl
  obtain ⟨es, c, hg, h2, h3⟩ := hm
  have hz := keysI_kN h2 h3 hk
  refine ⟨_, _, _, keys_cs (f := 73) (g := 145) (T := 39) ⟨_, _, Tryz.func73, rfl, by kernel_rfl⟩ (fun mb W => callsIn_wide.1 (Go.Proofs.AnyZI.keys_in Tryz.keys108 Fence.wide 5 trivial rfl mb W)) (some r) H nx, (Ext.refl _ _).new _ (Nat.le_refl _) (by omega), ?_⟩
  have hp := getH_same H nx (some (.cells [.map (some r)] (1000 * (39 + 1))))
  have hg' : getH (hs H nx (some (.cells [.map (some r)] (1000 * (39 + 1))))) r = some (.map es c) := by rw [getH_ne _ (by omega)]; exact hg
  have h := sortedI_cs (ρ := Tryz.keys108_ren) { Tryz.keys108 with } rfl (enters_of Tryz.func145 (by kernel_rfl) rfl) (nx := nx + 1) hp (by omega) (by omega) hg' hz (by simpa using hl)
  have hlen : ((sortZ (ks.map fun (v : Nat) => (v : Int))).map (Value.int .i64)).length = ks.length := by rw [List.length_map, (sortZ_perm _).length_eq, List.length_map]
  obtain ⟨A, cc, e1, e2⟩ := newR_ext ((sortZ (ks.map fun (v : Nat) => (v : Int))).map (Value.int .i64)) (hs H nx (some (.cells [.map (some r)] (1000 * (39 + 1))))) (nx + 1)
  rw [hlen] at e1
  exact ⟨_, _, _, h, A, cc, e1, e2⟩
end Go.Proofs.YtbmiedinclieaaaGreatDoor
