/-
  The law's example: one closed run.
-/
import Derived.Test.YtbmiedinclieaaaGreatDoorU25
import Derived.Test.YtbmiedinclieaaaGreatDoorU28
import Derived.Test.YtbmiedinclieaaaGreatDoorU29
import Derived.Test.YtbmiedinclieaaaGreatDoorU30
import Derived.Test.YtbmiedinclieaaaGreatDoorU31
import Derived.Test.YtbmiedinclieaaaGreatDoorU15
set_option linter.all false
namespace Go.Proofs.YtbmiedinclieaaaGreatDoor
open Go.Clo
noncomputable def cCT : O := embT cCA cCP cCM cCV cCL cCN
theorem cCT_ok {args : List Value} {H : Heap} {nx : Nat} {v : Value} {H' : Heap} {nx' : Nat} (h : cCT args H nx = some (v, H', nx')) : CS Tryz.prog 5 args H nx v H' nx' :=
  embT_ok (litRun_cs mixed namesOK orc0_ok dok_ok rcC) fcC h
noncomputable def cPT : O := embT cPA cPP cPM cPV cPL cPN
theorem cPT_ok {args : List Value} {H : Heap} {nx : Nat} {v : Value} {H' : Heap} {nx' : Nat} (h : cPT args H nx = some (v, H', nx')) : CS Tryz.prog 41 args H nx v H' nx' :=
  embT_ok (litRun_cs mixed namesOK orc0_ok dok_ok rcP) fcP h
noncomputable def cMT : O := embT cMA cMP cMM cMV cML cMN
theorem cMT_ok {args : List Value} {H : Heap} {nx : Nat} {v : Value} {H' : Heap} {nx' : Nat} (h : cMT args H nx = some (v, H', nx')) : CS Tryz.prog 43 args H nx v H' nx' :=
  embT_ok (litRun_cs mixed namesOK orc0_ok dok_ok rcM) fcM h
noncomputable def cAT : O := embT cAA cAP cAM cAV cAL cAN
theorem cAT_ok {args : List Value} {H : Heap} {nx : Nat} {v : Value} {H' : Heap} {nx' : Nat} (h : cAT args H nx = some (v, H', nx')) : CS Tryz.prog 45 args H nx v H' nx' :=
  embT_ok (litRun_cs mixed namesOK orc0_ok dok_ok rcA) fcA h
noncomputable def cBT : O := embT cBA cBP cBM cBV cBL cBN
theorem cBT_ok {args : List Value} {H : Heap} {nx : Nat} {v : Value} {H' : Heap} {nx' : Nat} (h : cBT args H nx = some (v, H', nx')) : CS Tryz.prog 45 args H nx v H' nx' :=
  embT_ok (litRun_cs mixed namesOK orc0_ok dok_ok rcB) fcB h
/-- The one run, or the other. -/
noncomputable def runO : O := fun args H nx => match cAT args H nx with
  | some r => some r
  | none => cBT args H nx
noncomputable def orcA : Orc := fun f => cond (Nat.beq f 5) (some cCT) (cond (Nat.beq f 41) (some cPT) (cond (Nat.beq f 43) (some cMT) (cond (Nat.beq f 45) (some runO) (orc0 f))))
set_option maxRecDepth 100000 in
theorem orcAT_ok : OrcOK Tryz.prog orcA := by
  intro f o h args H nx v H' nx' ho
  unfold orcA at h
  cases h1 : Nat.beq f 5 with
  | true => rw [h1] at h; cases h; rw [Nat.eq_of_beq_eq_true h1]; exact cCT_ok ho
  | false =>
  rw [h1] at h; simp only [cond_false] at h
  cases h1 : Nat.beq f 41 with
  | true => rw [h1] at h; cases h; rw [Nat.eq_of_beq_eq_true h1]; exact cPT_ok ho
  | false =>
  rw [h1] at h; simp only [cond_false] at h
  cases h1 : Nat.beq f 43 with
  | true => rw [h1] at h; cases h; rw [Nat.eq_of_beq_eq_true h1]; exact cMT_ok ho
  | false =>
  rw [h1] at h; simp only [cond_false] at h
  cases h1 : Nat.beq f 45 with
  | true =>
    rw [h1] at h; cases h; rw [Nat.eq_of_beq_eq_true h1]
    unfold runO at ho
    split at ho
    · rename_i r hr
      cases ho
      exact cAT_ok hr
    · exact cBT_ok ho
  | false =>
  rw [h1] at h; simp only [cond_false] at h
  exact orc0_ok f o h args H nx v H' nx' ho
set_option maxRecDepth 1000000 in
theorem awake_run : runDv Tryz.prog orcA dok 200 4 [] = some (.bool true) := by kernel_rfl
theorem enAwake : Go.Clo.Enters Tryz.prog 4 := ⟨_, _, Tryz.func4, rfl, by kernel_rfl⟩
theorem awake_cs (H : Heap) (nx : Nat) : CS Tryz.prog 4 [] H nx (.bool true) H nx :=
  cs_flatG enAwake rfl rfl (fun w hg => runD_calls mixed namesOK orcAT_ok dok_ok awake_run rfl rfl w hg) H nx
end Go.Proofs.YtbmiedinclieaaaGreatDoor
