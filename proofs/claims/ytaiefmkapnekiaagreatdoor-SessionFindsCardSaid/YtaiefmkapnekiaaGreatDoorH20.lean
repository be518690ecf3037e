/-
  The oracles of the sessions' closed runs, as functions of abstract heaps.
-/
import Derived.Lib.Bytealg
import Derived.Test.YtaiefmkapnekiaaGreatDoorH18
import Derived.Test.YtaiefmkapnekiaaGreatDoorProg
set_option linter.all false
namespace Go.Proofs.YtaiefmkapnekiaaGreatDoor
open Go.Clo

abbrev O := List Value → Heap → Nat → Option (Value × Heap × Nat)
def cloneO : O := fun args H nx => match args with
  | [.string s] => cond (Nat.ble s.size 1000) (some (.string s, H, nx)) none
  | _ => none
def compareO : O := fun args H nx => match args with
  | [.string a, .string b] => forceI (Lib.compareBytes a.data.toList b.data.toList) fun n => some (.int .i64 n, H, nx)
  | _ => none
def tz (x : Nat) : Nat := ((List.range 32).find? fun i => x.testBit i).getD 32
def tzO : O := fun args H nx => match args with
  | [.int .u32 (.ofNat x)] => cond (Nat.blt 0 x && Nat.blt x 64) (forceN (tz x) fun t => some (.int .i64 (.ofNat t), H, nx)) none
  | _ => none
/-- Room for n elements, each of which is z, at nil. -/
noncomputable def growO (z : Value) : O := fun args H nx => match args with
  | [.slice none 0 0, .int .i64 (.ofNat n)] => cond (Nat.beq n 0) (some (.slice none 0 0, H, nx)) (cond (Nat.ble n 100000) (Go.Clo.spine (List.replicate n z) fun l => hsK H nx (some (.cells l 1)) fun H => forceN (nx + 1) fun q => some (.slice (some ⟨nx, 0, none⟩) 0 n, H, q)) none)
  | _ => none
noncomputable def mcloneO : O := fun args H nx => match args with
  | [.map none] => some (.map none, H, nx)
  | [.map (some r)] => getB H r none fun b => match b with
    | .map es k => hsK H nx (some (.map es k)) fun H => forceN (nx + 1) fun q => some (.map (some nx), H, q)
    | _ => none
  | _ => none
/-- maps.Keys: a closure over a new box that holds the map. -/
noncomputable def keysO (g T : Nat) : O := fun args H nx => match args with
  | [.map m] => hsK H nx (some (.cells [.map m] (1000 * (T + 1)))) fun H => forceN (nx + 1) fun q => some (.func (.func g) ⟨[]⟩ ⟨[.pointer (some ⟨nx, 0, none⟩)]⟩, H, q)
  | _ => none
/-- The map in such a box. -/
noncomputable def boxK (H : Heap) (p : Nat) (k : Option Nat → Option (Value × Heap × Nat)) : Option (Value × Heap × Nat) := getB H p none fun b => match b with
  | .cells [.map m] sl => cond (Nat.ble 1000 sl && Nat.beq (sl % 1000) 0) (k m) none
  | _ => none
noncomputable def sortedIO (ok : Nat → Bool) : O := fun args H nx => match args with
  | [.func (.func g) ⟨[]⟩ ⟨[.pointer (some ⟨p, 0, none⟩)]⟩] => cond (ok g) (boxK H p fun m => match m with
    | none => some (.slice none 0 0, H, nx)
    | some r => getB H r none fun b => match b with
      | .map es _ => (match keysI es with
        | some zs => cond (Nat.ble zs.length 1000) (newQ ((sortZ zs).map (Value.int .i64)) H nx) none
        | none => none)
      | _ => none) none
  | _ => none
noncomputable def sortedSO (ok : Nat → Bool) : O := fun args H nx => match args with
  | [.func (.func g) ⟨[]⟩ ⟨[.pointer (some ⟨p, 0, none⟩)]⟩] => cond (ok g) (boxK H p fun m => match m with
    | none => none
    | some r => getB H r none fun b => match b with
      | .map es _ => (match keysS es with
        | some zs => cond (Nat.ble zs.length 1000) (newQ (strs (sortB zs)) H nx) none
        | none => none)
      | _ => none) none
  | _ => none
/-- The cells of a slice of bytes, or the like. -/
noncomputable def sliceK (H : Heap) (v : Value) (k : List Value → Option (Value × Heap × Nat)) : Option (Value × Heap × Nat) := match v with
  | .slice none 0 _ => k []
  | .slice (some a) n _ => rowK H a n none k
  | _ => none
noncomputable def bcompareO : O := fun args H nx => match args with
  | [a, b] => sliceK H a fun x => sliceK H b fun y => (match bytesA x, bytesA y with
    | some x, some y => forceI (Lib.compareBytes x y) fun n => some (.int .i64 n, H, nx)
    | _, _ => none)
  | _ => none
/-! checksum.Update. -/
structure Bx where n : Nat
noncomputable def ct (i : Nat) : Bx := nthK ctab i ⟨0⟩ (fun n => ⟨n⟩)
noncomputable def nib (r : Nat) (k : Nat → Nat) : Nat := fN (Nat.xor (Nat.shiftRight r 4) (ct (Nat.land r 15)).n) k
def natV : Value → Nat
  | .int _ (.ofNat n) => n
  | _ => 0
def byteV : Value → Bool
  | .int .u8 (.ofNat n) => Nat.blt n 256
  | _ => false
noncomputable def crcL (l : List Value) : Nat → Nat :=
  @List.rec Value (fun _ => Nat → Nat) (fun r => r) (fun v _ ih r => fN (Nat.xor r (natV v)) fun r => nib r fun r => nib r ih) l
noncomputable def updateO : O := fun args H nx => match args with
  | [.int .u32 (.ofNat s), b] => cond (Nat.blt s 4294967296) (match b with
    | .slice (some a) n _ => rowK H a n none fun l => cond (l.all byteV && Nat.ble l.length 1000000) (fN (Nat.sub 4294967295 (crcL l (Nat.sub 4294967295 s))) fun n => some (.int .u32 (.ofNat n), H, nx)) none
    | _ => none) none
  | _ => none
def gI (g : Nat) : Bool := Nat.beq g 88 || (Nat.beq g 61 || Nat.beq g 183)
def gS (g : Nat) : Bool := Nat.beq g 242
/-- The oracles that need no other function. -/
noncomputable def orc0 : Orc := fun f =>
  cond (Nat.beq f 301) (some updateO) (cond (Nat.beq f 210) (some cloneO) (cond (Nat.beq f 172) (some (sortedSO gS)) (cond (Nat.beq f 38) (some (sortedIO gI))
  (cond (Nat.beq f 173) (some (keysO 242 31))
  (cond (Nat.beq f 56) (some (keysO 88 42))
  (cond (Nat.beq f 39) (some (keysO 61 105))
  (cond (Nat.beq f 118) (some (keysO 183 37))
  (cond (Nat.beq f 37 || (Nat.beq f 119 || Nat.beq f 176)) (some mcloneO)
  (cond (Nat.beq f 394) (some (growO (.string ⟨#[]⟩))) (cond (Nat.beq f 391) (some (growO (.slice none 0 0)))
  (cond (Nat.beq f 336) (some tzO) (cond (Nat.beq f 443) (some compareO) (cond (Nat.beq f 306) (some bcompareO) none)))))))))))))
def dok : FuncId → Nat → Bool := fun g m => (Nat.beq g 121 && Nat.beq m 2) || (Nat.beq g 133 && Nat.beq m 3)
noncomputable def call0 : OCall := callD (β := Option Out) Tryz.prog orc0 dok 200
noncomputable def changedO : O := runM Tryz.prog call0 28
noncomputable def orcC : Orc := fun f => cond (Nat.beq f 28) (some changedO) (orc0 f)
noncomputable def callC : OCall := callD (β := Option Out) Tryz.prog orcC dok 200
noncomputable def movedO : O := runM Tryz.prog callC 31
noncomputable def orc1 : Orc := fun f => cond (Nat.beq f 31) (some movedO) (orcC f)
end Go.Proofs.YtaiefmkapnekiaaGreatDoor
