/-
  What the listed package variables of this seat hold: math/bits' table of de Bruijn indices (variable 0).
-/
import Derived.Below
set_option linter.all false
namespace Go.Clo
def deB:List Nat:=[0,1,28,2,29,14,24,3,30,22,20,15,25,17,4,8,31,27,13,23,21,19,16,7,26,12,18,6,11,5,10,9]
def Q42:List (Nat × List Value):=[(0,deB.map fun (n:Nat)=>Value.int .u8 (n:Int))]
end Go.Clo
