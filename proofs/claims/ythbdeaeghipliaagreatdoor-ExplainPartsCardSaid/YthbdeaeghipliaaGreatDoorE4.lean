/-
  Plain: natural numbers as lists of digits to the base 2^32,least significant first.
  MADE BY PROGRAM (wip/gen/gen.py): functions 130 131 108 109 110 51 52 53 79 80 81 83 84 85 111 112 113 114 115 86 55 91 61 as marked code,and their claims written out.
  Digits on the abstract heap;contracts of nat.trim,Of,Norm.
  Arithmetic of 64 bits without sign;slices made by make;append to an empty slice.
  Contracts: cmp.Compare,nat.Cmp,nat.Uint64,bits.Len32,nat.Bits.
  Contracts: bits.Len32,nat.Bits,nat.Uint64.
  Lists of digits that grow.
  More arithmetic of 64 bits;contracts: nat.Uint64,nat.divDigit.
  Contracts: bits.LeadingZeros32,nat.shiftLeft,nat.shiftRight.
  Contract: nat.guessDigit (the digit of a long division,or one more).
  Contracts: nat.subProduct,nat.addBack (in place,on a part of a block).
  Contracts: nat.divLong,nat.DivMod.
  Contract: nat.DivMod.
  MADE BY PROGRAM (wip/gen/gen.py): functions 82 54 24 25 10 60 33 as marked code,and their claims written out.
  Contracts: rat.common (the greatest common divisor).
  Contracts: rat.Norm,rat.magnitude,rat.Int,rat.Sign.
  strings.Builder inside a printer (a struct made of a Builder alone): copyCheck and String,in the world.
  MADE BY PROGRAM (wip/gen/gen.py): functions 28 30 as marked code,and their claims written out.
  strings.Builder inside a printer,as claims on the abstract heap: the bytes of a buffer,append to it;copyCheck,WriteString,Len,String.
  MADE BY PROGRAM (wip/gen/gen.py): functions 58 90 59 57 29 27 12 as marked code,and their claims written out.
  Contract: the literal of a string (value.quote).
  Contracts: slices.Reverse of bytes,nat.Text of a number of one digit.
  Contracts: rat.Of at small numbers,rat.Text of a small number.
  DERIVED: THE SHELF's CONTRACTS AT THIS DUMP,IN PLAIN WORDS (tools/lay-plain.mjs out of 'TryzMini2.lean',which tools/lay-shelf.mjs wrote): THE SAME DECLARATIONS UNDER THE SAME NAMES: 'import','namespace','open','def','theorem' AND NOTHING ELSE: no command of the shelf's: FOR A HAND-IN. Each laying: the table of numbers ('.._ren') and one theorem,a field a fact of the dump's own or the kernel's comparison;each contract: ONE APPLICATION.
  Contract: strconv.FormatInt at base 10.
  Contracts: the text of a value,of an operator;texts with separators.
  Contract: the text of an atom (ast.printer.atom).
  Contract: the text of a rule (ast.printer.rule).
  Contract: the text of a head (ast.printer.head).
  Contract: the text of a query (ast.Print).
  MADE BY PROGRAM (wip/gen/gen.py): functions 26 11 13 4 as marked code,and their claims written out.
  The parts of a plan on the abstract heap.
  Contract: the text of a plan (explain.Plan).
  Contract: the lines of a plan,by the law (ordinallaw56.lines).
-/
import Derived.Test.YthbdeaeghipliaaGreatDoorE2
import Derived.Test.YthbdeaeghipliaaGreatDoorE3
import Derived.KernelRfl
import Derived.Test.YthbdeaeghipliaaGreatDoorE1
import Derived.Test.YthbdeaeghipliaaGreatDoorProg
import Derived.Lib.Builder
import Derived.Lib.UnsafeStr
import Derived.RegionTactic
import Derived.ChangeAlike
import Derived.WalkKit
import Derived.Below
import Derived.Laws.Externs
import Derived.Shelf.LaysM
import Derived.Shelf.Strconv.Itoa4
import Derived.Lib.ItoaLen
set_option maxHeartbeats 8000000
set_option maxRecDepth 100000
set_option linter.all false
noncomputable section
open Array renaming getElem?_toList->cL
open BitVec renaming ofInt->cT,toNat_ofNat->eP
open Bool renaming and_eq_true->aG,or_eq_true->cO,true_and->iA
open ByteArray renaming append_assoc->bX,data_append->cZ,size_append->aA
open Go.ByteArray renaming toList_eq->bB
open Go.IntKind renaming bits->dW,signed->eK,u32->eW,wrap->eY
open Go.Lib renaming joinTail->bP
open Go.Proofs.Tryz renaming prog->gQ
open Go.Value renaming bool->dU,int->cD
open Go.World renaming cell?->cB
open Int renaming toNat_natCast->gR
open List renaming all_eq_true->iE,append_assoc->bM,append_nil->gV,cons_append->dL,drop_of_length_le->cM,drop_zero->bW,ext_getElem?->dH,getD_eq_getElem?_getD->aP,getElem?_append_left->bQ,getElem?_append_right->bS,getElem?_cons_succ->dK,getElem?_drop->dB,getElem?_eq_getElem->aE,getElem?_eq_none->aT,getElem?_eq_some_iff->aJ,getElem?_map->cP,getElem?_set_ne->bL,getElem?_set_self->dG,getElem?_take->aX,length_append->bH,length_cons->cV,length_map->gM,length_nil->bE,length_replicate->iC,length_set->dO,length_take->cK,map_cons->aC,mem_cons->aU,mem_cons_of_mem->eJ,mem_map->gN,mem_of_getElem?->aH,mem_of_mem_drop->fO,mem_range->cW,mem_singleton->dJ,nil_append->eR,nodup_cons->hO,range->aY,replicate->aF,take_of_length_le->gJ,take_succ_cons->bY
open Nat renaming add_assoc->eH,add_mul->dM,add_zero->eM,beq->bR,ble->dD,blt->dE,eq_zero_or_pos->cI,gcd->fF,le_of_lt->eG,le_refl->aD,le_trans->bK,lt_of_le_of_lt->iF,lt_of_lt_of_le->aO,lt_or_ge->aW,mod_eq_of_lt->bV,mod_lt->eZ,mul_add->bJ,mul_assoc->eE,mul_comm->cG,mul_le_mul->eL,mul_le_mul_left->bG,mul_le_mul_right->dS,mul_lt_mul_of_pos_right->fU,mul_one->eQ,pow_le_pow_right->aK,pow_succ->dR,shiftRight_eq_div_pow->eO,strongRecOn->gB,two_pow_pos->aQ,zero_add->cF,zero_le->aL
open Option renaming elim_some->aN,map_eq_some_iff->bU
open Option.some renaming inj->fA
namespace Go.Clo
section
variable {d n:Nat} {ds:List Nat}
def val:List Nat->Nat
 | []=>0
 | d :: ds=>d+4294967296*val ds
def D11(n:Nat):List Nat:=if h:n=0 then [] else n%4294967296 :: D11 (n/4294967296)
termination_by n
decreasing_by exact Nat.div_lt_self O0 O0
theorem D20:D11 0=[]:=by rw[D11];simp
theorem M74(h:0<n):D11 n=n%4294967296 :: D11 (n/4294967296):=by
 rw[D11,dif_neg O0]
theorem V20(n:Nat):val (D11 n)=n:=by
 induction n using gB with
 | ind n ih=>
  by_cases h:n=0
  .subst h;rw[D20];rfl
  .rw[M74 O0,val,ih _ (Nat.div_lt_self O0 O0)]
   omega
theorem B25(n:Nat):U14 (D11 n):=by
 induction n using gB with
 | ind n ih=>
  by_cases h:n=0
  .subst h;rw[D20];intro e he;cases he
  .rw[M74 O0]
   intro e he;rcases aU.1 he with rfl | he
   .omega
   .exact ih _ (Nat.div_lt_self O0 O0) e he
theorem B77{d:Nat}:U14 (d :: ds)<->d<4294967296/\U14 ds:=by
 unfold U14;simp
theorem X84:U14 []:=fun e he=>by cases he
theorem G77(a b:List Nat):val (a++b)=val a+4294967296^a.length*val b:=by
 induction a with
 | nil=>simp[val]
 | cons d a ih=>simp only[dL,val,ih,cV,dR];rw[bJ,<- eH,<- eE,cG 4294967296 (4294967296^a.length)]
theorem J95(h:U14 ds):val ds<4294967296^ds.length:=by
 induction ds with
 | nil=>simp[val]
 | cons d ds ih=>
  have h1:=B77.1 h;have h2:=ih h1.2;simp only[val,cV,dR];have h3:(val ds+1)*4294967296<=4294967296^ds.length*4294967296:=dS _ h2;omega
theorem R72(k:Nat):U14 (aF k 0):=fun e he=>by
 rw[List.mem_replicate] at he;omega
theorem Y83(h:U14 ds):∃ k,ds=D11 (val ds)++aF k 0:=by
 induction ds with
 | nil=>exact⟨0,by simp[val,D20]⟩
 | cons d ds ih=>
  have h1:=B77.1 h;obtain⟨k,hk⟩:=ih h1.2
  by_cases h0:val (d :: ds)=0
  .have hd:d=0:=by simp only[val] at h0;omega
   have hv:val ds=0:=by simp only[val] at h0;omega
   refine⟨k+1,?_⟩;rw[h0,D20,eR,List.replicate_succ,hd];rw[hv,D20,eR] at hk;rw[<- hk]
  .refine⟨k,?_⟩
   rw[M74 O0];have e1:val (d :: ds)%4294967296=d:=by simp only[val];omega
   have e2:val (d :: ds)/4294967296=val ds:=by simp only[val];omega
   rw[e1,e2,dL,<- hk]
theorem Z86(h:U14 ds):ds.take (D11 (val ds)).length=D11 (val ds):=by
 obtain⟨k,hk⟩:=Y83 h;generalize hv:D11 (val ds)=q at *
 rw[hk];simp
theorem N92(h:U14 ds):(D11 (val ds)).length<=ds.length:=by
 obtain⟨k,hk⟩:=Y83 h;have:=congrArg List.length hk;simp at this;omega
theorem V96(h:U14 ds){i:Nat}(hi:(D11 (val ds)).length<=i)(hd:ds[i]? = some d):d=0:=by
 obtain⟨k,hk⟩:=Y83 h;rw[hk,bS hi,List.getElem?_replicate] at hd
 split at hd
 .cases hd;rfl
 .cases hd
theorem U76(h:0<n):∃ d,(D11 n)[(D11 n).length-1]? = some d/\0<d/\0<(D11 n).length:=by
 induction n using gB with
 | ind n ih=>
  rw[M74 h]
  by_cases h1:n/4294967296=0
  .rw[h1,D20]
   exact⟨n%4294967296,O2,O0,O2⟩
  .obtain⟨d,hd,hp,hl⟩:=ih (n/4294967296) (Nat.div_lt_self O0 O0) O0
   refine⟨d,?_,hp,O2⟩;rw[cV,show(D11 (n/4294967296)).length+1-1=((D11 (n/4294967296)).length-1)+1 by omega,dK];exact hd
theorem M65:(D11 n).length=0<->n=0:=by
 constructor
 .intro h
  have h1:=V20 n;rw[List.eq_nil_of_length_eq_zero h] at h1;exact h1.symm
 .rintro rfl;rw[D20];rfl
theorem Q68(n:Nat):n<4294967296^(D11 n).length:=by
 have:=J95 (B25 n);rwa [V20] at this
theorem E84(h:0<n):4294967296^((D11 n).length-1)<=n:=by
 obtain⟨d,hd,hp,hl⟩:=U76 h;have e:D11 n=(D11 n).take ((D11 n).length-1)++[d]:=by
  apply dH;intro i
  by_cases hi:i<(D11 n).length-1
  .rw[bQ O5,aX,if_pos hi]
  .rw[bS O5]
   by_cases h2:i=(D11 n).length-1
   .rw[h2,hd];simp
   .rw[aT O0,aT O5]
 have hv:=V20 n;rw[e,G77] at hv;have B:((D11 n).take ((D11 n).length-1)).length=(D11 n).length-1:=O2;rw[B,val,val] at hv;have h3:4294967296^((D11 n).length-1)*1<=4294967296^((D11 n).length-1)*(d+4294967296*0):=bG _ O0;omega
theorem E29{k:Nat}(h:n<4294967296^k):(D11 n).length<=k:=by
 by_cases h0:n=0
 .subst h0;rw[D20];simp
 .have h1:=E84 (show 0<n by omega)
  rcases aW k (D11 n).length with g | g
  .have h2:4294967296^k<=4294967296^((D11 n).length-1):=aK O0 O0
   omega
  .exact g
end
end Go.Clo
namespace Go.Proofs.YthbdeaeghipliaaGreatDoor
open Go.Clo
noncomputable abbrev Y144:ByteArray:=⟨#[0,1,2,2,3,3,3,3,4,4,4,4,4,4,4,4,5,5,5,5,5,5,5,5,5,5,5,5,5,5,5,5,6,6,6,6,6,6,6,6,6,6,6,6,6,6,6,6,6,6,6,6,6,6,6,6,6,6,6,6,6,6,6,6,7,7,7,7,7,7,7,7,7,7,7,7,7,7,7,7,7,7,7,7,7,7,7,7,7,7,7,7,7,7,7,7,7,7,7,7,7,7,7,7,7,7,7,7,7,7,7,7,7,7,7,7,7,7,7,7,7,7,7,7,7,7,7,7,8,8,8,8,8,8,8,8,8,8,8,8,8,8,8,8,8,8,8,8,8,8,8,8,8,8,8,8,8,8,8,8,8,8,8,8,8,8,8,8,8,8,8,8,8,8,8,8,8,8,8,8,8,8,8,8,8,8,8,8,8,8,8,8,8,8,8,8,8,8,8,8,8,8,8,8,8,8,8,8,8,8,8,8,8,8,8,8,8,8,8,8,8,8,8,8,8,8,8,8,8,8,8,8,8,8,8,8,8,8,8,8,8,8,8,8,8,8,8,8,8,8,8,8,8,8,8,8]⟩
section
variable (a0 a1 a2:Value) (H:Y0) (nx:Nat) (k:EP)
def F130:Prop:=
 D10 .neq a0 a0 fun b=>
 Rt b H nx k
def F131:Prop:=
 D10 .neq a0 a0 fun b=>
 Rt b H nx k
def F108:Prop:=
 Y2 gQ 130 [a0] H nx fun b c d=>
 Y2 gQ 130 [a1] c d fun c d e=>
 B0 b (
 B0 c (
 Rt i0 d e k) (
 Rt (.int .i64 (-1)) d e k)) (
 B0 c (
 Rt i1 d e k) (
 D10 .lss a0 a1 fun b=>
 B0 b (
 Rt (.int .i64 (-1)) d e k) (
 D10 .gtr a0 a1 fun b=>
 B0 b (
 Rt i1 d e k) (
 Rt i0 d e k))))
def F109:Prop:=
 Y2 gQ 131 [a0] H nx fun b c d=>
 Y2 gQ 131 [a1] c d fun c d e=>
 B0 b (
 B0 c (
 Rt i0 d e k) (
 Rt (.int .i64 (-1)) d e k)) (
 B0 c (
 Rt i1 d e k) (
 D10 .lss a0 a1 fun b=>
 B0 b (
 Rt (.int .i64 (-1)) d e k) (
 D10 .gtr a0 a1 fun b=>
 B0 b (
 Rt i1 d e k) (
 Rt i0 d e k))))
def F110:Prop:=
 Y2 gQ 81 [a0] H nx fun b c d=>
 D10 .sub (.int .i64 32) b fun b=>
 Rt b c d k
def F51:Prop:=
 Y2 gQ 80 [a0] H nx fun b c d=>
 Y2 gQ 79 [b] c d fun b c d=>
 Rt b c d k
def F52:Prop:=
 W8 .u32 a0 fun b=>
 D10 .shr a0 (.int .u64 32) fun c=>
 W8 .u32 c fun c=>
 D24 2 1 [.int .u32 0] [(0,b),(1,c)] H nx fun b c d=>
 Y2 gQ 80 [b] c d fun b c d=>
 Rt b c d k
def F53:Prop:=
 Y2 gQ 80 [a0] H nx fun b c d=>
 R4 b 0 c fun e=>
 D10 .eql e i0 fun e=>
 B0 e (
 Rt i0 c d k) (
 R4 b 0 c fun e=>
 D10 .sub e i1 fun e=>
 D10 .mul (.int .i64 32) e fun e=>
 R4 b 0 c fun f=>
 D10 .sub f i1 fun f=>
 U6 b f c fun _ b=>
 Y2 gQ 81 [b] c d fun b c d=>
 D10 .add e b fun b=>
 Rt b c d k)
def F79:Prop:=
 D9 (.eqn false (.slice 27)) [a0,(.slice none 0 0)] fun b=>
 B0 b (
 Rt (.slice none 0 0) H nx k) (
 D24 0 1 [.int .u32 0] [] H nx fun b c d=>
 B5 b a0 1 4 c d fun b c d=>
 Rt b c d k)
def F80:Prop:=
 R4 a0 0 H fun b=>
 G3 (fun b c d e=>
 V4 (fun b=>
 D10 .gtr c.a i0 fun f=>
 C1 true f (
 D10 .sub c.a i1 fun c=>
 U6 a0 c d fun _ c=>
 D10 .eql c u0 fun c=>
 b [c] d e) (
 b [bF] d e)) (fun d e f=>
 B0 d.a (
 D10 .sub c.a i1 fun c=>
 b [c] e f) (
 U5 a0 1 none (some c.a) (some c.a) e fun b=>
 Rt b e f k))) [b] H nx
def F81:Prop:=
 V4 (fun b=>
 D10 .geq a0 (.int .u32 65536) fun c=>
 B0 c (
 D10 .shr a0 (.int .u64 16) fun c=>
 b [c,(.int .i64 16)] H nx) (
 b [a0,i0] H nx)) (fun b c d=>
 V4 (fun e=>
 D10 .geq b.a (.int .u32 256) fun f=>
 B0 f (
 D10 .shr b.a (.int .u64 8) fun f=>
 D10 .add b.b (.int .i64 8) fun b=>
 e [f,b] c d) (
 e [b.a,b.b] c d)) (fun b c d=>
 W8 .u8 b.a fun e=>
 D9 .sidx [(.string Y144),e] fun e=>
 W8 .i64 e fun e=>
 D10 .add b.b e fun b=>
 Rt b c d k))
def F83:Prop:=
 Y2 gQ 80 [a0] H nx fun b c d=>
 R4 b 0 c fun e=>
 D10 .gtr e (.int .i64 2) fun e=>
 B0 e (
 Rt (.tuple ⟨[(.int .u64 0),bF]⟩) c d k) (
 R4 b 0 c fun e=>
 G3 (fun c d f g=>
 D10 .lss d.b e fun e=>
 B0 e (
 U6 b d.b f fun _ b=>
 W8 .u64 b fun b=>
 D10 .mul (.int .i64 32) d.b fun e=>
 D10 .shl b e fun b=>
 D10 .or d.a b fun b=>
 D10 .add d.b i1 fun d=>
 c [b,d] f g) (
 Rt (.tuple ⟨[d.a,bT]⟩) f g k)) [(.int .u64 0),i0] c d)
def F84:Prop:=
 Y2 gQ 80 [a0] H nx fun b c d=>
 Y2 gQ 80 [a1] c d fun c d e=>
 R4 b 0 d fun f=>
 R4 c 0 d fun g=>
 D10 .neq f g fun f=>
 B0 f (
 R4 b 0 d fun b=>
 R4 c 0 d fun c=>
 Y2 gQ 108 [b,c] d e fun b c d=>
 Rt b c d k) (
 R4 b 0 d fun f=>
 D10 .sub f i1 fun f=>
 G3 (fun d e f g=>
 D10 .geq e.a i0 fun h=>
 B0 h (
 M2 (g+9) fun g=>
 U6 b e.a f fun h i=>
 U6 c e.a f fun j l=>
 D10 .neq i l fun m=>
 wK ((tB (cE j none f l))/\(tB (tB (cE h none f i)))) (
 B0 m (
 M2 (g+10) fun d=>
 U6 b e.a f fun b g=>
 U6 c e.a f fun c e=>
 Y2 gQ 109 [g,e] f d fun d h i=>
 wK ((tA (tB (cE c none f e)))/\(tB (tA (tB (cE b none f g))))) (
 Rt d h i k)) (
 D10 .sub e.a i1 fun b=>
 d [b] f g))) (
 Rt i0 f g k)) [f] d e)
def F85:Prop:=
 R4 a0 0 H fun b=>
 D10 .sub b i1 fun b=>
 G3 (fun b c d e=>
 D10 .geq c.b i0 fun f=>
 B0 f (
 D10 .shl c.a (.int .u64 32) fun f=>
 U6 a0 c.b d fun _ g=>
 W8 .u64 g fun g=>
 D10 .or f g fun f=>
 W8 .u64 a1 fun g=>
 D10 .quo f g fun g=>
 W8 .u32 g fun g=>
 M3 a0 c.b none 1 fun h=>
 D5 h g 1 d fun d=>
 W8 .u64 a1 fun g=>
 D10 .rem f g fun f=>
 D10 .sub c.b i1 fun c=>
 b [f,c] d e) (
 W8 .u32 c.a fun b=>
 Rt b d e k)) [(.int .u64 0),b] H nx
def F111:Prop:=
 R4 a0 0 H fun b=>
 D10 .add b i1 fun b=>
 G29 b b [.int .u32 0] H nx fun b c d=>
 R4 a0 0 c fun e=>
 G3 (fun c d f g=>
 D10 .lss d.b e fun e=>
 B0 e (
 U6 a0 d.b f fun _ e=>
 W8 .u64 e fun e=>
 D10 .shl e a1 fun e=>
 D10 .or d.a e fun e=>
 W8 .u32 e fun h=>
 M3 b d.b none 1 fun b=>
 D5 b h 1 f fun b=>
 D10 .shr e (.int .u64 32) fun e=>
 D10 .add d.b i1 fun d=>
 c [e,d] b g) (
 R4 a0 0 f fun c=>
 W8 .u32 d.a fun d=>
 M3 b c none 1 fun c=>
 D5 c d 1 f fun c=>
 Rt b c g k)) [(.int .u64 0),i0] c d
def F112:Prop:=
 R4 a1 0 H fun b=>
 M2 (nx+14) fun c=>
 U6 a0 b H fun d e=>
 W8 .u64 e fun f=>
 D10 .shl f (.int .u64 32) fun g=>
 D10 .sub b i1 fun h=>
 U6 a0 h H fun h i=>
 W8 .u64 i fun j=>
 D10 .or g j fun g=>
 wK ((tB (W8 .u64 i fun b=>b=j))/\((tB (cE h none H i))/\((tB (W8 .u64 e fun b=>b=f))/\(tB (tB (cE d none H e)))))) (
 D10 .sub b i1 fun d=>
 U6 a1 d H fun _ d=>
 W8 .u64 d fun d=>
 D10 .quo g d fun d=>
 D10 .sub b i1 fun e=>
 U6 a1 e H fun _ e=>
 W8 .u64 e fun e=>
 D10 .rem g e fun e=>
 G3 (fun c d e f=>
 V4 (fun c=>
 M2 (f+22) fun f=>
 D10 .gtr d.a (.int .u64 4294967295) fun g=>
 C1 false g (
 D10 .sub b (.int .i64 2) fun g=>
 U6 a1 g e fun g h=>
 W8 .u64 h fun i=>
 D10 .mul d.a i fun j=>
 D10 .shl d.b (.int .u64 32) fun d=>
 D10 .sub b (.int .i64 2) fun b=>
 U6 a0 b e fun b l=>
 W8 .u64 l fun m=>
 D10 .or d m fun d=>
 D10 .gtr j d fun d=>
 wK ((tB (W8 .u64 l fun b=>b=m))/\((tB (cE b none e l))/\((tB (W8 .u64 h fun b=>b=i))/\(tB (tB (cE g none e h)))))) (
 c [d] e f)) (
 wK True (
 c [bT] e f))) (fun e f g=>
 B0 e.a (
 D10 .sub d.a (.int .u64 1) fun e=>
 D10 .sub b i1 fun b=>
 U6 a1 b f fun _ b=>
 W8 .u64 b fun b=>
 D10 .add d.b b fun b=>
 D10 .gtr b (.int .u64 4294967295) fun d=>
 B0 d (
 Rt e f g k) (
 c [e,b] f g)) (
 Rt d.a f g k))) [d,e] H c)
def F113:Prop:=
 R4 a1 0 H fun b=>
 G3 (fun c d e f=>
 D10 .lss d.c b fun b=>
 B0 b (
 U6 a1 d.c e fun _ b=>
 W8 .u64 b fun b=>
 D10 .mul a2 b fun b=>
 D10 .add d.a b fun b=>
 U6 a0 d.c e fun _ g=>
 W8 .u64 g fun g=>
 D10 .and b (.int .u64 4294967295) fun h=>
 D10 .sub g h fun g=>
 D10 .sub g d.b fun g=>
 W8 .u32 g fun h=>
 M3 a0 d.c none 1 fun i=>
 D5 i h 1 e fun e=>
 D10 .shr g (.int .u64 63) fun g=>
 D10 .shr b (.int .u64 32) fun b=>
 D10 .add d.c i1 fun d=>
 c [b,g,d] e f) (
 R4 a1 0 e fun b=>
 U6 a0 b e fun _ b=>
 W8 .u64 b fun b=>
 D10 .sub b d.a fun b=>
 D10 .sub b d.b fun b=>
 R4 a1 0 e fun c=>
 W8 .u32 b fun d=>
 M3 a0 c none 1 fun c=>
 D5 c d 1 e fun c=>
 D10 .shr b (.int .u64 63) fun b=>
 D10 .neq b (.int .u64 0) fun b=>
 Rt b c f k)) [(.int .u64 0),(.int .u64 0),i0] H nx
def F114:Prop:=
 R4 a1 0 H fun b=>
 G3 (fun c d e f=>
 D10 .lss d.b b fun b=>
 B0 b (
 M2 (f+14) fun b=>
 U6 a0 d.b e fun f g=>
 W8 .u64 g fun h=>
 U6 a1 d.b e fun i j=>
 W8 .u64 j fun l=>
 D10 .add h l fun m=>
 D10 .add d.a m fun m=>
 wK ((tB (W8 .u64 j fun b=>b=l))/\((tB (cE i none e j))/\((tB (W8 .u64 g fun b=>b=h))/\(tB (tB (cE f none e g)))))) (
 W8 .u32 m fun f=>
 M3 a0 d.b none 1 fun g=>
 D5 g f 1 e fun e=>
 D10 .shr m (.int .u64 32) fun f=>
 D10 .add d.b i1 fun d=>
 c [f,d] e b)) (
 R4 a1 0 e fun b=>
 U6 a0 b e fun _ c=>
 W8 .u32 d.a fun d=>
 D10 .add c d fun c=>
 M3 a0 b none 1 fun b=>
 D5 b c 1 e fun b=>
 Rt (.tuple ⟨[]⟩) b f k)) [(.int .u64 0),i0] H nx
def F115:Prop:=
 R4 a0 0 H fun b=>
 G29 b b [.int .u32 0] H nx fun b c d=>
 R4 a0 0 c fun e=>
 D10 .sub e i1 fun e=>
 G3 (fun c d e f=>
 D10 .geq d.b i0 fun g=>
 B0 g (
 D10 .shl d.a (.int .u64 32) fun g=>
 U6 a0 d.b e fun _ h=>
 W8 .u64 h fun h=>
 D10 .or g h fun g=>
 D10 .shr g a1 fun h=>
 W8 .u32 h fun h=>
 M3 b d.b none 1 fun b=>
 D5 b h 1 e fun b=>
 D10 .sub d.b i1 fun d=>
 c [g,d] b f) (
 Rt b e f k)) [(.int .u64 0),e] c d
def F86:Prop:=
 R4 a1 0 H fun b=>
 D10 .sub b i1 fun c=>
 U6 a1 c H fun _ c=>
 Y2 gQ 110 [c] H nx fun c d e=>
 W8 .u64 c fun c=>
 Y2 gQ 111 [a1,c] d e fun d e f=>
 U5 d 1 none (some b) none e fun d=>
 Y2 gQ 111 [a0,c] e f fun e f g=>
 R4 a0 0 f fun h=>
 D10 .sub h b fun h=>
 D10 .add h i1 fun h=>
 G29 h h [.int .u32 0] f g fun f g h=>
 R4 a0 0 g fun i=>
 D10 .sub i b fun i=>
 G3 (fun g h i j=>
 D10 .geq h.a i0 fun l=>
 B0 l (
 D10 .add h.a b fun b=>
 D10 .add b i1 fun b=>
 U5 e 1 (some h.a) (some b) none i fun b=>
 Y2 gQ 112 [b,d] i j fun c e i=>
 V4 (fun f=>
 Y2 gQ 113 [b,d,c] e i fun e g h=>
 B0 e (
 D10 .sub c (.int .u64 1) fun c=>
 Y2 gQ 114 [b,d] g h fun _ b d=>
 f [c] b d) (
 f [c] g h)) (fun b c d=>
 W8 .u32 b.a fun b=>
 M3 f h.a none 1 fun e=>
 D5 e b 1 c fun b=>
 D10 .sub h.a i1 fun c=>
 g [c] b d)) (
 U5 e 1 none (some b) none i fun b=>
 Y2 gQ 115 [b,c] i j fun b c d=>
 Rt (.tuple ⟨[f,b]⟩) c d k)) [i] g h
def F55:Prop:=
 Y2 gQ 80 [a0] H nx fun b c d=>
 Y2 gQ 80 [a1] c d fun c d e=>
 R4 c 0 d fun f=>
 D10 .eql f i0 fun f=>
 B0 f (
 Rt (.tuple ⟨[(.slice none 0 0),(.slice none 0 0),(.int .i64 18)]⟩) d e k) (
 Y2 gQ 84 [b,c] d e fun d e f=>
 D10 .lss d i0 fun d=>
 B0 d (
 Y2 gQ 79 [b] e f fun b c d=>
 Rt (.tuple ⟨[(.slice none 0 0),b,i0]⟩) c d k) (
 R4 c 0 e fun d=>
 D10 .eql d i1 fun d=>
 B0 d (
 Y2 gQ 79 [b] e f fun b d e=>
 U6 c i0 d fun _ c=>
 Y2 gQ 85 [b,c] d e fun c d e=>
 Y2 gQ 80 [b] d e fun b d e=>
 W8 .u64 c fun c=>
 Y2 gQ 52 [c] d e fun c d e=>
 Rt (.tuple ⟨[b,c,i0]⟩) d e k) (
 Y2 gQ 86 [b,c] e f fun b c d=>
 G9 b 0 fun e=>
 G9 b 1 fun b=>
 Y2 gQ 80 [e] c d fun c d e=>
 Y2 gQ 80 [b] d e fun b d e=>
 Rt (.tuple ⟨[c,b,i0]⟩) d e k)))
def F91:Prop:=
 R4 a0 0 H fun b=>
 D10 .sub b i1 fun b=>
 G3 (fun b c d e=>
 D10 .lss c.a c.b fun f=>
 B0 f (
 M2 (e+16) fun e=>
 U6 a0 c.b d fun f g=>
 U6 a0 c.a d fun h i=>
 M3 a0 c.a none 1 fun j=>
 D5 j g 1 d fun j=>
 M3 a0 c.b none 1 fun l=>
 D5 l i 1 j fun j=>
 wK ((tA (tA (tB (cE h none d i))))/\(tB (tA (tA (tB (cE f none d g)))))) (
 D10 .add c.a i1 fun d=>
 D10 .sub c.b i1 fun c=>
 b [d,c] j e)) (
 Rt (.tuple ⟨[]⟩) d e k)) [i0,b] H nx
def F61:Prop:=
 Y2 gQ 51 [a0] H nx fun b c d=>
 R4 b 0 c fun e=>
 D10 .eql e i0 fun e=>
 B0 e (
 Rt (.string ⟨#[48]⟩) c d k) (
 G3 (fun b c d e=>
 R4 c.a 0 d fun f=>
 D10 .gtr f i0 fun f=>
 B0 f (
 Y2 gQ 85 [c.a,(.int .u32 1000000000)] d e fun d e f=>
 Y2 gQ 80 [c.a] e f fun e f g=>
 G3 (fun c d f g=>
 D10 .lss d.c (.int .i64 9) fun h=>
 B0 h (
 V4 (fun b=>
 D10 .gtr d.c i0 fun c=>
 C1 true c (
 D10 .eql d.b u0 fun c=>
 C1 true c (
 R4 e 0 f fun c=>
 D10 .eql c i0 fun c=>
 b [c] f g) (
 b [bF] f g)) (
 b [bF] f g)) (fun f g h=>
 B0 f.a (
 b [e,d.a] g h) (
 D10 .rem d.b (.int .u32 10) fun b=>
 D10 .add (.int .u32 48) b fun b=>
 W8 .u8 b fun b=>
 D24 1 1 [.int .u8 0] [(0,b)] g h fun b e f=>
 G112 d.a b 6 1 1 e f fun b e f=>
 D10 .quo d.b (.int .u32 10) fun g=>
 D10 .add d.c i1 fun d=>
 c [b,g,d] e f))) (
 b [e,d.a] f g)) [c.b,d,i0] f g) (
 Y2 gQ 91 [c.b] d e fun _ b d=>
 X16 c.b b fun c=>
 Rt c b d k)) [b,(.slice none 0 0)] c d)
variable {a0 a1 a2 H nx k}
theorem spec130:F130 a0 H nx k->Q2 gQ 130 [a0] H nx k:=Q12 [] [] []
theorem spec131:F131 a0 H nx k->Q2 gQ 131 [a0] H nx k:=Q12 [] [] []
theorem spec108:F108 a0 a1 H nx k->Q2 gQ 108 [a0,a1] H nx k:=Q12 [] [] []
theorem spec109:F109 a0 a1 H nx k->Q2 gQ 109 [a0,a1] H nx k:=Q12 [] [] []
theorem spec110:F110 a0 H nx k->Q2 gQ 110 [a0] H nx k:=Q12 [] [] []
theorem spec51:F51 a0 H nx k->Q2 gQ 51 [a0] H nx k:=Q12 [] [] []
theorem spec52:F52 a0 H nx k->Q2 gQ 52 [a0] H nx k:=Q12 [] [] []
theorem spec53:F53 a0 H nx k->Q2 gQ 53 [a0] H nx k:=Q12 [] [] []
theorem spec79:F79 a0 H nx k->Q2 gQ 79 [a0] H nx k:=Q12 [] [] []
theorem spec80:F80 a0 H nx k->Q2 gQ 80 [a0] H nx k:=Q12 [(4,[15])] [[3]] [.one (.tst (.one .nil) (.one .nil))]
theorem spec81:F81 a0 H nx k->Q2 gQ 81 [a0] H nx k:=Q12 [(1,[0,2]),(4,[0,2])] [] []
theorem spec83:F83 a0 H nx k->Q2 gQ 83 [a0] H nx k:=Q12 [] [[4,13]] []
theorem spec84:F84 a0 a1 H nx k->Q2 gQ 84 [a0,a1] H nx k:=Q12 [] [[5]] []
theorem spec85:F85 a0 a1 H nx k->Q2 gQ 85 [a0,a1] H nx k:=Q12 [] [[5,6]] []
theorem spec111:F111 a0 a1 H nx k->Q2 gQ 111 [a0,a1] H nx k:=Q12 [] [[6,14]] []
theorem spec112:F112 a0 a1 H nx k->Q2 gQ 112 [a0,a1] H nx k:=Q12 [(7,[61])] [[7,8]] [.one (.tst (.one .nil) (.one .nil))]
theorem spec113:F113 a0 a1 a2 H nx k->Q2 gQ 113 [a0,a1,a2] H nx k:=Q12 [] [[7,8,14]] []
theorem spec114:F114 a0 a1 H nx k->Q2 gQ 114 [a0,a1] H nx k:=Q12 [] [[4,8]] []
theorem spec115:F115 a0 a1 H nx k->Q2 gQ 115 [a0,a1] H nx k:=Q12 [] [[6,7]] []
theorem spec86:F86 a0 a1 H nx k->Q2 gQ 86 [a0,a1] H nx k:=Q12 [(13,[13])] [[11]] []
theorem spec55:F55 a0 a1 H nx k->Q2 gQ 55 [a0,a1] H nx k:=Q12 [] [] []
theorem spec91:F91 a0 H nx k->Q2 gQ 91 [a0] H nx k:=Q12 [] [[2,3]] []
theorem spec61:F61 a0 H nx k->Q2 gQ 61 [a0] H nx k:=Q12 [(17,[32])] [[3,4],[4,5,19]] [.one (.tst (.one (.tst (.one .nil) (.one .nil))) (.one (.one (.one .nil))))]
end
end Go.Proofs.YthbdeaeghipliaaGreatDoor
namespace Go.Clo
def SK(H:Y0)(nx:Nat)(A:Option Addr):Prop:=A=none\/∃ b o row,A=some ⟨b,o,none⟩/\b<nx/\(J0 H b=some (.rom row)\/∃ sl,(sl=0\/sl=1)/\J0 H b=some (.cells row sl))
theorem SK.ext{H:Y0}{nx:Nat}{A:Option Addr}{H':Y0}{nx':Nat}(h:SK H nx A)(e:D0 H nx H' nx'):SK H' nx' A:=by
 rcases h with h | ⟨b,o,row,h1,h2,h3⟩
 .exact .inl h
 .exact .inr ⟨b,o,row,h1,aO h2 e.le,by rw[e.get b h2];exact h3⟩
theorem SK.has{H:Y0}{nx:Nat}{A:Option Addr}(h:SK H nx A):U9 H nx A:=by
 rcases h with h | ⟨b,o,row,h1,h2,h3 | ⟨sl,_,h3⟩⟩
 .exact .inl h
 .exact .inr ⟨b,o,row,h1,h2,by rw[Q5,h3];rfl⟩
 .exact .inr ⟨b,o,row,h1,h2,by rw[Q5,h3];rfl⟩
theorem SK.new{H:Y0}{nx b o:Nat}{row:List Value}(hb:b<nx)(hg:J0 H b=O7 row):SK H nx (some ⟨b,o,none⟩) := .inr ⟨b,o,row,rfl,hb,.inr ⟨0,.inl rfl,hg⟩⟩
theorem SK.app{H:Y0}{nx b o:Nat}{row:List Value}(hb:b<nx)(hg:J0 H b=some (.cells row 1)):SK H nx (some ⟨b,o,none⟩) := .inr ⟨b,o,row,rfl,hb,.inr ⟨1,.inr rfl,hg⟩⟩
theorem X92{A:Option Addr}{n c h:Nat}(hh:h<=c)(B:Bool):B26 A n c 1 none (some (O8 (h:Int))) (some (O8 (h:Int))) B=some (.slice A h h):=by
 have hb:Y13 (some (O8 (h:Int))) c=some h:=by
  show(match (cD .i64 (Int.ofNat h)) with | .int _ (.ofNat i)=>cond (dD i c) (some i) none | _=>none)=_;simp[V6 hh]
 have E:hiA (some (O8 (h:Int))) (some (O8 (h:Int))) n h=some h:=by
  show Y13 (some (O8 (h:Int))) h=some h;show(match (cD .i64 (Int.ofNat h)) with | .int _ (.ofNat i)=>cond (dD i h) (some i) none | _=>none)=_;simp[V6 (aD h)]
 simp only[B26,hb,E]
 cases A with
 | none=>simp[loA]
 | some a=>
  obtain⟨b,o,s⟩:=a;simp[loA,V6 (aL h)]
theorem Z103{H:Y0}{nx:Nat}{A:Option Addr}{n c h:Nat}(hk:SK H nx A)(hh:h<=c)(k:VP):U5 (.slice A n c) 1 none (some (O8 (h:Int))) (some (O8 (h:Int))) H k=k (.slice A h h):=by
 unfold U5;rcases hk with rfl | ⟨b,o,row,rfl,_,hg⟩
 .dsimp only
  rw[X92 hh];exact E7 _ _
 .dsimp only
  rw[Y4];have hl:∃ blk l,J0 H b=some blk/\N8 blk o c 1=some l:=by
   rcases hg with hg | ⟨sl,hsl | hsl,hg⟩
   .exact⟨_,false,hg,rfl⟩
   .subst hsl;exact⟨_,false,hg,rfl⟩
   .subst hsl
    exact⟨_,bR (o+c*1) row.length,hg,rfl⟩
  obtain⟨blk,l,hg,hl⟩:=hl;rw[hg];simp only[aN,slB];rw[hl];simp only[X92 hh];exact E7 _ _
structure Dg (H:Y0) (nx:Nat) (A:Option Addr) (c:Nat) (ds:List Nat):Prop where
 sl:Sl H nx A (K12 ds)
 sk:SK H nx A
 small:U14 ds
 le:ds.length<=c
theorem Dg.ext{H:Y0}{nx:Nat}{A:Option Addr}{c:Nat}{ds:List Nat}{H':Y0}{nx':Nat}(h:Dg H nx A c ds)(e:D0 H nx H' nx'):Dg H' nx' A c ds:=⟨h.sl.ext e,h.sk.ext e,h.small,h.le⟩
theorem Sl.pre{H:Y0}{nx:Nat}{A:Option Addr}{l:List Value}(h:Sl H nx A l)(n:Nat):Sl H nx A (l.take n):=fun i v hv=>h i v (by
 rw[aX] at hv
 split at hv
 .exact hv
 .cases hv)
theorem Q91(ds:List Nat)(n:Nat):K12 (ds.take n)=(K12 ds).take n:=by simp[K12,List.map_take]
theorem Dg.trim {H : Y0} {nx : Nat} {A : Option Addr} {c : Nat} {ds : List Nat} (h : Dg H nx A c ds) : Dg H nx A (D11 (val ds)).length (D11 (val ds)) :=
  ⟨by have := h.sl.pre (D11 (val ds)).length
      rwa [<- Q91, Z86 h.small] at this, h.sk, B25 _, Nat.le_refl _⟩
def NN(H:Y0)(nx:Nat)(v:Value)(n:Nat):Prop:=∃ A c,v = .slice A (D11 n).length c/\Dg H nx A c (D11 n)
theorem NN.ext{H:Y0}{nx:Nat}{v:Value}{n:Nat}{H':Y0}{nx':Nat}(h:NN H nx v n)(e:D0 H nx H' nx'):NN H' nx' v n:=let ⟨A,c,h1,h2⟩:=h;⟨A,c,h1,h2.ext e⟩
theorem Y90(H:Y0)(nx:Nat):NN H nx O6 0:=⟨none,0,by rw[D20];rfl,by rw[D20];exact⟨Sl.nil _ _ _,.inl rfl,X84,aD _⟩⟩
end Go.Clo
namespace Go.Proofs.YthbdeaeghipliaaGreatDoor
open Go.Clo
theorem R86{A:Option Addr}{c:Nat}{ds:List Nat}{H:Y0}{nx:Nat}(h:Dg H nx A c ds)(hl:ds.length<1152921504606846976):
  Q2 gQ 80 [.slice A ds.length c] H nx fun v H' nx' => .slice A (D11 (val ds)).length (D11 (val ds)).length=v/\H=H'/\nx=nx':=by
 refine spec80 ?_;unfold F80;have V:=N92 h.small;simp(disch:=try exact O3)only[W0];refine B1 (m:=ds.length) (fun m L H' nx'=>∃ i:Nat,m=i/\L=[O8 (i:Int)]/\i<=ds.length/\(D11 (val ds)).length<=i/\H=H'/\nx=nx') ?_ ⟨ds.length,rfl,rfl,aD _,V,rfl,rfl⟩;rintro m ih L _ _ ⟨i,hm,rfl,hi,hd,rfl,rfl⟩ Y;simp only[N13]
 by_cases h0:0<i
 .have J:(0:Int)<(i:Int):=O0
  obtain⟨d,B⟩:∃ d,ds[i-1]? = some d:=⟨_,aE O0⟩
  obtain⟨b,o,row,rfl,hb,Q,hg⟩:=h.sl.open (i:=i-1) (by rw[C3];omega);have g0:=hg _ _ (Q3 B);have e1:((i:Int)-1).toNat=i-1:=O0;simp(disch:=try exact O3)only[W0,J,e1,X3 Q,g0]
  by_cases hz:d=0
  .subst hz
   simp(disch:=try exact O3)only[W0];refine Y (i-1) _ _ _ O0 ⟨i-1,rfl,by congr 2;omega,O0,?_,rfl,rfl⟩;rcases aW (i-1) (D11 (val ds)).length with g | g
   .exfalso
    have R:0<val ds:=by
     rcases cI (val ds) with e | e
     .rw[e,D20] at g;simp at g
     .exact e
    obtain⟨d,O,hp,_⟩:=U76 R;have e3:(D11 (val ds)).length-1=i-1:=O0;rw[e3] at O;have U:(ds.take (D11 (val ds)).length)[i-1]? = some d:=by rw[Z86 h.small];exact O
    rw[aX,if_pos g,B] at U;have:=fA U;omega
   .exact g
  .have W:¬ (d:Int)=0:=O0
   have E:i=(D11 (val ds)).length:=by
    rcases aW (i-1) (D11 (val ds)).length with g | g
    .omega
    .exact absurd (V96 h.small g B) hz
   simp(disch:=try exact O3)only[W0,hz,E,Z103 h.sk (show(D11 (val ds)).length<=c by have:=h.le;omega)]
 .have J:¬ (0:Int)<(i:Int):=O0
  have E:i=(D11 (val ds)).length:=O0;have M:¬ (0:Int)<((D11 (val ds)).length:Int):=O0;simp(disch:=try exact O3)only[W0,M,E,Z103 h.sk (show(D11 (val ds)).length<=c by have:=h.le;omega)]
end Go.Proofs.YthbdeaeghipliaaGreatDoor
namespace Go.Clo
theorem Q75{a:Nat}(h:a<18446744073709551616):IntKind.u64.wrap (a:Int)=(a:Int):=by
 simp only[eY,eK,dW];simp;omega
theorem K108(a:Nat):IntKind.u64.wrap (a:Int)=((a%18446744073709551616:Nat):Int):=by
 simp only[eY,eK,dW];simp
theorem N96(a:Nat):eW.wrap (a:Int)=((a%4294967296:Nat):Int):=by
 simp only[eY,eK,dW];simp
section
variable {a b:Nat} (k:VP)
theorem B74(h:a+b<18446744073709551616):D10 .add (.int .u64 (a:Int)) (.int .u64 (b:Int)) k=k (.int .u64 ((a+b:Nat):Int)):=by
 rw[Z63,<- Int.natCast_add,Q75 h]
theorem U85(h:a*b<18446744073709551616):D10 .mul (.int .u64 (a:Int)) (.int .u64 (b:Int)) k=k (.int .u64 ((a*b:Nat):Int)):=by
 rw[B82,<- Int.natCast_mul,Q75 h]
theorem Z76(ha:a<18446744073709551616)(hb:b<18446744073709551616):D10 .sub (.int .u64 (a:Int)) (.int .u64 (b:Int)) k=k (.int .u64 (((a+18446744073709551616-b)%18446744073709551616:Nat):Int)):=by
 rw[R11];congr 2;simp only[eY,eK,dW];simp;omega
theorem G34(n:Nat)(K:IntKind):W8 .u32 (.int K (n:Int)) k=k (O9 ((n%4294967296:Nat):Int)):=by rw[Z32,N96]
theorem U22{n:Nat}(h:n<18446744073709551616)(K:IntKind):W8 .u64 (.int K (n:Int)) k=k (.int .u64 (n:Int)):=by rw[Z32,Q75 h]
theorem R90{n:Nat}{K:IntKind}(ha:a<18446744073709551616):D10 .shr (.int .u64 (a:Int)) (.int K (n:Int)) k=k (.int .u64 ((a/2^n:Nat):Int)):=by
 rw[X6];have hn:¬ (n:Int)<0:=O0;simp only[R9,N4,C18,cond_true,hn,if_false,aN,dW];congr 2;have e:((2:Int)^min ((n:Int)).toNat 64)=((2^min n 64:Nat):Int):=O2;rw[e,Int.fdiv_eq_ediv_of_nonneg _ (Int.natCast_nonneg _),<- Int.natCast_ediv];congr 1
 by_cases h:n<=64
 .rw[Nat.min_eq_left h]
 .rw[Nat.min_eq_right O0,Nat.div_eq_of_lt (by simpa using ha),Nat.div_eq_of_lt (aO ha (by
   have:=aK (n:=2) O0 (show 64<=n by omega);simpa using this))]
theorem D74(ha:a<18446744073709551616):D10 .shr (.int .u64 (a:Int)) (.int .u64 32) k=k (.int .u64 ((a/4294967296:Nat):Int)):=R90 (n:=32) k ha
theorem X85(ha:a<18446744073709551616):D10 .shr (.int .u64 (a:Int)) (.int .u64 63) k=k (.int .u64 ((a/9223372036854775808:Nat):Int)):=R90 (n:=63) k ha
end
theorem M27{n:Nat}(h:n<=1000000)(z:List Value)(k:List Value->Nat->Nat->Prop):D30 (O8 (n:Int)) (O8 (n:Int)) z k=k (Q19 z n) n n:=by
 show cond (dD n n&&dD n 1000000) (spine (Q19 z n) fun cs=>k cs n n) False=_;rw[V6 (aD n),V6 h];exact V14 _ _
theorem C23(n:Nat):Q19 [cD .u32 0] n=K12 (aF n 0):=by
 induction n with
 | zero=>rfl
 | succ n ih=>rw[Q19,ih,List.replicate_succ];rfl
theorem D78:∀ l:List Nat,Z0 (K12 l)=true
 | []=>rfl
 | x :: l=>D78 l
theorem R89{H:Y0}{nx b size bytes m:Nat}{x:Value}{l:List Value}(hg:J0 H b=O7 [])(hx:Clo.Src H size x m l)(hm:0<m)(ho:Z0 l=true)(L:(2*m+1000)*bytes<=281474976710656)(E:m<=1000000000)(k:EP):
  B5 (.slice (some ⟨b,0,none⟩) 0 0) x size bytes H nx k=k (.slice (some ⟨nx,0,none⟩) m m) (hs H nx (some (.cells l size))) (nx+1):=by
 unfold B5 Z22;rw[hx.len];dsimp only;rw[cF,G1,V6 L,V6 E];simp only[Bool.and_self,cond_true];rw[hx.first,ho,E27 hm];simp only[cond_true,cond_false];have B:∀ k:List Value->Prop,Z5 H size 0 (.slice (some ⟨b,0,none⟩) 0 0) False k=k []:=by
  intro k;unfold Z5 B19;dsimp only;rw[Y4,hg];simp only[aN,Nat.zero_mul,G5];exact V14 _ _
 rw[B,V14,eR,hx.size,D13];simp only[cond_true,D22];rw[Y4,hg];have J:N8 (.cells [] 0) 0 0 size=some false:=rfl;simp only[aN,J,K11];rw[G1,G1,G4]
theorem U96{H:Y0}{nx b size bytes:Nat}{x:Value}(hg:J0 H b=O7 [])(hx:Clo.Src H size x 0 [])(B:(2*0+1000)*bytes<=281474976710656)(k:EP):
  B5 (.slice (some ⟨b,0,none⟩) 0 0) x size bytes H nx k=k (.slice (some ⟨b,0,none⟩) 0 0) (hs H b (O7 [])) nx:=by
 unfold B5 Z22;rw[hx.len];dsimp only;rw[cF,G1,V6 B,V6 (show 0<=1000000000 by omega)];simp only[Bool.and_self,cond_true];rw[hx.first];simp only[Z0,cond_true,V6 (aD 0),C42];rw[G1,J30,hg];simp[stP,B12]
theorem N83(e:TypeId)(a:Addr)(n c:Nat)(k:VP):D9 (.eqn false (.slice e)) [.slice (some a) n c,O6] k=k (.bool false):=by
 have h:VF.ev (.eqn false (.slice e)) [.slice (some a) n c,O6]=some (.bool false):=rfl;unfold D9;rw[h,J8];rfl
theorem W94(e:TypeId)(n c:Nat)(k:VP):D9 (.eqn false (.slice e)) [.slice none n c,O6] k=k (.bool true):=by
 have h:VF.ev (.eqn false (.slice e)) [.slice none n c,O6]=some (.bool true):=rfl;unfold D9;rw[h,J8];rfl
theorem Dg.self{A:Option Addr}{c n:Nat}{H:Y0}{nx:Nat}(h:Dg H nx A c (D11 n)):Dg H nx A (D11 n).length (D11 n):=⟨h.sl,h.sk,h.small,aD _⟩
theorem Z88(k:List Value->Prop)(z:List Value):K6 0 1 z [] k=k []:=rfl
end Go.Clo
namespace Go.Proofs.YthbdeaeghipliaaGreatDoor
open Go.Clo
theorem Y69{A:Option Addr}{c n:Nat}{H:Y0}{nx:Nat}(h:Dg H nx A c (D11 n))(hl:(D11 n).length<1000000):
  Q2 gQ 80 [.slice A (D11 n).length c] H nx fun v H' nx' => .slice A (D11 n).length (D11 n).length=v/\H=H'/\nx=nx':=by
 have:=R86 h O0;rwa [V20] at this
theorem D95{b c:Nat}{ds:List Nat}{H:Y0}{nx:Nat}(hb:b<nx)(hg:J0 H b=O7 (K12 ds))(hs:U14 ds)(hl:ds.length<10000000)(hc:ds.length<=c):
  Q2 gQ 80 [.slice (some ⟨b,0,none⟩) ds.length c] H nx fun v H' nx'=>NN H' nx' v (val ds)/\H=H'/\nx=nx':=by
 have hD:Dg H nx (some ⟨b,0,none⟩) c ds:=⟨fun i v h=>⟨b,0,_,rfl,hb,by rw[Q5,hg];rfl,by rw[cF];exact h⟩,SK.new hb hg,hs,hc⟩
 refine(R86 hD O0).mono ?_;rintro _ _ _ ⟨rfl,rfl,rfl⟩;exact⟨⟨_,_,rfl,hD.trim⟩,rfl,rfl⟩
theorem R81{n:Nat}(hn:n<18446744073709551616)(H:Y0)(nx:Nat):Q2 gQ 52 [.int .u64 (n:Int)] H nx fun v H' nx'=>NN H' nx' v n/\D0 H nx H' nx':=by
 refine spec52 ?_;unfold F52;simp only[W1];rw[G34,D74 _ hn,G34];have e1:n/4294967296%4294967296=n/4294967296:=bV O0;rw[e1];have e2:∀ k,K6 2 1 [cD .u32 0] [(0,O9 ((n%4294967296:Nat):Int)),(1,O9 ((n/4294967296:Nat):Int))] k=k (K12 [n%4294967296,n/4294967296]):=fun k=>rfl
 rw[e2,Q37];have hE:D0 H nx (hs H nx (O7 (K12 [n%4294967296,n/4294967296]))) (nx+1):=(D0.refl H nx).nw _;refine R0 (D95 (c:=2) (ds:=[n%4294967296,n/4294967296]) (Nat.lt_succ_self nx) (Z11 _ _ _) (B77.2 ⟨O0,B77.2 ⟨O0,X84⟩⟩) O2 O2) ?_;rintro v _ _ ⟨hv,rfl,rfl⟩;simp only[Y5];refine⟨?_,hE⟩;have:val [n%4294967296,n/4294967296]=n:=by simp only[val];omega
 rwa [this] at hv
theorem Y95{A:Option Addr}{n:Nat}{H:Y0}{nx:Nat}(h:Dg H nx A (D11 n).length (D11 n))(hl:(D11 n).length<1000000):
  Q2 gQ 79 [.slice A (D11 n).length (D11 n).length] H nx fun v H' nx'=>NN H' nx' v n/\D0 H nx H' nx':=by
 refine spec79 ?_;unfold F79
 cases A with
 | none=>
  have h0:(D11 n).length=0:=by
   rcases cI (D11 n).length with e | e
   .exact e
   .obtain⟨b,o,row,e1,_⟩:=h.sl.open (i:=0) (by rw[C3];exact e)
    cases e1
  have hn:=M65.1 h0;subst hn;rw[W94];simp(disch:=try exact O3)only[W0,Q0.val];exact⟨Y90 _ _,D0.refl _ _⟩
 | some a=>
  obtain⟨b,o,row,ha,hb,_⟩:∃ b o row,some a=some ⟨b,o,none⟩/\b<nx/\Q5 H b=some row:=by
   rcases h.sk.has with e | e
   .cases e
   .exact e
  cases ha
  rw[N83];simp(disch:=try exact O3)only[W0,Q0.val,Z88];have hE:D0 H nx (hs H nx (O7 [])) (nx+1):=(D0.refl H nx).nw _;have B:Clo.Src (hs H nx (O7 [])) 1 (.slice (some ⟨b,o,none⟩) (D11 n).length (D11 n).length) (D11 n).length (K12 (D11 n)):=C27 (h.sl.ext hE) (h.sk.has.ext hE) (by rw[C3,eQ]) O0
  by_cases h0:(D11 n).length=0
  .have hn:=M65.1 h0
   subst hn;rw[D20] at B;rw[D20];rw[bE] at *
   rw[U96 (Z11 _ _ _) B O0];refine⟨⟨some ⟨nx,0,none⟩,0,by rw[D20];rfl,by rw[D20];exact⟨Sl.nil _ _ _,SK.new O0 (Z11 _ _ _),X84,aD _⟩⟩,hE.h0⟩
  .rw[R89 (Z11 _ _ _) B O0 (D78 _) O0 O0]
   have E:=hE.new (some (.cells (K12 (D11 n)) 1)) (i:=nx+1) (m:=nx+1+1) O0 O0;exact⟨⟨_,_,rfl,⟨fun i v hv=>⟨nx+1,0,_,rfl,O0,by rw[Q5,Z11];rfl,by rw[cF];exact hv⟩,SK.app O0 (Z11 _ _ _),B25 _,aD _⟩⟩,E⟩
theorem U97{v:Value}{n:Nat}{H:Y0}{nx:Nat}(h:NN H nx v n)(hl:(D11 n).length<1000000):Q2 gQ 51 [v] H nx fun v H' nx'=>NN H' nx' v n/\D0 H nx H' nx':=by
 obtain⟨A,c,rfl,hD⟩:=h;refine spec51 ?_;unfold F51;refine R0 (Y69 hD hl) ?_;rintro _ _ _ ⟨rfl,rfl,rfl⟩;refine R0 (Y95 hD.self hl) ?_;rintro v H' nx' h;simp only[J80,Y5];exact h
end Go.Proofs.YthbdeaeghipliaaGreatDoor
namespace Go.Clo
theorem V73{ds:List Nat}{i d:Nat}(h:ds[i]? = some d):val ds=val (ds.take i)+4294967296^i*(d+4294967296*val (ds.drop (i+1))):=by
 have hi:i<ds.length:=(aJ.1 h).1;have hd:ds[i]=d:=(aJ.1 h).2;have e:ds=ds.take i++d :: ds.drop (i+1):=by
  rw[<- hd];exact(List.take_append_drop i ds).symm.trans (by rw[List.drop_eq_getElem_cons hi])
 have h1:=G77 (ds.take i) (d :: ds.drop (i+1));rw[<- e] at h1;rw[h1,val,cK,Nat.min_eq_left O0]
theorem K76{ds:List Nat}(h:U14 ds)(i:Nat):U14 (ds.take i):=fun e he=>h e (List.mem_of_mem_take he)
theorem N80{ds:List Nat}(h:U14 ds)(i:Nat):U14 (ds.drop i):=fun e he=>h e (fO he)
theorem Z48{ds:List Nat}(h:U14 ds)(i:Nat):val (ds.take i)<4294967296^i:=by
 have h1:=J95 (K76 h i);exact aO h1 (aK O0 O5)
theorem C79{ds es:List Nat}{i x y:Nat}(hs:U14 ds)(hx:ds[i]? = some x)(hy:es[i]? = some y)(hd:ds.drop (i+1)=es.drop (i+1))(h:x<y):val ds<val es:=by
 rw[V73 hx,V73 hy,hd];have h1:=Z48 hs i;have h2:4294967296^i*(x+4294967296*val (es.drop (i+1))+1)<=4294967296^i*(y+4294967296*val (es.drop (i+1))):=bG _ O0;rw[bJ,eQ] at h2;omega
def X72(a b:Nat):Int:=if a<b then -1 else if b<a then 1 else 0
theorem X70{a b:Nat}(h:(D11 a).length<(D11 b).length):a<b:=by
 have h1:=Q68 a;have hb:0<b:=by
  rcases cI b with e | e
  .subst e;rw[D20] at h;simp at h
  .exact e
 have h2:=E84 hb;have h3:4294967296^(D11 a).length<=4294967296^((D11 b).length-1):=aK O0 O0;omega
theorem W100{a b:Nat}(h:D11 a=D11 b):a=b:=by rw[<- V20 a,h,V20]
end Go.Clo
namespace Go.Proofs.YthbdeaeghipliaaGreatDoor
open Go.Clo
theorem Y81(a b:Int)(H:Y0)(nx:Nat):Q2 gQ 108 [O8 a,O8 b] H nx fun v H' nx'=>O8 (if a<b then -1 else if b<a then 1 else 0)=v/\H=H'/\nx=nx':=by
 have hn:∀(x:Int) (H:Y0) (nx:Nat),Q2 gQ 130 [O8 x] H nx fun v H' nx' => .bool false=v/\H=H'/\nx=nx':=by
  intro x H nx;refine spec130 ?_;unfold F130;have e:decide (x≠x)=false:=O2;simp(disch:=try exact O3)only[W0,e]
 refine spec108 ?_;unfold F108;refine R0 (hn a H nx) ?_;rintro _ _ _ ⟨rfl,rfl,rfl⟩;refine R0 (hn b H nx) ?_;rintro _ _ _ ⟨rfl,rfl,rfl⟩
 by_cases h1:a<b
 .simp(disch:=try exact O3)only[W0,h1]
 .by_cases h2:b<a
  .simp(disch:=try exact O3)only[W0,h1,h2]
  .simp(disch:=try exact O3)only[W0,h1,h2]
theorem W96(a b:Nat)(H:Y0)(nx:Nat):Q2 gQ 109 [O9 (a:Int),O9 (b:Int)] H nx fun v H' nx'=>O8 (X72 a b)=v/\H=H'/\nx=nx':=by
 have hn:∀(x:Int) (H:Y0) (nx:Nat),Q2 gQ 131 [O9 x] H nx fun v H' nx' => .bool false=v/\H=H'/\nx=nx':=by
  intro x H nx;refine spec131 ?_;unfold F131;have e:decide (x≠x)=false:=O2;simp(disch:=try exact O3)only[W0,e]
 refine spec109 ?_;unfold F109;refine R0 (hn a H nx) ?_;rintro _ _ _ ⟨rfl,rfl,rfl⟩;refine R0 (hn b H nx) ?_;rintro _ _ _ ⟨rfl,rfl,rfl⟩
 by_cases h1:a<b
 .have B:(a:Int)<(b:Int):=O0
  simp(disch:=try exact O3)only[W0,B,X72,h1]
 .have B:¬ (a:Int)<(b:Int):=O0
  by_cases h2:b<a
  .have E:(b:Int)<(a:Int):=O0
   simp(disch:=try exact O3)only[W0,B,E,X72,h1,h2]
  .have E:¬ (b:Int)<(a:Int):=O0
   simp(disch:=try exact O3)only[W0,B,E,X72,h1,h2]
theorem M95{v w:Value}{a b:Nat}{H:Y0}{nx:Nat}(hv:NN H nx v a)(hw:NN H nx w b)(hl:(D11 a).length<1000000)(M:(D11 b).length<1000000):
  Q2 gQ 84 [v,w] H nx fun r H' nx'=>O8 (X72 a b)=r/\D0 H nx H' nx':=by
 obtain⟨A,c,rfl,hA⟩:=hv;obtain⟨C,d,rfl,hC⟩:=hw;refine spec84 ?_;unfold F84;refine R0 (Y69 hA hl) ?_;rintro _ _ _ ⟨rfl,rfl,rfl⟩;refine R0 (Y69 hC M) ?_;rintro _ _ _ ⟨rfl,rfl,rfl⟩
 by_cases Y:(D11 a).length=(D11 b).length
 case neg=>
  have e1:decide (((D11 a).length:Int)≠((D11 b).length:Int))=true:=decide_eq_true O0;simp(disch:=try exact O3)only[W0,e1];refine R0 (Y81 _ _ _ _) ?_;rintro _ _ _ ⟨rfl,rfl,rfl⟩;refine⟨?_,D0.refl _ _⟩;unfold X72;rcases aW (D11 a).length (D11 b).length with g | g
  .rw[if_pos (X70 g),if_pos O0]
  .have g2:=X70 (show(D11 b).length<(D11 a).length by omega)
   rw[if_neg O0,if_pos g2,if_neg O0,if_pos O0]
 have e1:decide (((D11 a).length:Int)≠((D11 b).length:Int))=false:=decide_eq_false O0;simp(disch:=try exact O3)only[W0,e1];refine B1 (m:=(D11 a).length) (fun m L H' nx'=>L=[O8 ((m:Int)-1)]/\m<=(D11 a).length/\(D11 a).drop m=(D11 b).drop m/\D0 H nx H' nx') ?_ ⟨rfl,aD _,by rw[cM (aD _),cM O0],D0.refl _ _⟩;rintro m ih L H2 nx2 ⟨rfl,hm,hd,hE⟩ U
 by_cases h0:m=0
 .subst h0
  have e2:¬ (0:Int)<=((0:Nat):Int)-1:=O0;have e3:X72 a b=0:=by
   have:=W100 (a:=a) (b:=b) (by simpa using hd);subst this;unfold X72;simp
  simp(disch:=try exact O3)only[W0,e2,e3];exact hE
 .have e2:(0:Int)<=(m:Int)-1:=O0
  have e4:((m:Int)-1).toNat=m-1:=O0;obtain⟨x,hx⟩:∃ x,(D11 a)[m-1]? = some x:=⟨_,aE O0⟩
  obtain⟨y,hy⟩:∃ y,(D11 b)[m-1]? = some y:=⟨_,aE O0⟩
  obtain⟨bA,oA,W,rfl,_,B,Q⟩:=(hA.sl.ext hE).open (i:=m-1) (by rw[C3];omega);obtain⟨bC,oC,V,rfl,_,E,O⟩:=(hC.sl.ext hE).open (i:=m-1) (by rw[C3];omega);have gA:=Q _ _ (Q3 hx);have gC:=O _ _ (Q3 hy)
  by_cases R:x=y
  .subst R
   have e5:decide ((x:Int)≠(x:Int))=false:=O2;simp(disch:=try exact O3)only[W0,e2,e4,X3 B,X3 E,gA,gC,e5];refine U (m-1) _ _ _ O0 ⟨by congr 3;omega,O0,?_,hE.more O0⟩;rw[List.drop_eq_getElem_cons (by omega:m-1<(D11 a).length),List.drop_eq_getElem_cons (by omega:m-1<(D11 b).length),show m-1+1=m by omega,hd];congr 1;rw[aE O0] at hx hy;exact(fA hx).trans (fA hy).symm
  .have e5:decide ((x:Int)≠(y:Int))=true:=decide_eq_true O0
   simp(disch:=try exact O3)only[W0,e2,e4,X3 B,X3 E,gA,gC,e5];refine R0 (W96 x y _ _) ?_;rintro _ _ _ ⟨rfl,rfl,rfl⟩;refine⟨?_,hE.more O0⟩;have J:(D11 a).drop (m-1+1)=(D11 b).drop (m-1+1):=by rw[show m-1+1=m by omega];exact hd
   unfold X72;rcases aW x y with g | g
   .have:=C79 (B25 a) hx hy J g
    rw[V20,V20] at this;rw[if_pos this,if_pos g]
   .have:=C79 (B25 b) hy hx J.symm (show y<x by omega)
    rw[V20,V20] at this;rw[if_neg O0,if_pos this,if_neg O0,if_pos O0]
end Go.Proofs.YthbdeaeghipliaaGreatDoor
namespace Go.Clo
def C14(n:Nat):Nat:=if n=0 then 0 else n.log2+1
theorem B80:C14 0=0:=rfl
theorem C76(n:Nat):n<2^C14 n:=by
 unfold C14
 split
 .rename_i h;subst h;simp
 .exact Nat.lt_log2_self
theorem E76{n:Nat}(h:0<n):2^(C14 n-1)<=n:=by
 unfold C14;rw[if_neg O0];exact Nat.log2_self_le O0
theorem C65{n:Nat}(h:0<n):0<C14 n:=by unfold C14;rw[if_neg O0];omega
theorem Q85{a b:Nat}(h:2^a<2^b):a<b:=(Nat.pow_lt_pow_iff_right O0).1 h
theorem M92{n b:Nat}(h1:2^b<=n)(h2:n<2^(b+1)):C14 n=b+1:=by
 have h0:0<n:=aO (aQ b) h1;have a1:=C76 n;have a2:=E76 h0;have a3:=C65 h0;have b1:b<C14 n:=Q85 (iF h1 a1);have b2:C14 n-1<b+1:=Q85 (iF a2 h2);omega
theorem E89{n:Nat}:C14 n=1<->n=1:=by
 constructor
 .intro h
  have h1:=C76 n;rw[h] at h1;have:n≠0:=fun e=>by rw[e] at h;cases h
  omega
 .rintro rfl;rfl
theorem N78{n k:Nat}(h:2^k<=n):C14 n=k+C14 (n/2^k):=by
 have hp:0<n/2^k:=Nat.div_pos h (aQ k);have a1:=C76 (n/2^k);have a2:=E76 hp;have a3:=C65 hp;have e:k+C14 (n/2^k)=(k+(C14 (n/2^k)-1))+1:=O0;rw[e];refine M92 ?_ ?_
 .rw[Nat.pow_add]
  exact bK (bG _ a2) (Nat.mul_div_le _ _)
 .rw[show k+(C14 (n/2^k)-1)+1=k+C14 (n/2^k) by omega,Nat.pow_add]
  rw[cG];exact(Nat.div_lt_iff_lt_mul (aQ k)).1 a1
def Y78:List UInt8:=[0,1,2,2,3,3,3,3,4,4,4,4,4,4,4,4,5,5,5,5,5,5,5,5,5,5,5,5,5,5,5,5,6,6,6,6,6,6,6,6,6,6,6,6,6,6,6,6,6,6,6,6,6,6,6,6,6,6,6,6,6,6,6,6]++aF 64 7++aF 128 8
theorem V105:∀ i,i<256->Y78[i]? = some (UInt8.ofNat (C14 i)):=by
 have h:((aY 256).all fun i=>decide (Y78[i]? = some (UInt8.ofNat (C14 i))))=true:=by decide +kernel
 intro i hi;have:=iE.1 h i (by simpa using hi);simpa using this
theorem X104{s:ByteArray}(hs:s.data.toList=Y78){i:Nat}(hi:i<256)(k:VP):D9 .sidx [.string s,.int .u8 (i:Int)] k=k (.int .u8 (C14 i:Int)):=by
 have hb:C14 i<256:=by
  have h1:=C76 i;rcases cI i with e | e
  .subst e;simp[C14]
  .have h2:=E76 e
   have:C14 i-1<8:=Q85 (iF h2 hi);omega
 have hg:s.data[i]? = some (UInt8.ofNat (C14 i)):=by
  rw[<- cL,hs];exact V105 i hi
 have h:VF.ev .sidx [.string s,.int .u8 (i:Int)]=some (.int .u8 (C14 i:Int)):=by
  show J52 s (i:Int)=_;unfold J52;have e:s[((i:Int)).toNat]? = some (UInt8.ofNat (C14 i)):=by
   rw[gR,<- hg];rfl
  rw[if_pos O0,e];simp only[Option.map_some];congr 2;show((UInt8.ofNat (C14 i)).toNat:Int)=_;have:(UInt8.ofNat (C14 i)).toNat=C14 i%256:=UInt8.toNat_ofNat';rw[this,bV O0]
 unfold D9;rw[h,J8];rfl
theorem G68{a:Nat}(h:a<256):IntKind.u8.wrap (a:Int)=(a:Int):=by
 simp only[eY,eK,dW];simp;omega
theorem D110{n:Nat}(h:n<256)(K:IntKind)(k:VP):W8 .u8 (.int K (n:Int)) k=k (.int .u8 (n:Int)):=by rw[Z32,G68 h]
theorem K69{n:Nat}(h:n<9223372036854775808)(K:IntKind)(k:VP):W8 .i64 (.int K (n:Int)) k=k (O8 (n:Int)):=by rw[Z32,Y23 O0 O0]
theorem V80{n b:Nat}(h:n<2^b):C14 n<=b:=by
 rcases cI n with e | e
 .subst e;simp[C14]
 .have h2:=E76 e
  have h3:=C65 e;have:C14 n-1<b:=Q85 (iF h2 h);omega
end Go.Clo
namespace Go.Proofs.YthbdeaeghipliaaGreatDoor
open Go.Clo
theorem Z109{x:Nat}(hx:x<4294967296)(H:Y0)(nx:Nat)(k:EP)(hk:k (O8 (C14 x:Int)) H nx):F81 (O9 (x:Int)) H nx k:=by
 unfold F81;have c2:∀(y n:Nat),y<256->n+C14 y=C14 x->n<100->(W8 .u8 (O9 (y:Int)) fun J=>D9 .sidx [(.string ⟨⟨Y78⟩⟩),J] fun E=>W8 .i64 E fun L=>D10 .add (O8 (n:Int)) L fun B=>
   M0 B fun v=>k v H nx):=by
  intro y n hy hn O;have hb:=V80 (n:=y) (b:=8) O0;rw[D110 hy,X104 (s:=⟨⟨Y78⟩⟩) rfl hy,K69 O0,N32 _ _ _ O0 O0,Y5];rw[<- hn] at hk;exact hk
 have c1:∀(y n:Nat),y<65536->n+C14 y=C14 x->n<50->V4 (fun tj=>D10 .geq (O9 (y:Int)) (O9 256) fun t8=>B0 t8 (
    D10 .shr (O9 (y:Int)) (.int .u64 8) fun Q=>D10 .add (O8 (n:Int)) (O8 8) fun M=>tj [Q,M] H nx) (tj [O9 (y:Int),O8 (n:Int)] H nx)) (fun tL H2 nx2=>
   W8 .u8 (tL.getD 0 undef) fun J=>D9 .sidx [(.string ⟨⟨Y78⟩⟩),J] fun E=>W8 .i64 E fun L=>D10 .add (tL.getD 1 undef) L fun B=>
   M0 B fun v=>k v H2 nx2):=by
  intro y n hy hn O;rw[N13]
  by_cases h:256<=y
  .have h':decide ((256:Int)<=(y:Int))=true:=decide_eq_true O0
   have e:y >>> 8=y/2^8:=eO y 8;have s1:=fun k=>V15 (a:=y) (n:=8) (K := .u64) k O0
   rw[M42,h',C46,if_pos rfl,show(.int .u64 8:Value) = .int .u64 ((8:Nat):Int) from rfl,s1,e,N32 _ _ _ O0 O0];exact c2 (y/2^8) (n+8) O0 (by have:=N78 (n:=y) (k:=8) O0;omega) O0
  .have h':decide ((256:Int)<=(y:Int))=false:=decide_eq_false O0
   rw[M42,h',C46,if_neg O2];exact c2 y n O0 hn O0
 rw[N13]
 by_cases h:65536<=x
 .have h':decide ((65536:Int)<=(x:Int))=true:=decide_eq_true O0
  have e:x >>> 16=x/2^16:=eO x 16;have s1:=fun k=>V15 (a:=x) (n:=16) (K := .u64) k hx
  rw[M42,h',C46,if_pos rfl,show(.int .u64 16:Value) = .int .u64 ((16:Nat):Int) from rfl,s1,e];exact c1 (x/2^16) 16 O0 (by have:=N78 (n:=x) (k:=16) O0;omega) O0
 .have h':decide ((65536:Int)<=(x:Int))=false:=decide_eq_false O0
  rw[M42,h',C46,if_neg O2];exact c1 x 0 O0 O0 O0
theorem K106{x:Nat}(hx:x<4294967296)(H:Y0)(nx:Nat):Q2 gQ 81 [O9 (x:Int)] H nx fun v H' nx'=>O8 (C14 x:Int)=v/\H=H'/\nx=nx':=
 spec81 (Z109 hx H nx _ ⟨rfl,rfl,rfl⟩)
theorem M77{v:Value}{n:Nat}{H:Y0}{nx:Nat}(h:NN H nx v n)(hl:(D11 n).length<1000000):Q2 gQ 53 [v] H nx fun r H' nx'=>O8 (C14 n:Int)=r/\H=H'/\nx=nx':=by
 obtain⟨A,c,rfl,hD⟩:=h;refine spec53 ?_;unfold F53;refine R0 (Y69 hD hl) ?_;rintro _ _ _ ⟨rfl,rfl,rfl⟩
 by_cases h0:n=0
 .subst h0
  have e:decide (((D11 0).length:Int)=0)=true:=decide_eq_true (by rw[D20];rfl);simp(disch:=try exact O3)only[W0,e,B80]
  rfl
 .have hp:0<n:=O0
  obtain⟨d,hd,M,hL⟩:=U76 hp;have e:decide (((D11 n).length:Int)=0)=false:=decide_eq_false O0;have e2:(((D11 n).length:Int)-1).toNat=(D11 n).length-1:=O0;have B:=(B25 n).get hd;obtain⟨b,o,row,rfl,_,E,hg⟩:=hD.sl.open (i:=(D11 n).length-1) (by rw[C3];omega);have g0:=hg _ _ (Q3 hd);have hb:=V80 (n:=d) (b:=32) B;have em:∀ k:VP,D10 .mul (O8 32) (O8 (((D11 n).length:Int)-1)) k=k (O8 (32*(((D11 n).length:Int)-1))):=fun k=>by rw[B82,Y23 O0 O0]
  simp(disch:=try exact O3)only[W0,e,e2,X3 E,g0,em];refine R0 (K106 B _ _) ?_;rintro _ _ _ ⟨rfl,rfl,rfl⟩;simp(disch:=try exact O3)only[W0];have hs:=V73 hd;rw[V20] at hs;have L:(D11 n).drop ((D11 n).length-1+1)=[]:=cM O0;rw[L,val] at hs;have ht:=Z48 (B25 n) ((D11 n).length-1);have J:4294967296^((D11 n).length-1)=2^(32*((D11 n).length-1)):=by rw[Nat.pow_mul]
  have hn:C14 n=32*((D11 n).length-1)+C14 d:=by
   have h1:2^(32*((D11 n).length-1))<=n:=by
    have:=bG (4294967296^((D11 n).length-1)) (show 1<=d+4294967296*0 by omega);rw[J] at this hs;omega
   have h2:=N78 h1;have h3:n/2^(32*((D11 n).length-1))=d:=by
    rw[J] at ht hs;rw[Nat.mul_zero,eM] at hs;refine Nat.div_eq_of_lt_le ?_ ?_
    .rw[cG];omega
    .rw[dM,Nat.one_mul,cG d];omega
   rw[h3] at h2;exact h2
  rw[hn]
  push_cast
  congr 1;omega
end Go.Proofs.YthbdeaeghipliaaGreatDoor
namespace Go.Clo
section
variable {d i x:Nat} {ds out:List Nat}
theorem X99(h:ds[i]? = some d):ds.take (i+1)=ds.take i++[d]:=by
 rw[List.take_add_one,h];rfl
theorem G20(h:ds[i]? = some d):val (ds.take (i+1))=val (ds.take i)+4294967296^i*d:=by
 have hi:i<ds.length:=(aJ.1 h).1;rw[X99 h,G77,cK,Nat.min_eq_left O0,val,val];simp
theorem take_set:(out.set i x).take i=out.take i:=by
 apply dH;intro j;rw[aX,aX]
 split
 .rw[bL O0]
 .rfl
theorem U72(h:i<out.length):val ((out.set i x).take (i+1))=val (out.take i)+4294967296^i*x:=by
 have hs:(out.set i x)[i]? = some x:=by rw[dG (by simpa using h)]
 rw[G20 hs,take_set]
theorem U39(h:U14 out)(hx:x<4294967296):U14 (out.set i x):=fun e he=>by
 rcases List.mem_or_eq_of_mem_set he with h1 | h1
 .exact h e h1
 .omega
theorem X25(h:ds.length<=i):ds.take i=ds:=gJ h
end
theorem Q102{a b n:Nat}(h:b<2^n):a*2^n ||| b=a*2^n+b:=by
 rw[cG,Nat.two_pow_add_eq_or_of_lt h]
theorem M107{a b n:Nat}(h:a<2^n):a ||| b*2^n=a+b*2^n:=by
 rw[Nat.or_comm,Q102 h,Nat.add_comm]
section
variable {a b:Nat} (k:VP)
theorem G90{n:Nat}{K:IntKind}(hn:n<64)(h:a*2^n<18446744073709551616):D10 .shl (.int .u64 (a:Int)) (.int K (n:Int)) k=k (.int .u64 ((a*2^n:Nat):Int)):=by
 rw[X6];have h0:¬ (n:Int)<0:=O0;simp only[R9,N4,C18,cond_true,h0,if_false,aN,dW];congr 2;have e:((a:Int)*(2:Int)^min ((n:Int)).toNat 64)=((a*2^n:Nat):Int):=by
  have:min n 64=n:=O0;simp[this]
 rw[e,Q75 h]
theorem E79(h:a<4294967296):D10 .shl (.int .u64 (a:Int)) (.int .u64 32) k=k (.int .u64 ((a*4294967296:Nat):Int)):=G90 (n:=32) k O0 O0
theorem V103(ha:a<18446744073709551616)(hb:b<18446744073709551616):D10 .or (.int .u64 (a:Int)) (.int .u64 (b:Int)) k=k (.int .u64 ((a ||| b:Nat):Int)):=by
 rw[X6];show k (.int .u64 (IntKind.u64.wrap ((cT 64 (a:Int) ||| cT 64 (b:Int)).toNat:Int)))=_;rw[W10,W10,BitVec.toNat_or,eP,eP,bV (by simpa using ha),bV (by simpa using hb),Q75 (Nat.or_lt_two_pow (n:=64) ha hb)]
theorem N76(ha:a<4294967296)(hb:b<4294967296):D10 .or (.int .u64 ((a*4294967296:Nat):Int)) (.int .u64 (b:Int)) k=k (.int .u64 ((a*4294967296+b:Nat):Int)):=by
 rw[V103 k O0 O0,show a*4294967296 ||| b=a*4294967296+b from Q102 (n:=32) hb]
theorem R88{n:Nat}(ha:a<2^n)(hn:a<18446744073709551616)(hb:b*2^n<18446744073709551616):D10 .or (.int .u64 (a:Int)) (.int .u64 ((b*2^n:Nat):Int)) k=k (.int .u64 ((a+b*2^n:Nat):Int)):=by
 rw[V103 k hn hb,M107 ha]
theorem D103(ha:a<18446744073709551616):D10 .and (.int .u64 (a:Int)) (.int .u64 4294967295) k=k (.int .u64 ((a%4294967296:Nat):Int)):=by
 rw[X6];show k (.int .u64 (IntKind.u64.wrap ((cT 64 (a:Int) &&& cT 64 ((4294967295:Nat):Int)).toNat:Int)))=_;rw[W10,W10,BitVec.toNat_and,eP,eP,bV (by simpa using ha)];have:a &&& (4294967295%2^64)=a%4294967296:=Nat.and_two_pow_sub_one_eq_mod a 32;rw[this,Q75 O0]
theorem Y98(ha:a<18446744073709551616)(hb:0<b):D10 .quo (.int .u64 (a:Int)) (.int .u64 (b:Int)) k=k (.int .u64 ((a/b:Nat):Int)):=by
 rw[E105 _ _ _ _ O0];have:((a:Int).tdiv (b:Int))=((a/b:Nat):Int):=by rw[Int.ofNat_tdiv]
 rw[this,Q75 (iF (Nat.div_le_self _ _) ha)]
theorem B90(hb:0<b):D10 .rem (.int .u64 (a:Int)) (.int .u64 (b:Int)) k=k (.int .u64 ((a%b:Nat):Int)):=by
 rw[Z62 _ _ _ _ O0];have:((a:Int).tmod (b:Int))=((a%b:Nat):Int):=by rw[Int.ofNat_tmod]
 rw[this]
end
theorem D72{ds:List Nat}{i d:Nat}(h:ds[i]? = some d):val (ds.drop i)=d+4294967296*val (ds.drop (i+1)):=by
 have hi:i<ds.length:=(aJ.1 h).1;have hd:ds[i]=d:=(aJ.1 h).2;rw[List.drop_eq_getElem_cons hi,hd,val]
theorem C86{o:List Nat}{i x:Nat}:(o.set i x).drop (i+1)=o.drop (i+1):=by
 apply dH;intro j;rw[dB,dB,bL O0]
end Go.Clo
namespace Go.Proofs.YthbdeaeghipliaaGreatDoor
open Go.Clo
theorem V84{v:Value}{n:Nat}{H:Y0}{nx:Nat}(h:NN H nx v n)(hl:(D11 n).length<1000000):
  Q2 gQ 83 [v] H nx fun r H' nx'=>(if n<18446744073709551616 then r = .tuple ⟨[.int .u64 (n:Int),.bool true]⟩ else r = .tuple ⟨[.int .u64 0,.bool false]⟩)/\H=H'/\nx=nx':=by
 obtain⟨A,c,rfl,hD⟩:=h;refine spec83 ?_;unfold F83;refine R0 (Y69 hD hl) ?_;rintro _ _ _ ⟨rfl,rfl,rfl⟩;have O:=B25 n
 by_cases h2:(D11 n).length<=2
 case neg=>
  have e1:(2:Int)<((D11 n).length:Int):=O0;have Y:¬ n<18446744073709551616:=fun hn=>by
   have:=E29 (n:=n) (k:=2) (by simpa using hn);omega
  simp(disch:=try exact O3)only[W0,e1,Y]
 have e1:¬ (2:Int)<((D11 n).length:Int):=O0;have hn:n<18446744073709551616:=by
  have h3:=Q68 n;have h4:4294967296^(D11 n).length<=4294967296^2:=aK O0 h2;omega
 simp(disch:=try exact O3)only[W0,e1];have U:=V20 n;generalize D11 n=ds at *
 refine B1 (m:=ds.length) (fun m L H' nx'=>∃ i:Nat,m+i=ds.length/\L=[.int .u64 (val (ds.take i):Int),O8 (i:Int)]/\H=H'/\nx=nx') ?_ ⟨0,rfl,rfl,rfl,rfl⟩;rintro m ih L _ _ ⟨i,hm,rfl,rfl,rfl⟩ W
 by_cases hi:i<ds.length
 .have E:(i:Int)<(ds.length:Int):=O0
  obtain⟨x,hx⟩:∃ x,ds[i]? = some x:=⟨_,aE hi⟩
  have Z:=O.get hx;obtain⟨bA,oA,a0,rfl,_,B,R⟩:=hD.sl.open (i:=i) (by rw[C3];omega);have gA:=R _ _ (Q3 hx);have ht:=Z48 O i;have M:i=0\/i=1:=O0;have em:∀ k:VP,D10 .mul (O8 32) (O8 (i:Int)) k=k (O8 ((32*i:Nat):Int)):=fun k=>by
   rw[B82,Y23 O0 O0];rfl
  have hp:4294967296^i=2^(32*i):=by rw[Nat.pow_mul]
  have J:x*2^(32*i)<18446744073709551616:=by
   rcases M with rfl | rfl
   .simp;omega
   .simp;omega
  have V:val (ds.take i)<2^(32*i):=by rw[<- hp];exact ht
  have Q:val (ds.take i)<18446744073709551616:=by
   rcases M with rfl | rfl
   .simp at ht;omega
   .simp at ht;omega
  simp(disch:=try exact O3)only[W0,E,X3 B,gA,U22 _ (show x<18446744073709551616 by omega),em,G90 (a:=x) (n:=32*i) _ O0 J,R88 (a:=val (ds.take i)) (b:=x) (n:=32*i) _ V Q J];refine W (m-1) _ _ _ O0 ⟨i+1,O0,?_,rfl,rfl⟩;rw[G20 hx,hp,cG x];simp
 .have E:¬ (i:Int)<(ds.length:Int):=O0
  simp(disch:=try exact O3)only[W0,E];rw[if_pos hn,X25 O0,U]
theorem E93{b c sl d:Nat}{ds:List Nat}{H:Y0}{nx:Nat}(hb:b<nx)(hg:J0 H b=some (.cells (K12 ds) sl))(hs:U14 ds)(hl:ds.length<1000000)(hd:0<d)(a2:d<4294967296):
  Q2 gQ 85 [.slice (some ⟨b,0,none⟩) ds.length c,O9 (d:Int)] H nx fun r H' nx'=>r=O9 ((val ds%d:Nat):Int)/\nx=nx'/\(∀ i,i≠b->J0 H' i=J0 H i) /\
   ∃ qs,J0 H' b=some (.cells (K12 qs) sl)/\qs.length=ds.length/\U14 qs/\val qs=val ds/d:=by
 refine spec85 ?_;unfold F85;simp(disch:=try exact O3)only[W0];refine B1 (m:=ds.length) (fun m L H' nx'=>∃(B:Nat) (o:List Nat),L=[.int .u64 (B:Int),O8 ((m:Int)-1)]/\m<=ds.length/\B<d/\o.length=ds.length/\U14 o/\(∀ q,q<m->o[q]? = ds[q]?) /\
  val (o.drop m)*d+B=val (ds.drop m)/\J0 H' b=some (.cells (K12 o) sl)/\(∀ i,i≠b->J0 H' i=J0 H i)/\nx=nx') ?_
  ⟨0,ds,rfl,aD _,hd,rfl,hs,fun _ _=>rfl,by rw[cM (aD _)];simp[val],hg,fun _ _=>rfl,rfl⟩
 rintro m ih L H1 _ ⟨B,o,rfl,hm,hr,O,W,J,E,V,U,rfl⟩ a1
 by_cases h0:m=0
 .subst h0
  have e2:¬ (0:Int)<=((0:Nat):Int)-1:=O0;simp(disch:=try exact O3)only[W0,e2,G34];rw[bW,bW] at E;have hq:val ds/d=val o:=by rw[<- E,cG,Nat.mul_add_div hd,Nat.div_eq_of_lt hr,eM]
  have Z:val ds%d=B:=by rw[<- E,cG,Nat.mul_add_mod,bV hr]
  refine⟨by rw[Z,bV O0],U,o,V,O,W,hq.symm⟩
 .have e2:(0:Int)<=(m:Int)-1:=O0
  have e4:((m:Int)-1).toNat=m-1:=O0;obtain⟨x,hx⟩:∃ x,ds[m-1]? = some x:=⟨_,aE O0⟩
  have a0:o[m-1]? = some x:=by rw[J _ O0];exact hx
  have R:=hs.get hx;have gX:=Q3 a0;have Q:B*4294967296+x<d*4294967296:=by
   have:=dS 4294967296 (show B+1<=d by omega);omega
  have M:(B*4294967296+x)/d<4294967296:=(Nat.div_lt_iff_lt_mul hd).2 (by rw[cG 4294967296 d];exact Q);simp(disch:=try exact O3)only[W0,e2,e4,V,gX,E79 _ (show B<4294967296 by omega),U22 _ (show x<18446744073709551616 by omega),N76 (a:=B) (b:=x) _ O0 R,U22 _ (show d<18446744073709551616 by omega),
   Y98 (a:=B*4294967296+x) (b:=d) _ O0 hd,B90 (a:=B*4294967296+x) (b:=d) _ hd,G34,bV M,C3,V10 (l:=o) (i:=m-1) (x:=(B*4294967296+x)/d) (show m-1<o.length by omega),show m-1+1<=o.length by omega]
  refine a1 (m-1) _ _ _ O0 ⟨(B*4294967296+x)%d,o.set (m-1) ((B*4294967296+x)/d),by congr 3;omega,O0,eZ _ hd,by simp[O],U39 W M,fun q hq => ?_,?_,Z11 _ _ _,fun i hi=>by rw[Z1 _ hi];exact U i hi,rfl⟩
  .rw[bL O0];exact J q O0
  .have Y:(o.set (m-1) ((B*4294967296+x)/d))[m-1]? = some ((B*4294967296+x)/d):=by rw[dG O0]
   rw[D72 Y,D72 hx,C86,show m-1+1=m by omega,<- E,dM];have h1:=Nat.div_add_mod (B*4294967296+x) d;rw[cG] at h1;have h2:4294967296*val (o.drop m)*d=4294967296*(val (o.drop m)*d):=eE _ _ _;omega
end Go.Proofs.YthbdeaeghipliaaGreatDoor
namespace Go.Clo
theorem Q108{a:Nat}(k:VP):D10 .shl (.int .u64 (a:Int)) (.int .u64 32) k=k (.int .u64 ((a%4294967296*4294967296:Nat):Int)):=by
 rw[X6];have h0:¬ ((32:Int))<0:=O0;simp only[R9,N4,C18,cond_true,h0,if_false,aN,dW];congr 2;have e:((a:Int)*(2:Int)^min ((32:Int)).toNat 64)=((a*4294967296:Nat):Int):=by
  simp
 rw[e,K108];congr 1;rw[show(18446744073709551616:Nat)=4294967296*4294967296 from rfl,Nat.mul_mod_mul_right]
theorem Z96{s:Nat}(h:s<32):2^s<=2147483648:=aK (n:=2) O0 (show s<=31 by omega)
theorem D102{x W w0 W' s:Nat}(hs:s<32)(hW:W=w0+4294967296*W'):(x+4294967296*W)/2^s=(x+4294967296*w0)/2^s%4294967296+4294967296*(W/2^s)\/4294967296<=x:=by
 by_cases hx:x<4294967296
 .refine .inl ?_
  have hp:0<2^s:=aQ s;have e1:(x+4294967296*W)/2^s/4294967296=W/2^s:=by
   rw[Nat.div_div_eq_div_mul,cG (2^s),<- Nat.div_div_eq_div_mul,Nat.add_mul_div_left _ _ O0,Nat.div_eq_of_lt hx,cF]
  have e2:(x+4294967296*W)/2^s%4294967296=(x+4294967296*w0)/2^s%4294967296:=by
   have hB:(4294967296:Nat)=2^s*2^(32-s):=by rw[<- Nat.pow_add,show s+(32-s)=32 by omega]
   have e3:x+4294967296*W=(x+4294967296*w0)+2^s*(4294967296*(2^(32-s)*W')):=by
    have e4:4294967296*(4294967296*W')=2^s*(4294967296*(2^(32-s)*W')):=by
     calc 4294967296*(4294967296*W')=4294967296*(2^s*2^(32-s)*W'):=by rw[<- hB]
      _=2^s*(4294967296*(2^(32-s)*W')):=by ac_rfl
    rw[hW,<- e4];omega
   rw[e3,Nat.add_mul_div_left _ _ hp,Nat.add_mul_mod_self_left]
  rw[<- e2,<- e1,Nat.mod_add_div]
 .exact .inr O0
end Go.Clo
namespace Go.Proofs.YthbdeaeghipliaaGreatDoor
open Go.Clo
theorem Y101{x:Nat}(hx:x<4294967296)(H:Y0)(nx:Nat):Q2 gQ 110 [O9 (x:Int)] H nx fun v H' nx'=>O8 ((32-C14 x:Nat):Int)=v/\H=H'/\nx=nx':=by
 refine spec110 ?_;unfold F110;refine R0 (K106 hx H nx) ?_;rintro _ _ _ ⟨rfl,rfl,rfl⟩;have hb:=V80 (n:=x) (b:=32) hx;simp(disch:=try exact O3)only[W0];congr 1;omega
theorem B84{A:Option Addr}{c s:Nat}{ds:List Nat}{H:Y0}{nx:Nat}(h:Dg H nx A c ds)(hl:ds.length<900000)(Y:s<32):
  Q2 gQ 111 [.slice A ds.length c,.int .u64 (s:Int)] H nx fun v H' nx'=>v = .slice (some ⟨nx,0,none⟩) (ds.length+1) (ds.length+1)/\nx<nx'/\D0 H nx H' nx' /\
   ∃ out,J0 H' nx=O7 (K12 out)/\out.length=ds.length+1/\U14 out/\val out=val ds*2^s:=by
 refine spec111 ?_;unfold F111;simp(disch:=try exact O3)only[W0,Q0.val];rw[show((ds.length:Int)+1)=((ds.length+1:Nat):Int) by omega,M27 O0,C23];have hp:=Z96 Y;have V:D0 H nx (hs H nx (O7 (K12 (aF (ds.length+1) 0)))) (nx+1):=(D0.refl H nx).nw _;refine B1 (m:=ds.length) (fun m L H' nx'=>∃(i B:Nat) (out:List Nat),m+i=ds.length/\L=[.int .u64 (B:Int),O8 (i:Int)]/\B<2^s/\out.length=ds.length+1/\U14 out /\
  val (out.take i)+4294967296^i*B=val (ds.take i)*2^s/\J0 H' nx=O7 (K12 out)/\D0 H nx H' nx'/\nx<nx') ?_ ⟨0,0,aF (ds.length+1) 0,rfl,rfl,aQ s,O2,R72 _,by simp[val],Z11 _ _ _,V,O0⟩
 rintro m ih L H1 a5 ⟨i,B,out,hm,rfl,Q,J,U,E,hg,hE,R⟩ Z
 by_cases hi:i<ds.length
 case neg=>
  have O:¬ (i:Int)<(ds.length:Int):=O0;have a0:i=ds.length:=O0;subst a0;have e1:B%4294967296=B:=O0;simp(disch:=try exact O3)only[W0,O,G34,e1,hg,C3,V10 (l:=out) (i:=ds.length) (x:=B) (show ds.length<out.length by omega),show ds.length+1<=out.length by omega];refine⟨R,hE.h0,out.set ds.length B,rfl,by simp[J],U39 U O0,?_⟩;have h1:=U72 (out:=out) (i:=ds.length) (x:=B) O0;rw[X25 O5] at h1;rw[X25 (aD ds.length)] at E;omega
 have O:(i:Int)<(ds.length:Int):=O0;obtain⟨x,hx⟩:∃ x,ds[i]? = some x:=⟨_,aE hi⟩
 have a2:=h.small.get hx;obtain⟨bA,oA,a3,rfl,_,M,W⟩:=(h.sl.ext hE).open (i:=i) (by rw[C3];omega);have gA:=W _ _ (Q3 hx);have a4:x*2^s<=4294967295*2^s:=dS _ O0;have a1:B+x*2^s<4294967296*2^s:=O0;simp(disch:=try exact O3)only[W0,O,X3 M,gA,U22 _ (show x<18446744073709551616 by omega),G90 (a:=x) (n:=s) _ O0 O0,R88 (a:=B) (b:=x) (n:=s) _ Q O0 O0,G34,D74 (a:=B+x*2^s) _ O0,
  hg,C3,V10 (l:=out) (i:=i) (x:=(B+x*2^s)%4294967296) (show i<out.length by omega),show i+1<=out.length by omega]
 refine Z (m-1) _ _ _ O0 ⟨i+1,(B+x*2^s)/4294967296,out.set i ((B+x*2^s)%4294967296),O0,O2,(Nat.div_lt_iff_lt_mul O0).2 O0,by simp[J],U39 U O0,?_,Z11 _ _ _,hE.h0,R⟩;rw[U72 O0,G20 hx,dM,<- E,dR,eE (4294967296^i) 4294967296];have e1:4294967296^i*(B+x*2^s)=4294967296^i*((B+x*2^s)%4294967296)+4294967296^i*(4294967296*((B+x*2^s)/4294967296)):=by rw[<- bJ,Nat.mod_add_div]
 rw[bJ] at e1;rw[eE];omega
theorem W93{A:Option Addr}{c s:Nat}{ds:List Nat}{H:Y0}{nx:Nat}(h:Dg H nx A c ds)(hl:ds.length<900000)(V:s<32):
  Q2 gQ 115 [.slice A ds.length c,.int .u64 (s:Int)] H nx fun v H' nx'=>v = .slice (some ⟨nx,0,none⟩) ds.length ds.length/\nx<nx'/\D0 H nx H' nx' /\
   ∃ out,J0 H' nx=O7 (K12 out)/\out.length=ds.length/\U14 out/\val out=val ds/2^s:=by
 refine spec115 ?_;unfold F115;simp(disch:=try exact O3)only[W0,Q0.val];rw[M27 O0,C23];have hp:=Z96 V;have Z:D0 H nx (hs H nx (O7 (K12 (aF ds.length 0)))) (nx+1):=(D0.refl H nx).nw _;refine B1 (m:=ds.length) (fun m L H' nx'=>∃(B:Nat) (o:List Nat),L=[.int .u64 (B:Int),O8 ((m:Int)-1)]/\m<=ds.length/\B<18446744073709551616/\(∃ W',val (ds.drop m)=B%4294967296+4294967296*W')/\o.length=ds.length/\U14 o /\
  val (o.drop m)=val (ds.drop m)/2^s/\J0 H' nx=O7 (K12 o)/\D0 H nx H' nx'/\nx<nx') ?_
  ⟨0,aF ds.length 0,rfl,aD _,O0,⟨0,by rw[cM (aD _)];rfl⟩,O2,R72 _,by rw[cM (aD ds.length),cM O2];simp[val],Z11 _ _ _,Z,O0⟩
 rintro m ih L H1 a3 ⟨B,o,rfl,hm,hh,⟨W',hW⟩,M,W,E,hg,hE,U⟩ a1
 by_cases h0:m=0
 .subst h0
  have e2:¬ (0:Int)<=((0:Nat):Int)-1:=O0;simp(disch:=try exact O3)only[W0,e2];rw[bW,bW] at E;exact⟨U,hE,o,hg,M,W,E⟩
 .have e2:(0:Int)<=(m:Int)-1:=O0
  have e4:((m:Int)-1).toNat=m-1:=O0;obtain⟨x,hx⟩:∃ x,ds[m-1]? = some x:=⟨_,aE O0⟩
  have R:=h.small.get hx;obtain⟨bA,oA,a2,rfl,_,O,a0⟩:=(h.sl.ext hE).open (i:=m-1) (by rw[C3];omega);have gA:=a0 _ _ (Q3 hx);have J:B%4294967296*4294967296+x<18446744073709551616:=O0;have Q:(B%4294967296*4294967296+x)/2^s%4294967296<4294967296:=eZ _ O0;simp(disch:=try exact O3)only[W0,e2,e4,X3 O,gA,Q108,U22 _ (show x<18446744073709551616 by omega),N76 (a:=B%4294967296) (b:=x) _ O0 R,R90 (a:=B%4294967296*4294967296+x) (n:=s) _ J,G34,
   hg,C3,V10 (l:=o) (i:=m-1) (x:=(B%4294967296*4294967296+x)/2^s%4294967296) (show m-1<o.length by omega),show m-1+1<=o.length by omega]
  refine a1 (m-1) _ _ _ O0 ⟨B%4294967296*4294967296+x,o.set (m-1) ((B%4294967296*4294967296+x)/2^s%4294967296),by congr 3;omega,O0,J,⟨val (ds.drop m),?_⟩,by simp[M],U39 W Q,?_,Z11 _ _ _,hE.h0,U⟩
  .rw[D72 hx,show m-1+1=m by omega]
   omega
  .have Y:(o.set (m-1) ((B%4294967296*4294967296+x)/2^s%4294967296))[m-1]? = some ((B%4294967296*4294967296+x)/2^s%4294967296):=by rw[dG O0]
   rw[D72 Y,D72 hx,C86,show m-1+1=m by omega,E];rcases D102 (x:=x) V hW with e | e
   .rw[e,show x+4294967296*(B%4294967296)=B%4294967296*4294967296+x by omega]
   .omega
end Go.Proofs.YthbdeaeghipliaaGreatDoor
namespace Go.Clo
theorem J103{a:Nat}(k:VP)(h:0<a)(h2:a<18446744073709551616):D10 .sub (.int .u64 (a:Int)) (.int .u64 1) k=k (.int .u64 ((a-1:Nat):Int)):=by
 have:=Z76 (a:=a) (b:=1) k h2 O0;rw[show((1:Nat):Int)=1 from rfl] at this;rw[this,show(a+18446744073709551616-1)%18446744073709551616=a-1 by omega]
theorem C104{P ul vl U3 V2 g:Nat}(hP:0<P)(hu:ul<P)(hg:g*(vl+P*V2)<=ul+P*U3):g*V2<=U3:=by
 have h1:P*(g*V2)<=g*(vl+P*V2):=by
  rw[bJ,show P*(g*V2)=g*(P*V2) by ac_rfl];omega
 have h2:P*(g*V2)<P*(U3+1):=by rw[bJ];omega
 have:=Nat.lt_of_mul_lt_mul_left h2;omega
theorem N99{P ul vl U3 V2 g q:Nat}(hP:0<P)(hv:vl<P)(hq:ul+P*U3<(q+1)*(vl+P*V2))(hg:g*V2<=U3)(hb:g<=V2+1):g<=q+1:=by
 refine Nat.le_of_not_lt fun B => ?_
 have h1:(q+1)*(vl+P*V2)<=(g-1)*(vl+P*V2):=dS _ O0;have h2:(g-1)*(vl+P*V2)<=(g-1)*(P*(V2+1)):=bG _ (by rw[bJ];omega);have h3:P*(g*V2)<=P*U3:=bG _ hg;have h4:P*(g*V2)<P*((g-1)*(V2+1)):=by
  rw[show P*((g-1)*(V2+1))=(g-1)*(P*(V2+1)) by ac_rfl];omega
 have h5:=Nat.lt_of_mul_lt_mul_left h4;obtain⟨g',rfl⟩:∃ g',g=g'+1:=⟨g-1,O0⟩
 rw[Nat.add_sub_cancel,bJ,dM] at h5;omega
theorem Z104{vs:List Nat}{n v0 v1:Nat}(hl:vs.length=n+2)(h0:vs[n]? = some v0)(h1:vs[n+1]? = some v1):val vs=val (vs.take n)+4294967296^n*(v1*4294967296+v0):=by
 have e:=V73 h0;rw[D72 h1,cM O0,val] at e;rw[e];congr 2;omega
theorem V104{us:List Nat}{n u0 u1 u2 T:Nat}(hl:us.length=n+3)(h0:us[n]? = some u0)(h1:us[n+1]? = some u1)(h2:us[n+2]? = some u2)(hT:T=u2*4294967296+u1):val us=val (us.take n)+4294967296^n*(T*4294967296+u0):=by
 subst hT;have e:=V73 h0;rw[D72 h1,D72 h2,cM O0,val] at e;rw[e];congr 2;omega
theorem D100{a b:Nat}(h:a<b):(a:Int)<(b:Int):=Int.ofNat_lt.2 h
theorem E99{a b:Nat}(h:¬ a<b):¬ (a:Int)<(b:Int):=fun h2=>h (Int.ofNat_lt.1 h2)
end Go.Clo
namespace Go.Proofs.YthbdeaeghipliaaGreatDoor
open Go.Clo
theorem M105{A C:Option Addr}{us vs:List Nat}{n cA cC:Nat}{H:Y0}{nx:Nat}(hu:Dg H nx A cA us)(hv:Dg H nx C cC vs)(ax:vs.length=n+2)(ar:us.length=n+3)(hn:n<900000){v1:Nat}(a3:vs[n+1]? = some v1)(b9:2147483648<=v1)(ak:val us<val vs*4294967296):Q2 gQ 112 [.slice A (n+3) cA,.slice C (n+2) cC] H nx fun r H' nx'=>∃ g:Nat,r = .int .u64 (g:Int)/\val us/val vs<=g/\g<=val us/val vs+1/\g<=4294967296/\H=H'/\nx<=nx':=by
 refine spec112 ?_;unfold F112;obtain⟨v0,a2⟩:∃ v0,vs[n]? = some v0:=⟨_,aE O0⟩
 obtain⟨u0,a4⟩:∃ u0,us[n]? = some u0:=⟨_,aE O0⟩
 obtain⟨u1,aa⟩:∃ u1,us[n+1]? = some u1:=⟨_,aE O0⟩
 obtain⟨u2,a6⟩:∃ u2,us[n+2]? = some u2:=⟨_,aE O0⟩
 have bf:=hv.small.get a2;have ba:=hv.small.get a3;have af:=hu.small.get a4;have az:=hu.small.get aa;have ab:=hu.small.get a6;have eV:=Z104 ax a2 a3;obtain⟨T,hT⟩:∃ T,T=u2*4294967296+u1:=⟨_,rfl⟩
 have eU:=V104 ar a4 aa a6 hT;have tV:=Z48 hv.small n;have tU:=Z48 hu.small n;obtain⟨bA,oA,b3,rfl,_,O,a1⟩:=hu.sl.open (i:=n) (by rw[C3];omega);obtain⟨bC,oC,b6,rfl,_,M,am⟩:=hv.sl.open (i:=n) (by rw[C3];omega);have ag:=a1 _ _ (Q3 a4);have au:=a1 _ _ (Q3 aa);have b0:=a1 _ _ (Q3 a6);have al:=am _ _ (Q3 a2);have a5:=am _ _ (Q3 a3);have hP:0<4294967296^n:=Nat.pow_pos O0;generalize be:4294967296^n=P at *
 generalize b8:val (us.take n)=ul at *
 generalize b5:val (vs.take n)=vl at *
 have W:0<val vs:=by rw[eV];have:=Nat.mul_pos hP (show 0<v1*4294967296+v0 by omega);omega
 generalize hq:val us/val vs=q;have ah:q*val vs<=val us:=by rw[<- hq];exact Nat.div_mul_le_self _ _
 have aj:val us<(q+1)*val vs:=by
  rw[<- hq];have:=Nat.lt_div_mul_add W (a:=val us);rw[dM];omega
 have bd:q<4294967296:=by
  rw[<- hq];exact(Nat.div_lt_iff_lt_mul W).2 (by rw[cG];exact ak)
 have Q:∀ g,g*(v1*4294967296+v0)=g*v1*4294967296+g*v0:=fun g=>by rw[bJ g (v1*4294967296) v0,<- eE g v1 4294967296]
 have V:∀ g r,g*v1+r=T->T*4294967296=g*v1*4294967296+r*4294967296:=fun g r h=>by rw[<- h,dM (g*v1) r 4294967296]
 have ae:∀ g,g<=q->g*(v1*4294967296+v0)<=T*4294967296+u0:=by
  intro g hg;refine C104 (vl:=vl) hP tU ?_;rw[<- eV,<- eU];exact bK (dS _ hg) ah
 have b4:u2<=v1:=by
  refine Nat.le_of_not_lt fun b7 => ?_
  rw[eU,eV] at ak;have h1:(vl+P*(v1*4294967296+v0))*4294967296<P*(v1*4294967296+v0+1)*4294967296:=fU (by
   have e0:P*(v1*4294967296+v0+1)=P*(v1*4294967296+v0)+P:=by rw[bJ P (v1*4294967296+v0) 1,eQ]
   omega) O0
  have h2:P*((v1*4294967296+v0+1)*4294967296)<=P*(T*4294967296+u0):=bG _ O0;rw[<- eE] at h2;omega
 have c1:((n+2:Nat):Int)-1=((n+1:Nat):Int):=O0;have c2:((n+2:Nat):Int)-2=((n:Nat):Int):=O0;have b1:T<18446744073709551616:=O0;have aq:∀ k:VP,D10 .or (.int .u64 ((u2*4294967296:Nat):Int)) (.int .u64 (u1:Int)) k=k (.int .u64 (T:Int)):=fun k=>by rw[hT];exact N76 (a:=u2) (b:=u1) k ab az
 have ap:T/v1<=4294967297:=by
  have:T/v1<4294967298:=(Nat.div_lt_iff_lt_mul O0).2 O0;omega
 simp(disch:=try exact O3)only[W0,c1,c2,X3 O,b0,U22 _ (show u2<18446744073709551616 by omega),E79 _ ab,au,U22 _ (show u1<18446744073709551616 by omega),aq,X3 M,a5,U22 _ (show v1<18446744073709551616 by omega),
  Y98 (a:=T) (b:=v1) _ b1 O0,B90 (a:=T) (b:=v1) _ O0]
 refine B1 (m:=T/v1) (fun m L H' nx'=>∃ B:Nat,L=[.int .u64 (m:Int),.int .u64 (B:Int)]/\m*v1+B=T/\q<=m/\m<=4294967297/\B<4294967296/\H=H'/\nx<=nx') ?_
  ⟨T%v1,rfl,by rw[cG];exact Nat.div_add_mod T v1,?_,ap,by have:=eZ T (show v1 > 0 by omega);omega,rfl,O0⟩
 rotate_left
 .have h1:=ae q (aD q)
  have h2:q*v1<=T:=by
   have h3:=Q q;omega
  exact(Nat.le_div_iff_mul_le O0).2 h2
 rintro m ih L _ nx2 ⟨B,rfl,a9,ay,bc,E,rfl,bh⟩ aw;have U:∀ g J,g<=4294967296->g*v1+J=T->g*v0<=J*4294967296+u0->g<=q+1:=by
  intro g J hg he hc;refine N99 (P:=P) (ul:=ul) (vl:=vl) (U3:=T*4294967296+u0) (V2:=v1*4294967296+v0) hP tV (by rw[<- eV,<- eU];exact aj) ?_ O0;have e1:=Q g;have e2:=V g J he;omega
 have step:q<m->∀(Y:Nat),nx<=Y->D10 .sub (.int .u64 (m:Int)) (.int .u64 1) (fun ai=>D10 .add (.int .u64 (B:Int)) (.int .u64 (v1:Int)) fun ad=>D10 .gtr ad (.int .u64 4294967295) fun av=>B0 av
   (∃ g:Nat,ai = .int .u64 (g:Int)/\q<=g/\g<=q+1/\g<=4294967296/\H=H/\nx<=Y) (ih [ai,ad] H Y)):=by
  intro Z Y a0;rw[J103 _ O0 O0,B74 _ O0,G48];have he:(m-1)*v1+(B+v1)=T:=by
   obtain⟨m',rfl⟩:∃ m',m=m'+1:=⟨m-1,O0⟩
   rw[Nat.add_sub_cancel];rw[dM m' 1 v1] at a9;omega
  by_cases b2:4294967295<B+v1
  .have a8:decide ((4294967295:Int)<((B+v1:Nat):Int))=true:=decide_eq_true O0
   rw[a8,C46,if_pos rfl];refine⟨m-1,rfl,O0,?_,O0,rfl,a0⟩;refine U (m-1) (B+v1) O0 he ?_;have h1:(m-1)*v0<=4294967296*4294967295:=eL O0 O0;omega
  .have a8:decide ((4294967295:Int)<((B+v1:Nat):Int))=false:=decide_eq_false O0
   rw[a8,C46,if_neg O2];exact aw (m-1) _ _ _ O0 ⟨B+v1,rfl,he,O0,O0,O0,rfl,a0⟩
 by_cases bg:4294967295<m
 .have R:(4294967295:Int)<(m:Int):=O0
  simp(disch:=try exact O3)only[W0,N13,R];have h1:=step O0 (nx2+22) O0;simp only[true_and] at h1;simp(disch:=try exact O3)only[W0,X3 M,a5,U22 _ (show v1<18446744073709551616 by omega)];exact h1
 .have R:¬ (4294967295:Int)<(m:Int):=O0
  have an:m*v0<18446744073709551616:=by
   have:m*v0<=4294967295*4294967295:=eL O0 O0;omega
  by_cases hc:B*4294967296+u0<m*v0
  .have a7:=D100 hc
   simp(disch:=try exact O3)only[W0,N13,R,X3 M,al,U22 _ (show v0<18446744073709551616 by omega),U85 (a:=m) (b:=v0) _ an,E79 (a:=B) _ E,X3 O,ag,U22 _ (show u0<18446744073709551616 by omega),N76 (a:=B) (b:=u0) _ E af,a7,
    a5,U22 _ (show v1<18446744073709551616 by omega)]
   have Z:q<m:=by
    refine Nat.lt_of_not_le fun ao => ?_
    have h1:=ae m ao;have e1:=Q m;have e2:=V m B a9;omega
   have h1:=step Z (nx2+22) O0;simp only[true_and] at h1;exact h1
  .have a7:=E99 hc
   simp(disch:=try exact O3)only[W0,N13,R,X3 M,al,U22 _ (show v0<18446744073709551616 by omega),U85 (a:=m) (b:=v0) _ an,E79 (a:=B) _ E,X3 O,ag,U22 _ (show u0<18446744073709551616 by omega),N76 (a:=B) (b:=u0) _ E af,a7];exact⟨m,rfl,ay,U m B O0 a9 O0,O0,O0⟩
end Go.Proofs.YthbdeaeghipliaaGreatDoor
namespace Go.Clo
theorem U80{R:List Nat}{o i x:Nat}:(R.set (o+i) x).drop o=(R.drop o).set i x:=by
 apply dH;intro j;rw[dB]
 by_cases h:j=i
 .subst h
  by_cases hl:o+j<R.length
  .rw[dG hl,dG O5]
  .rw[aT O5,aT O5]
 .rw[bL O0,bL O0,dB]
theorem M106{a b:Nat}(k:VP):D10 .add (O9 (a:Int)) (O9 (b:Int)) k=k (O9 (((a+b)%4294967296:Nat):Int)):=by
 rw[Z63,<- Int.natCast_add,N96]
theorem E82{R:List Nat}{o i x:Nat}(h:R[o+i]? = some x):val ((R.drop o).take (i+1))=val ((R.drop o).take i)+4294967296^i*x:=G20 (by rw[dB];exact h)
theorem V92{x y c:Nat}(hx:x<4294967296)(B:y+c<=4294967296):∃ q r,((x+18446744073709551616-y)%18446744073709551616+18446744073709551616-c)%18446744073709551616%4294967296=q /\
  ((x+18446744073709551616-y)%18446744073709551616+18446744073709551616-c)%18446744073709551616/9223372036854775808=r/\((x+18446744073709551616-y)%18446744073709551616+18446744073709551616-c)%18446744073709551616<18446744073709551616/\q<4294967296/\r<=1/\x+4294967296*r=q+y+c:=by
 by_cases h:y+c<=x
 .exact⟨x-y-c,0,O0,O0,O0,O0,O0,O0⟩
 .exact⟨x+4294967296-y-c,1,O0,O0,O0,O0,O0,O0⟩
end Go.Clo
namespace Go.Proofs.YthbdeaeghipliaaGreatDoor
open Go.Clo
theorem Q99{b o bC oC cu cC n f:Nat}{R vs:List Nat}{Q:List Value}{H:Y0}{nx:Nat}(hg:J0 H b=O7 (K12 R))(hR:U14 R)(ak:o+n+1<=R.length)(a3:Q5 H bC=some Q)(ad:bC≠b)(ae:∀ j v,(K12 vs)[j]? = some v->Q[oC+j]? = some v)(ab:U14 vs)(aj:vs.length=n)(hf:f<=4294967296)(hn:n<900000):
  Q2 gQ 113 [.slice (some ⟨b,o,none⟩) (n+1) cu,.slice (some ⟨bC,oC,none⟩) n cC,.int .u64 (f:Int)] H nx fun r H' nx'=>nx=nx'/\(∀ i,i≠b->J0 H' i=J0 H i) /\
   ∃(R':List Nat) (w:Nat),J0 H' b=O7 (K12 R')/\R'.length=R.length/\U14 R'/\(∀ q,q<o\/o+n+1<=q->R'[q]? = R[q]?)/\w<=1/\r = .bool (decide (w=1)) /\
    val ((R'.drop o).take (n+1))+f*val vs=val ((R.drop o).take (n+1))+4294967296^(n+1)*w:=by
 refine spec113 ?_;unfold F113;simp(disch:=try exact O3)only[W0];refine B1 (m:=n) (fun m L H' nx'=>∃(i B E:Nat) (R1:List Nat),m+i=n/\L=[.int .u64 (B:Int),.int .u64 (E:Int),O8 (i:Int)]/\B<4294967296/\E<=1/\R1.length=R.length/\U14 R1/\(∀ q,q<o\/o+i<=q->R1[q]? = R[q]?) /\
  val ((R1.drop o).take i)+f*val (vs.take i)=val ((R.drop o).take i)+4294967296^i*(B+E)/\J0 H' b=O7 (K12 R1)/\(∀ i,i≠b->J0 H' i=J0 H i)/\nx=nx') ?_
  ⟨0,0,0,R,rfl,rfl,O0,O0,rfl,hR,fun _ _=>rfl,by simp[val],hg,fun _ _=>rfl,rfl⟩
 rintro m ih L H1 _ ⟨i,B,E,R1,hm,rfl,ag,ai,U,a7,J,a5,a6,V,rfl⟩ aa
 by_cases hi:i<n
 case neg=>
  have a0:¬ (i:Int)<(n:Int):=O0;have a8:i=n:=O0;subst a8;obtain⟨x,hx⟩:∃ x,R[o+i]? = some x:=⟨_,aE O0⟩
  have Z:R1[o+i]? = some x:=by rw[J _ (.inr (aD _))];exact hx
  have M:=hR.get hx;have gX:=Q3 Z;obtain⟨q,r,hq,hr,hE,O,W,a9⟩:=V92 (x:=x) (y:=B) (c:=E) M O0;have dn:decide ((r:Int)≠0)=decide (r=1):=by
   have:r=0\/r=1:=O0;rcases this with rfl | rfl<;>rfl
  simp(disch:=try exact O3)only[W0,a0,a6,gX,U22 _ (show x<18446744073709551616 by omega),Z76 (a:=x) (b:=B) _ O0 O0,Z76 (a:=(x+18446744073709551616-B)%18446744073709551616) (b:=E) _ O0 O0,G34,hq,X85 _ hE,hr,dn,
   C3,V10 (l:=R1) (i:=o+i) (x:=q) (show o+i<R1.length by omega),show o+i+1<=R1.length by omega]
  refine⟨fun j hj=>by rw[Z1 _ hj];exact V j hj,R1.set (o+i) q,r,rfl,by simp[U],U39 a7 O,fun j hj => ?_,W,rfl,?_⟩
  .rw[bL O0];exact J j O0
  .rw[U80,U72 O5,E82 hx,dR,eE]
   rw[X25 (ds:=vs) O0] at a5;have e1:4294967296^i*x+4294967296^i*(4294967296*r)=4294967296^i*q+4294967296^i*(B+E):=by
    rw[<- bJ (4294967296^i) x,<- bJ (4294967296^i) q];congr 1;omega
   omega
 have a0:(i:Int)<(n:Int):=O0;obtain⟨y,hy⟩:∃ y,vs[i]? = some y:=⟨_,aE O0⟩
 obtain⟨x,hx⟩:∃ x,R[o+i]? = some x:=⟨_,aE O0⟩
 have Z:R1[o+i]? = some x:=by rw[J _ (.inr (aD _))];exact hx
 have M:=hR.get hx;have ah:=ab.get hy;have gX:=Q3 Z;have gY:=ae _ _ (Q3 hy);have Y:Q5 H1 bC=some Q:=by rw[Q5,V _ ad];exact a3
 have af:f*y<=4294967296*4294967295:=eL hf O0;generalize hp:f*y=p at af;obtain⟨t,ht⟩:∃ t,t=B+p:=⟨_,rfl⟩
 have a4:t<18446744073709551616:=O0;have a2:∀ k:VP,D10 .add (.int .u64 (B:Int)) (.int .u64 (p:Int)) k=k (.int .u64 (t:Int)):=fun k=>by rw[ht];exact B74 (a:=B) (b:=p) k O0
 have a1:∀ k:VP,D10 .mul (.int .u64 (f:Int)) (.int .u64 (y:Int)) k=k (.int .u64 (p:Int)):=fun k=>by rw[<- hp];exact U85 (a:=f) (b:=y) k O0
 obtain⟨q,r,hq,hr,hE,O,W,a9⟩:=V92 (x:=x) (y:=t%4294967296) (c:=E) M O0;simp(disch:=try exact O3)only[W0,a0,X3 Y,gY,U22 _ (show y<18446744073709551616 by omega),a1,a2,a6,gX,U22 _ (show x<18446744073709551616 by omega),D103 (a:=t) _ a4,Z76 (a:=x) (b:=t%4294967296) _ O0 O0,
  Z76 (a:=(x+18446744073709551616-t%4294967296)%18446744073709551616) (b:=E) _ O0 O0,G34,hq,X85 _ hE,hr,D74 _ a4,
  C3,V10 (l:=R1) (i:=o+i) (x:=q) (show o+i<R1.length by omega),show o+i+1<=R1.length by omega]
 refine aa (m-1) _ _ _ O0 ⟨i+1,t/4294967296,r,R1.set (o+i) q,O0,O2,O0,W,by simp[U],U39 a7 O,fun j hj => ?_,?_,Z11 _ _ _,fun j hj=>by rw[Z1 _ hj];exact V j hj,rfl⟩
 .rw[bL O0];exact J j O0
 .rw[U80,U72 O5,E82 hx,G20 hy,dR,eE (4294967296^i) 4294967296]
  have e1:f*(val (vs.take i)+4294967296^i*y)=f*val (vs.take i)+4294967296^i*p:=by
   rw[bJ f (val (vs.take i)),<- hp];congr 1
   ac_rfl
  have e2:4294967296^i*x+4294967296^i*(4294967296*(t/4294967296+r))=4294967296^i*q+4294967296^i*p+4294967296^i*(B+E):=by
   rw[<- bJ (4294967296^i) x,<- bJ (4294967296^i) q,<- bJ (4294967296^i) (q+p)];congr 1;have:=Nat.mod_add_div t 4294967296;rw[bJ 4294967296 (t/4294967296) r];omega
  rw[e1];omega
theorem M99{b o bC oC cu cC n:Nat}{R vs:List Nat}{J:List Value}{H:Y0}{nx:Nat}(hg:J0 H b=O7 (K12 R))(hR:U14 R)(ae:o+n+1<=R.length)(Z:Q5 H bC=some J)(a4:bC≠b)(a5:∀ j v,(K12 vs)[j]? = some v->J[oC+j]? = some v)(a9:U14 vs)(af:vs.length=n)(hn:n<900000):
  Q2 gQ 114 [.slice (some ⟨b,o,none⟩) (n+1) cu,.slice (some ⟨bC,oC,none⟩) n cC] H nx fun r H' nx'=>nx<=nx'/\(∀ i,i≠b->J0 H' i=J0 H i) /\
   ∃(R':List Nat) (w:Nat),J0 H' b=O7 (K12 R')/\R'.length=R.length/\U14 R'/\(∀ q,q<o\/o+n+1<=q->R'[q]? = R[q]?) /\
    val ((R'.drop o).take (n+1))+4294967296^(n+1)*w=val ((R.drop o).take (n+1))+val vs:=by
 refine spec114 ?_;unfold F114;simp(disch:=try exact O3)only[W0];refine B1 (m:=n) (fun m L H' nx'=>∃(i B:Nat) (R1:List Nat),m+i=n/\L=[.int .u64 (B:Int),O8 (i:Int)]/\B<=1/\R1.length=R.length/\U14 R1/\(∀ q,q<o\/o+i<=q->R1[q]? = R[q]?) /\
  val ((R1.drop o).take i)+4294967296^i*B=val ((R.drop o).take i)+val (vs.take i)/\J0 H' b=O7 (K12 R1)/\(∀ i,i≠b->J0 H' i=J0 H i)/\nx<=nx') ?_
  ⟨0,0,R,rfl,rfl,O0,rfl,hR,fun _ _=>rfl,by simp[val],hg,fun _ _=>rfl,aD _⟩
 rintro m ih L H1 ad ⟨i,B,R1,hm,rfl,ab,M,a2,E,W,a1,Q,a6⟩ a7
 by_cases hi:i<n
 case neg=>
  have O:¬ (i:Int)<(n:Int):=O0;have a8:i=n:=O0;subst a8;obtain⟨x,hx⟩:∃ x,R[o+i]? = some x:=⟨_,aE O0⟩
  have V:R1[o+i]? = some x:=by rw[E _ (.inr (aD _))];exact hx
  have Y:=hR.get hx;have gX:=Q3 V;have ec:B%4294967296=B:=O0;simp(disch:=try exact O3)only[W0,O,a1,gX,G34,ec,M106,C3,V10 (l:=R1) (i:=o+i) (x:=(x+B)%4294967296) (show o+i<R1.length by omega),show o+i+1<=R1.length by omega];refine⟨a6,fun j hj=>by rw[Z1 _ hj];exact Q j hj,R1.set (o+i) ((x+B)%4294967296),(x+B)/4294967296,rfl,by simp[M],U39 a2 O0,fun j hj => ?_,?_⟩
  .rw[bL O0];exact E j O0
  .rw[U80,U72 O5,E82 hx,dR,eE]
   rw[X25 (ds:=vs) O0] at W;have e1:4294967296^i*((x+B)%4294967296)+4294967296^i*(4294967296*((x+B)/4294967296))=4294967296^i*x+4294967296^i*B:=by
    rw[<- bJ (4294967296^i) ((x+B)%4294967296),Nat.mod_add_div,bJ (4294967296^i) x]
   omega
 have O:(i:Int)<(n:Int):=O0;obtain⟨y,hy⟩:∃ y,vs[i]? = some y:=⟨_,aE O0⟩
 obtain⟨x,hx⟩:∃ x,R[o+i]? = some x:=⟨_,aE O0⟩
 have V:R1[o+i]? = some x:=by rw[E _ (.inr (aD _))];exact hx
 have Y:=hR.get hx;have aa:=a9.get hy;have gX:=Q3 V;have gY:=a5 _ _ (Q3 hy);have U:Q5 H1 bC=some J:=by rw[Q5,Q _ a4];exact Z
 obtain⟨t,ht⟩:∃ t,t=B+(x+y):=⟨_,rfl⟩
 have a3:t<18446744073709551616:=O0;have a0:∀ k:VP,D10 .add (.int .u64 (B:Int)) (.int .u64 ((x+y:Nat):Int)) k=k (.int .u64 (t:Int)):=fun k=>by rw[ht];exact B74 (a:=B) (b:=x+y) k O0
 simp(disch:=try exact O3)only[W0,O,X3 U,gY,U22 _ (show y<18446744073709551616 by omega),a1,gX,U22 _ (show x<18446744073709551616 by omega),B74 (a:=x) (b:=y) _ O0,a0,G34,D74 _ a3,
  C3,V10 (l:=R1) (i:=o+i) (x:=t%4294967296) (show o+i<R1.length by omega),show o+i+1<=R1.length by omega]
 refine a7 (m-1) _ _ _ O0 ⟨i+1,t/4294967296,R1.set (o+i) (t%4294967296),O0,O2,O0,by simp[M],U39 a2 O0,fun j hj => ?_,?_,Z11 _ _ _,fun j hj=>by rw[Z1 _ hj];exact Q j hj,O0⟩
 .rw[bL O0];exact E j O0
 .rw[U80,U72 O5,E82 hx,G20 hy,dR,eE (4294967296^i) 4294967296]
  have e2:4294967296^i*(t%4294967296)+4294967296^i*(4294967296*(t/4294967296))=4294967296^i*B+4294967296^i*x+4294967296^i*y:=by
   rw[<- bJ (4294967296^i) (t%4294967296),Nat.mod_add_div,ht,bJ (4294967296^i) B,bJ (4294967296^i) x];omega
  omega
end Go.Proofs.YthbdeaeghipliaaGreatDoor
namespace Go.Clo
theorem V75{a n:Nat}(h:a<=n):Y13 (some (O8 (a:Int))) n=some a:=by
 show(match (cD .i64 (Int.ofNat a)) with | .int _ (.ofNat i)=>cond (dD i n) (some i) none | _=>none)=_;simp[V6 h]
theorem Y109{H:Y0}{b o n c l h:Nat}{row:List Value}(hg:J0 H b=O7 row)(hl:l<c)(B:l<=h)(hh:h<=c)(k:VP):
  U5 (.slice (some ⟨b,o,none⟩) n c) 1 (some (O8 (l:Int))) (some (O8 (h:Int))) none H k=k (.slice (some ⟨b,o+l,none⟩) (h-l) (c-l)):=by
 have e:B26 (some ⟨b,o,none⟩) n c 1 (some (O8 (l:Int))) (some (O8 (h:Int))) none false=some (.slice (some ⟨b,o+l,none⟩) (h-l) (c-l)):=by
  have e1:Y13 none c=some c:=rfl;have e2:hiA (some (O8 (h:Int))) none n c=some h:=V75 hh;have e3:loA (some (O8 (l:Int))) h=some l:=V75 B;simp only[B26,e1,e2,e3,K43 (show c≠l by omega),V6 (show l<=c by omega)];simp
 unfold U5;dsimp only;rw[Y4,hg];simp only[aN,slB];rw[show N8 (.cells row 0) o c 1=some false from rfl];dsimp only;rw[e];exact E7 _ _
theorem Q101{H:Y0}{b o n c h:Nat}{row:List Value}(hg:J0 H b=O7 row)(hh:h<=c)(k:VP):
  U5 (.slice (some ⟨b,o,none⟩) n c) 1 none (some (O8 (h:Int))) none H k=k (.slice (some ⟨b,o,none⟩) h c):=by
 have e:B26 (some ⟨b,o,none⟩) n c 1 none (some (O8 (h:Int))) none false=some (.slice (some ⟨b,o,none⟩) h c):=by
  have e1:Y13 none c=some c:=rfl;have e2:hiA (some (O8 (h:Int))) none n c=some h:=V75 hh;have e3:loA none h=some 0:=rfl;simp only[B26,e1,e2,e3,V6 (aL c)]
  cases bR c 0<;>simp
 unfold U5;dsimp only;rw[Y4,hg];simp only[aN,slB];rw[show N8 (.cells row 0) o c 1=some false from rfl];dsimp only;rw[e];exact E7 _ _
theorem R92(ds:List Nat)(j:Nat):val ds=val (ds.take j)+4294967296^j*val (ds.drop j)\/ds.length<j:=by
 by_cases h:j<=ds.length
 .refine .inl ?_
  have:=G77 (ds.take j) (ds.drop j);rw[List.take_append_drop,cK,Nat.min_eq_left h] at this;exact this
 .exact .inr O0
theorem M81{ds:List Nat}{j:Nat}(h:j<=ds.length):val ds=val (ds.take j)+4294967296^j*val (ds.drop j):=(R92 ds j).resolve_right O0
theorem E101{R R':List Nat}{j:Nat}(h:∀ q,q<j->R'[q]? = R[q]?):R'.take j=R.take j:=by
 apply dH;intro q;rw[aX,aX]
 split
 .exact h q O1
 .rfl
theorem G101{R R':List Nat}{j:Nat}(h:∀ q,j<=q->R'[q]? = R[q]?):R'.drop j=R.drop j:=by
 apply dH;intro q;rw[dB,dB];exact h _ O0
theorem Z101{Q D g w P P':Nat}(hD:0<D)(L:D<Q)(M:P'<Q)(J:P/D<=g)(E:g<=P/D+1)(hw:w<=1)(h:P'+g*D=P+Q*w):(w=0->g=P/D/\P'=P%D)/\(w=1->g=P/D+1/\P'+D=P%D+Q):=by
 have B:=Nat.div_add_mod P D;have hm:=eZ P hD;rw[cG] at B;have hg:g=P/D\/g=P/D+1:=O0;generalize P/D=q at *
 generalize P%D=r at *
 constructor
 .rintro rfl
  rcases hg with rfl | rfl
  .exact⟨rfl,O0⟩
  .rw[dM,Nat.one_mul] at h;omega
 .rintro rfl
  rcases hg with rfl | rfl
  .omega
  .rw[dM,Nat.one_mul] at h;exact⟨rfl,O0⟩
end Go.Clo
namespace Go.Proofs.YthbdeaeghipliaaGreatDoor
open Go.Clo
theorem M80{b o c:Nat}{ds:List Nat}{row:List Nat}{H:Y0}{nx:Nat}(hb:b<nx)(hg:J0 H b=O7 (K12 row))(hp:∀(i d:Nat),ds[i]? = some d->row[o+i]? = some d)(hs:U14 ds)(hc:ds.length<=c):Dg H nx (some ⟨b,o,none⟩) c ds:=
 ⟨fun i v hv=>by
  simp only[K12,cP,bU] at hv;obtain⟨d,hd,rfl⟩:=hv;exact⟨b,o,_,rfl,hb,by rw[Q5,hg];rfl,Q3 (hp i d hd)⟩,SK.new hb hg,hs,hc⟩
theorem M98{A C:Option Addr}{a b n:Nat}{H:Y0}{nx:Nat}(hA:Dg H nx A (D11 a).length (D11 a))(hC:Dg H nx C (D11 b).length (D11 b))(hn:(D11 b).length=n+2)(dw:b<=a)(hl:(D11 a).length<500000):
  Q2 gQ 86 [.slice A (D11 a).length (D11 a).length,.slice C (D11 b).length (D11 b).length] H nx fun r H' nx'=>D0 H nx H' nx'/\∃(bq br Lq Lr:Nat) (qs rs:List Nat),r = .tuple ⟨[.slice (some ⟨bq,0,none⟩) Lq Lq,.slice (some ⟨br,0,none⟩) Lr Lr]⟩ /\
   bq<nx'/\br<nx'/\J0 H' bq=O7 (K12 qs)/\J0 H' br=O7 (K12 rs)/\qs.length=Lq/\rs.length=Lr/\Lq<1000000/\Lr<1000000/\U14 qs/\U14 rs/\val qs=a/b/\val rs=a%b:=by
 refine spec86 ?_;unfold F86;have b8:(D11 b).length<=(D11 a).length:=by
  rcases aW (D11 a).length (D11 b).length with g | g
  .have:=X70 g;omega
  .exact g
 have a9:0<b:=by
  rcases cI b with e | e
  .subst e;rw[D20] at hn;simp at hn
  .exact e
 obtain⟨top,a1,bl,_⟩:=U76 a9;rw[hn,show n+2-1=n+1 by omega] at a1;have Y:=hC.small.get a1;have d9:=V20 a;have cb:=V20 b;have d4:=Q68 b;have bv:=E84 a9;have cr:=Q68 a;generalize D11 a=xs at *
 generalize D11 b=ys at *
 rw[hn] at b8 d4 bv;rw[hn];obtain⟨dv,dz,d5,da,_,af,bf⟩:=hC.sl.open (i:=n+1) (by rw[C3];omega);have gt:=bf _ _ (Q3 a1);subst da;have c1:((n+2:Nat):Int)-1=((n+1:Nat):Int):=O0;simp(disch:=try exact O3)only[W0,Q0.val,c1,X3 af,gt];refine R0 (Y101 Y H nx) ?_;rintro _ _ _ ⟨rfl,rfl,rfl⟩;have dy:=V80 (n:=top) (b:=32) Y;have dm:=C65 bl;obtain⟨s,d0⟩:∃ s,s=32-C14 top:=⟨_,rfl⟩
 have ab:s<32:=O0;rw[<- d0];simp(disch:=try exact O3)only[U22 _ (show s<18446744073709551616 by omega)];have cn:=B84 (s:=s) hC O0 ab;rw[hn] at cn;refine R0 cn ?_;rintro _ H2 nx2 ⟨rfl,ch,b7,V0,bs,dk,cf,be⟩;have d6:2^C14 top*2^s=4294967296:=by rw[<- Nat.pow_add,show C14 top+s=32 by omega]
 have bo:b=val (ys.take (n+1))+4294967296^(n+1)*top:=by
  have h0:=V73 a1;rw[cM O0,val,cb] at h0;exact h0
 have dx:=Z48 hC.small (n+1);have b0:=C76 top;have ag:=E76 bl;obtain⟨D,hD⟩:∃ D,D=b*2^s:=⟨_,rfl⟩
 have cz:0<4294967296^(n+1):=Nat.pow_pos O0;have av:D<4294967296^(n+2):=by
  have h1:b<4294967296^(n+1)*2^C14 top:=by
   have h2:=bG (4294967296^(n+1)) (show top+1<=2^C14 top from b0);rw[bJ (4294967296^(n+1)) top 1,eQ] at h2;omega
  have h3:=fU h1 (aQ s);rw[eE,d6,<- dR,<- hD] at h3;exact h3
 have dl:4294967296^(n+1)*2147483648<=D:=by
  have h1:4294967296^(n+1)*2^(C14 top-1)<=b:=by
   have h2:=bG (4294967296^(n+1)) ag;omega
  have h3:=dS (2^s) h1;rw[eE,<- Nat.pow_add,show C14 top-1+s=31 by omega,<- hD] at h3;exact h3
 have E:0<D:=by have:=Nat.mul_pos cz (show 0<2147483648 by omega);omega
 have ay:val V0=D:=by rw[be,cb,hD]
 obtain⟨vs,ae⟩:∃ vs,vs=V0.take (n+2):=⟨_,rfl⟩
 have a7:vs.length=n+2:=by rw[ae];simp;omega
 have Z:U14 vs:=by rw[ae];exact K76 cf _
 have V:val vs=D:=by
  have h1:=M81 (ds:=V0) (j:=n+2) O0;rw[<- ae,ay] at h1;have h0:val (V0.drop (n+2))=0:=by
   rcases cI (val (V0.drop (n+2))) with e | e
   .exact e
   .have:=bG (4294967296^(n+2)) (show 1<=val (V0.drop (n+2)) from e)
    omega
  rw[h0,Nat.mul_zero,eM] at h1;exact h1.symm
 obtain⟨v1,bg⟩:∃ v1,vs[n+1]? = some v1:=⟨_,aE O0⟩
 have am:2147483648<=v1:=by
  have h1:D=val (vs.take (n+1))+4294967296^(n+1)*v1:=by
   have h0:=V73 bg;rw[cM O0,val,V] at h0;exact h0
  have h2:=Z48 Z (n+1);refine Nat.le_of_not_lt fun dd => ?_
  have h3:=bG (4294967296^(n+1)) (show v1+1<=2147483648 from dd);rw[bJ (4294967296^(n+1)) v1 1,eQ] at h3;omega
 have a4:∀ j v,(K12 vs)[j]? = some v->(K12 V0)[0+j]? = some v:=fun j v h=>by
  rw[ae,Q91,aX] at h
  split at h
  .rw[cF];exact h
  .cases h
 rw[Q101 bs O0];have df:=hA.ext b7;refine R0 (B84 (s:=s) df O0 ab) ?_;rintro _ H3 B ⟨rfl,di,ba,U0,de,c8,b9,ad⟩;rw[d9] at ad;obtain⟨N,hN⟩:∃ N,N=a*2^s:=⟨_,rfl⟩
 rw[<- hN] at ad;have c2:((xs.length:Int)-((n+2:Nat):Int))=((xs.length-(n+2):Nat):Int):=O0;simp(disch:=try exact O3)only[c2];rw[show(((xs.length-(n+2):Nat):Int)+1)=((xs.length-(n+2)+1:Nat):Int) by omega,M27 O0,C23];obtain⟨Lq,cv⟩:∃ Lq,Lq=xs.length-(n+2)+1:=⟨_,rfl⟩
 rw[<- cv];have ci:J0 (Go.Clo.hs H3 B (O7 (K12 (aF Lq 0)))) B=O7 (K12 (aF Lq 0)):=Z11 _ _ _;have cm:J0 (Go.Clo.hs H3 B (O7 (K12 (aF Lq 0)))) nx2=O7 (K12 U0):=by rw[gN _];exact de
 have bk:J0 (Go.Clo.hs H3 B (O7 (K12 (aF Lq 0)))) nx=O7 (K12 V0):=by rw[gN _,ba.get nx ch];exact bs
 have b6:D0 H nx (Go.Clo.hs H3 B (O7 (K12 (aF Lq 0)))) (B+1):=(b7.trans ba).nw _;generalize Go.Clo.hs H3 B (O7 (K12 (aF Lq 0)))=K at ci cm bk b6 ⊢;have dh:N<4294967296^Lq*D:=by
  have h1:a*2^s<4294967296^xs.length*2^s:=fU cr (aQ s);have h2:4294967296^Lq*(4294967296^(n+1)*2^s)<=4294967296^Lq*(b*2^s):=bG _ (dS _ bv);rw[<- eE,<- Nat.pow_add,show Lq+(n+1)=xs.length by omega,<- hD] at h2;omega
 refine B1 (m:=Lq) (fun m L H' nx'=>∃(U Q:List Nat),L=[O8 ((m:Int)-1)]/\m<=Lq/\U.length=xs.length+1/\U14 U/\Q.length=Lq/\U14 Q/\val U+4294967296^m*(val (Q.drop m)*D)=N/\val U<4294967296^m*D /\
  J0 H' nx2=O7 (K12 U)/\J0 H' B=O7 (K12 Q)/\(∀ i,i<B->i≠nx2->J0 H' i=J0 K i)/\B<nx') ?_
  ⟨U0,aF Lq 0,by congr 3;omega,aD _,c8,b9,O2,R72 _,by rw[cM O2,val];omega,by rw[ad];exact dh,cm,ci,fun _ _ _=>rfl,O0⟩
 rintro m ih L H4 a2 ⟨U,Q,rfl,hm,dt,ak,bw,b4,J,al,O,ao,ax,ap⟩ d8;have ce:∀(H5:Y0) (ai:Nat),B<ai->(∀ i,i<B->i≠nx2->J0 H5 i=J0 K i)->D0 H nx H5 ai:=fun H5 ai h1 h2=>⟨O0,fun i hi=>by rw[h2 i O0 O0];exact b6.get i hi⟩
 by_cases h0:m=0
 .subst h0
  have e2:¬ (0:Int)<=((0:Nat):Int)-1:=O0;simp(disch:=try exact O3)only[W0,e2];rw[Q101 O O0];rw[Nat.pow_zero,Nat.one_mul] at al J;rw[bW] at J;have d7:val (U.take (n+2))=val U:=by
   have h1:=M81 (ds:=U) (j:=n+2) O0;rcases cI (val (U.drop (n+2))) with e | e
   .rw[e] at h1;omega
   .have:=bG (4294967296^(n+2)) (show 1<=val (U.drop (n+2)) from e)
    omega
  have cs:Dg H4 a2 (some ⟨nx2,0,none⟩) (xs.length+1) (U.take (n+2)):=M80 O0 O (fun i d h=>by
   rw[aX] at h
   split at h
   .rw[cF];exact h
   .cases h) (K76 ak _) O5
  have bm:=W93 (s:=s) cs O5 ab;rw[show(U.take (n+2)).length=n+2 by simp;omega] at bm;refine R0 bm ?_;rintro _ H5 ai ⟨rfl,bx,b3,rs,an,bp,a5,aj⟩;have bz:=aQ s;have aw:val U=(a%b)*2^s/\val Q=a/b:=by
   have h1:N/D=val Q:=by
    rw[<- J,Nat.add_mul_div_right _ _ E,Nat.div_eq_of_lt al,cF]
   have h3:N%D=val U:=by
    rw[<- J,Nat.add_mul_mod_self_right,bV al]
   rw[hN,hD] at h1 h3;rw[Nat.mul_div_mul_right _ _ bz] at h1;rw[Nat.mul_mod_mul_right] at h3;exact⟨h3.symm,h1.symm⟩
  refine⟨(ce H4 a2 ap ax).trans b3,B,a2,Lq,n+2,Q,rs,rfl,O0,bx,by rw[b3.get B ap];exact ao,an,bw,bp,O0,O0,b4,a5,aw.2,?_⟩;rw[aj,d7,aw.1,Nat.mul_div_cancel _ bz]
 have e2:(0:Int)<=(m:Int)-1:=O0;obtain⟨j,rfl⟩:∃ j,m=j+1:=⟨m-1,O0⟩
 have c3:(((j+1:Nat):Int)-1)=(j:Int):=O0;have c4:((j:Int)+((n+2:Nat):Int))=((j+(n+2):Nat):Int):=O0;have c5:(((j+(n+2):Nat):Int)+1)=((j+(n+2)+1:Nat):Int):=O0;have c6:j+(n+2)+1-j=n+3:=O0;have e3:(0:Int)<=(j:Int):=O0;simp(disch:=try exact O3)only[W0,c3,c4,c5,e3];rw[Y109 O O0 O0 O0,c6,cF];have dj:0<4294967296^j:=Nat.pow_pos O0;have ck:=M81 (ds:=U) (j:=j) O0;have a3:val (U.drop j)<D*4294967296:=by
  refine Nat.lt_of_not_le fun cp => ?_
  have h1:=bG (4294967296^j) cp;rw[dR,eE,cG 4294967296 D] at al;omega
 have M:val ((U.drop j).take (n+3))=val (U.drop j)/\val (U.drop (j+(n+3)))=0:=by
  have h1:=M81 (ds:=U.drop j) (j:=n+3) O5;rw[List.drop_drop] at h1;rcases cI (val (U.drop (j+(n+3)))) with e | e
  .rw[e] at h1;exact⟨O0,e⟩
  .exfalso
   have h3:D*4294967296<4294967296^(n+2)*4294967296:=fU av O0;have h4:val (U.drop j)<4294967296^(n+3):=Nat.lt_trans a3 h3;have h5:4294967296^(n+3)<=val (U.drop j):=by rw[h1];exact bK (Nat.le_mul_of_pos_right _ e) (Nat.le_add_left _ _)
   exact absurd h4 (Nat.not_lt.2 h5)
 have a6:J0 H4 nx=O7 (K12 V0):=by rw[ax nx O0 O0];exact bk
 have bn:Dg H4 a2 (some ⟨nx2,j,none⟩) (xs.length+1-j) ((U.drop j).take (n+3)):=M80 O0 O (fun i d h=>by
  rw[aX] at h
  split at h
  .rw[dB] at h;exact h
  .cases h) (K76 (N80 ak _) _) O5
 have cg:Dg H4 a2 (some ⟨nx,0,none⟩) (n+2+1) vs:=M80 O0 a6 (fun i d h=>by
  rw[ae,aX] at h
  split at h
  .rw[cF];exact h
  .cases h) Z O0
 refine R0 (M105 bn cg a7 O5 O0 bg am (by rw[M.1,V];exact a3)) ?_;rintro _ _ du ⟨g,rfl,c9,bu,cq,rfl,dn⟩;rw[M.1,V] at c9 bu;have c0:val (U.drop j)/D<4294967296:=(Nat.div_lt_iff_lt_mul E).2 (by rw[cG];exact a3);refine N5 (fun L H' nx'=>∃ U2:List Nat,L=[.int .u64 ((val (U.drop j)/D:Nat):Int)]/\U2.length=xs.length+1/\U14 U2/\val U2=val (U.take j)+4294967296^j*(val (U.drop j)%D) /\
  J0 H' nx2=O7 (K12 U2)/\(∀ i,i≠nx2->J0 H' i=J0 H4 i)/\a2<=nx') ?_ ?_
 .intro tj hj
  refine R0 (Q99 (b:=nx2) (o:=j) (n:=n+2) (f:=g) (vs:=vs) (oC:=0) O ak O0 (show Q5 H4 nx=some (K12 V0) by rw[Q5,a6];rfl) O0 a4 Z a7 cq O0) ?_;rintro _ H5 _ ⟨rfl,a8,R,w,an,bp,a5,W,hw,rfl,aj⟩;rw[show n+2+1=n+3 from rfl,M.1,V] at aj;have b5:=Z48 (N80 a5 j) (n+3);have dg:D<4294967296^(n+3):=Nat.lt_trans av (Nat.pow_lt_pow_right O0 O0);obtain⟨db,d2⟩:=Z101 E dg b5 c9 bu hw aj;have done:∀(R2:List Nat),R2.length=xs.length+1->(∀ q,q<j\/j+(n+3)<=q->R2[q]? = U[q]?)->val ((R2.drop j).take (n+3))=val (U.drop j)%D->val R2=val (U.take j)+4294967296^j*(val (U.drop j)%D):=by
   intro R2 dr co d1;have h1:=M81 (ds:=R2) (j:=j) O0;have h2:=M81 (ds:=R2.drop j) (j:=n+3) O5;rw[List.drop_drop,G101 (R:=U) (R':=R2) (j:=j+(n+3)) (fun q hq=>co q (.inr hq)),M.2,Nat.mul_zero,eM,d1] at h2;rw[h1,h2,E101 (R:=U) (R':=R2) (j:=j) (fun q hq=>co q (.inl hq))]
  have b1:w=0\/w=1:=O0;rcases b1 with rfl | rfl
  .obtain⟨ah,az⟩:=db rfl
   simp(disch:=try exact O3)only[W0,show decide ((0:Nat)=1)=false from rfl];refine hj _ _ _ ⟨R,by rw[ah],O0,a5,done R O0 (fun q hq=>W q O0) az,an,a8,O0⟩
  .obtain⟨ah,az⟩:=d2 rfl
   have cx:0<g:=by rw[ah];exact Nat.succ_pos _
   simp(disch:=try exact O3)only[W0,J103 (a:=g) _ cx O0];have bc:Q5 H5 nx=some (K12 V0):=by rw[Q5,a8 nx O0,a6];rfl
   refine R0 (M99 (b:=nx2) (o:=j) (n:=n+2) (vs:=vs) (oC:=0) an a5 O0 bc O0 a4 Z a7 O0) ?_;rintro _ H6 cy ⟨bh,a0,R2,w2,cj,dq,aq,aa,c7⟩;rw[show n+2+1=n+3 from rfl,V,az] at c7;have cw:=Z48 (N80 aq j) (n+3);have au:=eZ (val (U.drop j)) E;have b2:val ((R2.drop j).take (n+3))=val (U.drop j)%D:=by
    have b1:w2=1:=by
     rcases aW w2 1 with e | e
     .obtain rfl:w2=0:=O0
      omega
     .rcases aW 1 w2 with e' | e'
      .have:=bG (4294967296^(n+3)) (show 2<=w2 from e')
       omega
      .omega
    subst b1;omega
   refine hj _ _ _ ⟨R2,by rw[ah,Nat.add_sub_cancel],O0,aq,done R2 O0 (fun q hq=>by rw[aa q O0];exact W q O0) b2,cj,fun i hi=>by rw[a0 i hi];exact a8 i hi,O0⟩
 rintro L H6 cy ⟨U2,rfl,cl,cd,ar,ca,a0,bh⟩;have bd:J0 H6 B=O7 (K12 Q):=by rw[a0 B O0];exact ao
 have cu:val (U.drop j)/D%4294967296=val (U.drop j)/D:=bV c0;simp(disch:=try exact O3)only[W0,G34,cu,bd,C3,V10 (l:=Q) (i:=j) (x:=val (U.drop j)/D) (show j<Q.length by omega),show j+1<=Q.length by omega];have au:=eZ (val (U.drop j)) E;have dp:=Z48 ak j;refine d8 j _ _ _ O0 ⟨U2,Q.set j (val (U.drop j)/D),rfl,O0,cl,cd,by simp[bw],U39 b4 c0,?_,?_,by rw[gN _];exact ca,Z11 _ _ _,fun i hi bt=>by rw[gN _,a0 i bt];exact ax i hi bt,O0⟩
 .have d3:(Q.set j (val (U.drop j)/D))[j]? = some (val (U.drop j)/D):=by rw[dG O0]
  rw[D72 d3,C86,ar];have ct:=Nat.mod_add_div (val (U.drop j)) D;rw[ck] at J;rw[<- J,dR,dM];have h1:4294967296^j*val (U.drop j)=4294967296^j*(val (U.drop j)%D)+4294967296^j*(val (U.drop j)/D*D):=by
   rw[<- bJ,cG (val (U.drop j)/D),ct]
  rw[bJ (4294967296^j) (val (U.drop j)/D*D)];have h2:4294967296^j*(4294967296*val (Q.drop (j+1))*D)=4294967296^j*4294967296*(val (Q.drop (j+1))*D):=by ac_rfl
  omega
 .rw[ar]
  have h1:=bG (4294967296^j) (show val (U.drop j)%D+1<=D from au);rw[bJ (4294967296^j) (val (U.drop j)%D) 1,eQ] at h1;omega
section
variable {H:Y0} {b n nx:Nat}
theorem Z87{c sl:Nat}{L:Nat}{ds:List Nat}(hb:b<nx)(hg:J0 H b=some (.cells (K12 ds) sl))(B:sl=0\/sl=1)(hs:U14 ds)(hL:ds.length=L)(hl:L<10000000)(hc:L<=c)(hn:val ds=n):
  Q2 gQ 80 [.slice (some ⟨b,0,none⟩) L c] H nx fun v H' nx'=>NN H' nx' v n/\H=H'/\nx=nx':=by
 subst hL;subst hn;have hD:Dg H nx (some ⟨b,0,none⟩) c ds:=⟨fun i v h=>⟨b,0,_,rfl,hb,by rw[Q5,hg];rfl,by rw[cF];exact h⟩,.inr ⟨b,0,_,rfl,hb,.inr ⟨sl,B,hg⟩⟩,hs,hc⟩
 refine(R86 hD O0).mono ?_;rintro _ _ _ ⟨rfl,rfl,rfl⟩;exact⟨⟨_,_,rfl,hD.trim⟩,rfl,rfl⟩
theorem Y103{A:Option Addr}(h:Dg H nx A (D11 n).length (D11 n))(hl:(D11 n).length<1000000)(h0:0<n):
  Q2 gQ 79 [.slice A (D11 n).length (D11 n).length] H nx fun v H' nx'=>∃ q,nx<=q/\q<nx'/\v = .slice (some ⟨q,0,none⟩) (D11 n).length (D11 n).length/\J0 H' q=some (.cells (K12 (D11 n)) 1)/\D0 H nx H' nx':=by
 refine spec79 ?_;unfold F79;have hL:0<(D11 n).length:=by
  rcases cI (D11 n).length with e | e
  .have:=M65.1 e;omega
  .exact e
 obtain⟨b,o,row,rfl,hb,_,_⟩:=h.sl.open (i:=0) (by rw[C3];omega);rw[N83];simp(disch:=try exact O3)only[W0,Q0.val,Z88];have hE:D0 H nx (hs H nx (O7 [])) (nx+1):=(D0.refl H nx).nw _;have B:Clo.Src (hs H nx (O7 [])) 1 (.slice (some ⟨b,o,none⟩) (D11 n).length (D11 n).length) (D11 n).length (K12 (D11 n)):=C27 (h.sl.ext hE) (h.sk.has.ext hE) (by rw[C3,eQ]) O0;rw[R89 (Z11 _ _ _) B hL (D78 _) O0 O0];exact⟨nx+1,O0,O0,rfl,Z11 _ _ _,hE.nw _⟩
theorem B79{v w:Value}{a:Nat}(hv:NN H nx v a)(hw:NN H nx w b)(hl:(D11 a).length<400000)(al:(D11 b).length<400000):
  Q2 gQ 55 [v,w] H nx fun r H' nx'=>(if b=0 then r = .tuple ⟨[O6,O6,O8 18]⟩ else ∃ x y,r = .tuple ⟨[x,y,O8 0]⟩/\NN H' nx' x (a/b)/\NN H' nx' y (a%b))/\D0 H nx H' nx':=by
 obtain⟨A,c,rfl,hA⟩:=hv;obtain⟨C,d,rfl,hC⟩:=hw;refine spec55 ?_;unfold F55;refine R0 (Y69 hA O0) ?_;rintro _ _ _ ⟨rfl,rfl,rfl⟩;refine R0 (Y69 hC O0) ?_;rintro _ _ _ ⟨rfl,rfl,rfl⟩
 by_cases J:b=0
 .subst J
  have e:decide (((D11 0).length:Int)=0)=true:=decide_eq_true (by rw[D20];rfl);simp(disch:=try exact O3)only[W0,e];exact D0.refl _ _
 have W:0<b:=O0;have ap:(D11 b).length≠0:=fun e=>J (M65.1 e)
 have e:decide (((D11 b).length:Int)=0)=false:=decide_eq_false O0;simp(disch:=try exact O3)only[W0,e];refine R0 (M95 ⟨_,_,rfl,hA.self⟩ ⟨_,_,rfl,hC.self⟩ O0 O0) ?_;rintro _ H1 a6 ⟨rfl,E⟩;have V:=hA.self.ext E;have a0:=hC.self.ext E
 by_cases M:a<b
 .have e1:X72 a b<0:=by unfold X72;rw[if_pos M];omega
  simp(disch:=try exact O3)only[W0,e1];refine R0 (Y95 V O0) ?_;rintro u H2 nx2 ⟨hu,B⟩;refine⟨?_,E.trans B⟩;rw[if_neg J];exact⟨_,u,rfl,by rw[Nat.div_eq_of_lt M];exact Y90 _ _,by rw[bV M];exact hu⟩
 have e1:¬ X72 a b<0:=by
  unfold X72;rw[if_neg M]
  split<;>omega
 by_cases h1:(D11 b).length=1
 .have e2:decide (((D11 b).length:Int)=1)=true:=decide_eq_true O0
  have a9:D11 b=[b]:=by
   have a2:b<4294967296:=by have:=Q68 b;rw[h1] at this;omega
   rw[M74 W,bV a2,Nat.div_eq_of_lt a2,D20]
  have O:b<4294967296:=by have:=Q68 b;rw[h1] at this;omega
  simp(disch:=try exact O3)only[W0,e1,e2];refine R0 (Y103 V O0 O0) ?_;rintro _ H2 nx2 ⟨q,ao,a1,rfl,Y,B⟩;obtain⟨bC,oC,ai,rfl,_,Z,ae⟩:=(a0.sl.ext B).open (i:=0) (by rw[C3];omega);have gC:=ae 0 _ (Q3 (show(D11 b)[0]? = some b by rw[a9];rfl));have e0:(0:Int)<((D11 b).length:Int):=O0;have ez:((0:Int)).toNat=0:=rfl;have ei:∀ k:VP,M3 (.slice (some ⟨bC,oC,none⟩) (D11 b).length (D11 b).length) (O8 0) none 1 k=k (.pointer (some ⟨bC,oC+0,none⟩)):=fun k=>by
   rw[U33 (Int.le_refl 0) e0];rfl
  rw[ei,J48,X3 Z,Q40,gC];simp only[aN];refine R0 (E93 a1 Y (B25 a) O0 W O) ?_;rintro _ H3 an ⟨rfl,rfl,a4,qs,a5,Q,R,L⟩;rw[V20] at L;rw[V20];have a8:D0 H1 a6 H3 nx2:=⟨B.le,fun i hi=>by rw[a4 i O0];exact B.get i hi⟩
  refine R0 (Z87 a1 a5 (.inr rfl) R Q O0 (aD _) L) ?_;rintro u _ _ ⟨hu,rfl,rfl⟩;have ah:a%b<4294967296:=Nat.lt_trans (eZ a W) O;rw[U22 _ O0];refine R0 (R81 O0 _ _) ?_;rintro u2 H4 aj ⟨U,a3⟩;refine⟨?_,(E.trans a8).trans a3⟩;rw[if_neg J];exact⟨u,u2,rfl,hu.ext a3,U⟩
 .have e2:decide (((D11 b).length:Int)=1)=false:=decide_eq_false O0
  simp(disch:=try exact O3)only[W0,e1,e2];refine R0 (M98 (n:=(D11 b).length-2) V a0 O0 O0 O0) ?_;rintro _ H2 nx2 ⟨B,bq,br,Lq,Lr,qs,rs,rfl,ag,ad,Y,af,Q,a7,ak,am,R,aa,L,ab⟩;simp(disch:=try exact O3)only[W0];refine R0 (Z87 ag Y (.inl rfl) R Q O0 (aD _) L) ?_;rintro u _ _ ⟨hu,rfl,rfl⟩;refine R0 (Z87 ad af (.inl rfl) aa a7 O0 (aD _) ab) ?_;rintro u2 _ _ ⟨U,rfl,rfl⟩;refine⟨?_,E.trans B⟩;rw[if_neg J];exact⟨u,u2,rfl,hu,U⟩
end
section
variable (a0 a1 a2:Value) (H:Y0) (nx:Nat) (k:EP)
def F82:Prop:=
 Y2 gQ 53 [a1] H nx fun b c d=>
 D10 .eql b i0 fun b=>
 B0 b (
 Rt a0 c d k) (
 Y2 gQ 83 [a0] c d fun b c d=>
 G9 b 0 fun e=>
 G9 b 1 fun b=>
 Y2 gQ 83 [a1] c d fun c d f=>
 G9 c 0 fun g=>
 G9 c 1 fun c=>
 V4 (fun e=>
 C1 true c (
 e [b] d f) (
 e [bF] d f)) (fun b c d=>
 B0 b.a (
 G3 (fun b c d e=>
 D10 .neq c.b (.int .u64 0) fun f=>
 B0 f (
 M2 (e+6) fun e=>
 D10 .rem c.a c.b fun f=>
 wK True (
 b [c.b,f] d e)) (
 Y2 gQ 52 [c.a] d e fun b c d=>
 Rt b c d k)) [e,g] c d) (
 Y2 gQ 55 [a0,a1] c d fun b c d=>
 G9 b 0 fun _=>
 G9 b 1 fun e=>
 G9 b 2 fun _=>
 J1 a2 none c fun b=>
 M33 gQ b [a1,e] c d fun b c d=>
 Rt b c d k)))
def F54:Prop:=
 Q4 [.nilFunc] H nx fun b c d=>
 D5 b (.func (.func 82) ⟨[]⟩ ⟨[b]⟩) 1 c fun c=>
 G3 (fun c d e f=>
 Y2 gQ 53 [d.b] e f fun e f g=>
 D10 .gtr e (.int .i64 4096) fun e=>
 B0 e (
 Y2 gQ 55 [d.a,d.b] f g fun b e f=>
 G9 b 0 fun _=>
 G9 b 1 fun g=>
 G9 b 2 fun _=>
 c [d.b,g] e f) (
 J1 b none f fun b=>
 M33 gQ b [d.a,d.b] f g fun b c d=>
 Rt b c d k)) [a0,a1] c d
def F24:Prop:=
 M12 a0 H nx fun b c d=>
 Q4 zR c d fun c d e=>
 M2 (e+8) fun e=>
 K7 b 1 d fun f g=>
 Y2 gQ 51 [g] d e fun e h i=>
 K7 b 2 h fun j l=>
 Y2 gQ 51 [l] h i fun i m n=>
 wK ((tA ((cE j none h l)/\(tB (cE j none d l))))/\(tB (tA (tA (tB (cE f none d g)))))) (
 V4 (fun b=>
 R4 e 0 m fun c=>
 D10 .eql c i0 fun c=>
 C1 false c (
 R4 i 0 m fun c=>
 D10 .eql c i0 fun c=>
 b [c] m n) (
 b [bT] m n)) (fun d f g=>
 B0 d.a (
 K7 b 0 f fun _ b=>
 C1 true b (
 R4 e 0 f fun b=>
 D10 .gtr b i0 fun b=>
 Y2 gQ 52 [(.int .u64 1)] f g fun d f g=>
 U11 zR [(0,1),(1,1),(2,1)] [(0,b),(1,e),(2,d)] fun b=>
 D5 c b 3 f fun b=>
 J1 c (some 3) b fun c=>
 Rt c b g k) (
 Y2 gQ 52 [(.int .u64 1)] f g fun b d f=>
 U11 zR [(0,1),(1,1),(2,1)] [(0,bF),(1,e),(2,b)] fun b=>
 D5 c b 3 d fun b=>
 J1 c (some 3) b fun c=>
 Rt c b f k)) (
 V4 (fun b=>
 Y2 gQ 53 [i] f g fun c d f=>
 D10 .gtr c i1 fun c=>
 B0 c (
 Y2 gQ 54 [e,i] d f fun c d f=>
 Y2 gQ 53 [c] d f fun d f g=>
 D10 .gtr d i1 fun d=>
 B0 d (
 Y2 gQ 55 [e,c] f g fun d e f=>
 G9 d 0 fun g=>
 G9 d 1 fun _=>
 G9 d 2 fun _=>
 Y2 gQ 55 [i,c] e f fun c d e=>
 G9 c 0 fun f=>
 G9 c 1 fun _=>
 G9 c 2 fun _=>
 b [g,f] d e) (
 b [e,i] f g)) (
 b [e,i] d f)) (fun d e f=>
 K7 b 0 e fun _ b=>
 U11 zR [(0,1),(1,1),(2,1)] [(0,b),(1,d.a),(2,d.b)] fun b=>
 D5 c b 3 e fun b=>
 J1 c (some 3) b fun c=>
 Rt c b f k))))
def F25:Prop:=
 D10 .lss a0 i0 fun b=>
 B0 b (
 W8 .u64 a0 fun b=>
 C5 .neg b fun b=>
 Y2 gQ 52 [b] H nx fun b c d=>
 Rt b c d k) (
 W8 .u64 a0 fun b=>
 Y2 gQ 52 [b] H nx fun b c d=>
 Rt b c d k)
def F10:Prop:=
 Q4 zR H nx fun b c d=>
 D10 .eql a1 i0 fun e=>
 B0 e (
 U11 zR [(0,1),(1,1),(2,1)] [] fun e=>
 D5 b e 3 c fun c=>
 J1 b (some 3) c fun b=>
 Rt (.tuple ⟨[b,(.int .i64 18)]⟩) c d k) (
 D10 .lss a0 i0 fun e=>
 D10 .lss a1 i0 fun f=>
 D9 (.eqb true) [e,f] fun e=>
 Y2 gQ 25 [a0] c d fun c d f=>
 Y2 gQ 25 [a1] d f fun d f g=>
 U11 zR [(0,1),(1,1),(2,1)] [(0,e),(1,c),(2,d)] fun c=>
 Y2 gQ 24 [c] f g fun c d e=>
 D5 b c 3 d fun c=>
 J1 b (some 3) c fun b=>
 Rt (.tuple ⟨[b,i0]⟩) c e k)
def F60:Prop:=
 Y2 gQ 48 [a0,(.string ⟨#[47]⟩)] H nx fun b c d=>
 Rt b c d k
def F33:Prop:=
 M12 a0 H nx fun b c d=>
 J1 b (some 3) c fun e=>
 Y2 gQ 24 [e] c d fun c d e=>
 D5 b c 3 d fun c=>
 V4 (fun d=>
 K7 b 0 c fun _ b=>
 B0 b (
 d [(.string ⟨#[45]⟩)] c e) (
 d [(.string ⟨#[]⟩)] c e)) (fun c d e=>
 K7 b 2 d fun _ f=>
 Y2 gQ 53 [f] d e fun d e f=>
 D10 .eql d i1 fun d=>
 B0 d (
 K7 b 1 e fun _ b=>
 Y2 gQ 61 [b] e f fun b d e=>
 D24 1 1 [.string ⟨#[]⟩] [(0,b)] d e fun b d e=>
 Y2 gQ 60 [b] d e fun b d e=>
 D10 .add c.a b fun b=>
 Rt b d e k) (
 M2 (f+11) fun d=>
 K7 b 1 e fun g h=>
 Y2 gQ 61 [h] e d fun d i j=>
 K7 b 2 i fun b l=>
 Y2 gQ 61 [l] i j fun j m n=>
 K6 2 1 [.string ⟨#[]⟩] [(0,d),(1,j)] fun d=>wNm f 7 (.slice 2 2) fun j=>
 E6 m (f+7) (some (.cells d 0)) fun d=>Y2 gQ 60 [j] d n fun d f j=>
 D10 .add c.a d fun c=>
 wK ((tA (tA ((cE b none i l)/\(tB (cE b none e l)))))/\(tB (tA (tA (tA (tB (cE g none e h))))))) (
 Rt c f j k)))
variable {a0 a1 a2 H nx k}
theorem spec82:F82 a0 a1 a2 H nx k->Q2 gQ 82 [a0,a1,a2] H nx k:=Q12 [(7,[30])] [[6,8]] [.one (.tst (.one .nil) (.one .nil))]
theorem spec54:F54 a0 a1 H nx k->Q2 gQ 54 [a0,a1] H nx k:=Q12 [] [[0,1]] []
theorem spec24:F24 a0 H nx k->Q2 gQ 24 [a0] H nx k:=Q12 [(3,[19]),(5,[3,4])] [] [.one (.tst (.one .nil) (.one .nil)),.one (.tst (.one .nil) (.one .nil))]
theorem spec25:F25 a0 H nx k->Q2 gQ 25 [a0] H nx k:=Q12 [] [] []
theorem spec10:F10 a0 a1 H nx k->Q2 gQ 10 [a0,a1] H nx k:=Q12 [] [] []
theorem spec60:F60 a0 H nx k->Q2 gQ 60 [a0] H nx k:=Q12 [] [] []
theorem spec33:F33 a0 H nx k->Q2 gQ 33 [a0] H nx k:=Q12 [(3,[3])] [] []
end
end Go.Proofs.YthbdeaeghipliaaGreatDoor
namespace Go.Clo
theorem N73{a b:Nat}(h:a<=b):(D11 a).length<=(D11 b).length:=by
 rcases aW (D11 b).length (D11 a).length with g | g
 .have:=X70 g;omega
 .exact g
theorem G92{P:Program}{g:Nat}{cap args:List Value}{H:Y0}{nx:Nat}{k:EP}:M33 P (.func (.func g) ⟨[]⟩ ⟨cap⟩) args H nx k=Y2 P g (args++cap) H nx k:=by
 show spine ([]++args++cap) (fun vs=>M8 P g vs H nx False k)=M8 P g (args++cap) H nx False k;rw[V14];rfl
theorem W83{b:Nat}{r x1:Value}{Q:Prop}(hb:0<b)(h:if b=0 then r=x1 else Q):Q:=by rwa [if_neg O0] at h
end Go.Clo
namespace Go.Proofs.YthbdeaeghipliaaGreatDoor
open Go.Clo
theorem gcd_rec:∀(b a:Nat) (v w:Value) (bx:Nat) (H:Y0) (nx:Nat),NN H nx v a->NN H nx w b->(D11 a).length<400000->(D11 b).length<400000->bx<nx ->
  J0 H bx=O7 [.func (.func 82) ⟨[]⟩ ⟨[.pointer (some ⟨bx,0,none⟩)]⟩] ->
  Q2 gQ 82 [v,w,.pointer (some ⟨bx,0,none⟩)] H nx fun r H' nx'=>NN H' nx' r (fF b a)/\D0 H nx H' nx':=by
 intro b
 induction b using gB with
 | ind b a9=>
 intro a v w bx H nx hv hw hl W a0 hg;refine spec82 ?_;unfold F82;refine R0 (M77 hw O0) ?_;rintro _ _ _ ⟨rfl,rfl,rfl⟩
 by_cases a8:b=0
 .subst a8
  simp(disch:=try exact O3)only[W0,B80,show decide (((0:Nat):Int)=0)=true from rfl];rw[Nat.gcd_zero_left];exact⟨hv,D0.refl _ _⟩
 have Z:0<b:=O0;have ae:=C65 Z;have e0:decide (((C14 b:Nat):Int)=0)=false:=decide_eq_false O0;simp(disch:=try exact O3)only[W0,e0];refine R0 (V84 hv O0) ?_;rintro r1 _ _ ⟨Q,rfl,rfl⟩;have a5:fF b a=fF (a%b) b:=Nat.gcd_rec b a;have E:Y2 gQ 55 [v,w] H nx fun V H8 Y=>G9 V 0 fun af=>G9 V 1 fun a6=>G9 V 2 fun ag=>V7 (J0 H8 bx) 0 none fun ad=>
   M33 gQ ad [w,a6] H8 Y fun ab H9 O=>NN H9 O ab (fF b a)/\D0 H nx H9 O:=by
  refine R0 (B79 hv hw hl W) ?_;rintro r H8 Y ⟨hr,M⟩;obtain⟨x,y,rfl,hx,hy⟩:=W83 Z hr;have a1:=(M.get bx a0).trans hg;simp(disch:=try exact O3)only[W0,a1,G92,dL,eR];have hm:=eZ a Z;refine R0 (a9 (a%b) hm b w y bx H8 Y (hw.ext M) hy W (iF (N73 (eG hm)) W) (aO a0 M.le) a1) ?_;rintro r H9 O ⟨hr,U⟩;rw[a5];exact⟨hr,M.trans U⟩
 by_cases ha:a<18446744073709551616
 case neg=>
  rw[if_neg ha] at Q;subst Q;simp(disch:=try exact O3)only[W0];refine R0 (V84 hw O0) ?_;rintro r2 _ _ ⟨B,rfl,rfl⟩
  by_cases J:b<18446744073709551616
  .rw[if_pos J] at B
   subst B;simp(disch:=try exact O3)only[W0,N13];exact E
  .rw[if_neg J] at B
   subst B;simp(disch:=try exact O3)only[W0,N13];exact E
 rw[if_pos ha] at Q;subst Q;simp(disch:=try exact O3)only[W0];refine R0 (V84 hw O0) ?_;rintro r2 _ _ ⟨B,rfl,rfl⟩
 by_cases J:b<18446744073709551616
 case neg=>
  rw[if_neg J] at B;subst B;simp(disch:=try exact O3)only[W0,N13];exact E
 rw[if_pos J] at B;subst B;simp(disch:=try exact O3)only[W0,N13];refine B1 (m:=b) (fun m L H' nx'=>∃ x:Nat,L=[.int .u64 (x:Int),.int .u64 (m:Int)]/\x<18446744073709551616/\m<18446744073709551616/\fF m x=fF b a/\H=H'/\nx<=nx') ?_ ⟨a,rfl,ha,J,rfl,rfl,aD _⟩;rintro m ih L _ nx2 ⟨x,rfl,hx,hm,R,rfl,a7⟩ aa
 by_cases a4:m=0
 .subst a4
  simp(disch:=try exact O3)only[W0,show decide (((0:Nat):Int)≠0)=false from rfl];refine R0 (R81 hx H nx2) ?_;rintro r H9 O ⟨hr,U⟩;rw[<- R,Nat.gcd_zero_left];exact⟨hr,(D0.self a7).trans U⟩
 .have a2:0<m:=O0
  have e1:decide (((m:Nat):Int)≠0)=true:=decide_eq_true O0;have a3:=eZ x a2;simp(disch:=try exact O3)only[W0,e1,B90 (a:=x) (b:=m) _ a2];refine aa (x%m) _ _ _ a3 ⟨m,rfl,hm,O0,?_,rfl,O0⟩;rw[<- R,Nat.gcd_rec m x]
theorem W102{v w:Value}{a b:Nat}{H:Y0}{nx:Nat}(hv:NN H nx v a)(hw:NN H nx w b)(hl:(D11 a).length<400000)(Z:(D11 b).length<400000):
  Q2 gQ 54 [v,w] H nx fun r H' nx'=>NN H' nx' r (fF a b)/\D0 H nx H' nx':=by
 refine spec54 ?_;unfold F54;have a0:D0 H nx (hs H nx (O7 [.nilFunc])) (nx+1):=(D0.refl H nx).nw _;simp(disch:=try exact O3)only[W0,Q0.val,show B12 [Value.nilFunc] 0 [Value.func (.func 82) ⟨[]⟩ ⟨[.pointer (some ⟨nx,0,none⟩)]⟩]=[Value.func (.func 82) ⟨[]⟩ ⟨[.pointer (some ⟨nx,0,none⟩)]⟩] from rfl];have O:=a0.hs (i:=nx) (b:=O7 [Value.func (.func 82) ⟨[]⟩ ⟨[.pointer (some ⟨nx,0,none⟩)]⟩]) (aD _);have V:=Z11 (hs H nx (O7 [.nilFunc])) nx (O7 [Value.func (.func 82) ⟨[]⟩ ⟨[.pointer (some ⟨nx,0,none⟩)]⟩]);generalize hs (hs H nx (O7 [.nilFunc])) nx (O7 [Value.func (.func 82) ⟨[]⟩ ⟨[.pointer (some ⟨nx,0,none⟩)]⟩])=K at O V ⊢;refine B1 (m:=b) (fun m L H' nx'=>∃(x:Nat) (u1 u2:Value),L=[u1,u2]/\NN H' nx' u1 x/\NN H' nx' u2 m/\(D11 x).length<400000/\(D11 m).length<400000/\fF m x=fF b a/\D0 K (nx+1) H' nx') ?_
  ⟨a,v,w,rfl,hv.ext O,hw.ext O,hl,Z,rfl,D0.refl _ _⟩
 rintro m ih L H2 nx2 ⟨x,u1,u2,rfl,h1,h2,W,J,Q,E⟩ a1;have R:=(E.gt nx).trans V;simp(disch:=try exact O3)only[W0];refine R0 (M77 h2 O0) ?_;rintro _ _ _ ⟨rfl,rfl,rfl⟩
 by_cases U:4096<C14 m
 .have B:(4096:Int)<(C14 m:Int):=O0
  have Y:0<m:=by
   rcases cI m with e | e
   .subst e;rw[B80] at U;omega
   .exact e
  simp(disch:=try exact O3)only[W0,B];refine R0 (B79 h1 h2 W J) ?_;rintro r H3 a2 ⟨hr,M⟩;obtain⟨y,z,rfl,hy,hz⟩:=W83 Y hr;have hm:=eZ x Y;simp(disch:=try exact O3)only[W0];refine a1 (x%m) _ _ _ hm ⟨m,u2,z,rfl,h2.ext M,hz,J,iF (N73 (eG hm)) J,?_,E.trans M⟩;rw[<- Q,Nat.gcd_rec m x]
 .have B:¬ (4096:Int)<(C14 m:Int):=O0
  simp(disch:=try exact O3)only[W0,B,R,G92,dL,eR];refine R0 (gcd_rec m x u1 u2 nx H2 nx2 h1 h2 W J (aO (Nat.lt_succ_self nx) E.le) R) ?_;rintro r H3 a2 ⟨hr,M⟩;rw[Q,Nat.gcd_comm] at hr;exact⟨hr,(O.trans E).trans M⟩
end Go.Proofs.YthbdeaeghipliaaGreatDoor
namespace Go.Clo
def RT(H:Y0)(nx:Nat)(v:Value)(s:Bool)(n d:Nat):Prop:=∃ nv dv,v = .agg ⟨[.bool s,nv,dv]⟩/\NN H nx nv n/\NN H nx dv d
def B85(s:Bool)(n d:Nat):Bool:=s&&decide (0<n)&&(decide (n=0\/d=0) || s)
def G86(n d:Nat):Nat:=if n=0\/d=0 then n else n/fF n d
def K87(n d:Nat):Nat:=if n=0\/d=0 then 1 else d/fF n d
theorem Q78(s:Bool)(n d:Nat):B85 s n d=(s&&decide (0<n)):=by unfold B85;cases s<;>simp
theorem NN.box{H:Y0}{nx i n sl:Nat}{v:Value}{row row':List Value}(h:NN H nx v n)(hg:J0 H i=some (.cells row sl))(hr:∀(q:Nat) (z:Int),row[q]? ≠ some (cD .u32 z)):NN (hs H i (O7 row')) nx v n:=by
 obtain⟨A,c,rfl,hD⟩:=h;refine⟨A,c,rfl,?_,?_,hD.small,hD.le⟩
 .intro j x hx
  obtain⟨b,o,B,e1,e2,e3,e4⟩:=hD.sl j x hx
  by_cases hb:b=i
  .subst hb
   have e5:B=row:=by rw[Q5,hg] at e3;exact(fA e3).symm
   subst e5;have:∃ z,x=O9 z:=by
    simp only[K12,cP,bU] at hx;obtain⟨d,_,rfl⟩:=hx;exact⟨_,rfl⟩
   obtain⟨z,rfl⟩:=this;exact absurd e4 (hr _ z)
  .exact⟨b,o,B,e1,e2,by rw[Q5,Z1 _ hb];exact e3,e4⟩
 .rcases hD.sk with e | ⟨b,o,B,e1,e2,e3⟩
  .exact .inl e
  .by_cases hb:b=i
   .subst hb
    exact .inr ⟨b,o,row',e1,e2,.inr ⟨0,.inl rfl,Z11 _ _ _⟩⟩
   .exact .inr ⟨b,o,B,e1,e2,by rw[Z1 _ hb];exact e3⟩
theorem E46(s:Bool)(A C:Option Addr)(l1 c1 l2 c2:Nat):∀(q:Nat) (z:Int),[dU s,.slice A l1 c1,.slice C l2 c2][q]? ≠ some (cD .u32 z):=by
 intro q z h
 match q,h with
 | 0,h=>simp at h
 | 1,h=>simp at h
 | 2,h=>simp at h
 | q+3,h=>simp at h
theorem W65(s:Bool)(A C:Option Addr)(l1 c1 l2 c2:Nat)(k:VP):U11 [.bool false,O6,O6] [(0,1),(1,1),(2,1)] [(0,.bool s),(1,.slice A l1 c1),(2,.slice C l2 c2)] k=k (.agg ⟨[.bool s,.slice A l1 c1,.slice C l2 c2]⟩):=by
 unfold U11;have:V16 (R8 [(0,1),(1,1),(2,1)]) [.bool false,O6,O6] [(0,.bool s),(1,.slice A l1 c1),(2,.slice C l2 c2)]=some [.bool s,.slice A l1 c1,.slice C l2 c2]:=rfl;rw[this];exact V14 _ _
end Go.Clo
namespace Go.Proofs.YthbdeaeghipliaaGreatDoor
open Go.Clo
theorem B97{v:Value}{s:Bool}{n d:Nat}{H:Y0}{nx:Nat}(h:RT H nx v s n d)(hl:(D11 n).length<400000)(a9:(D11 d).length<400000):
  Q2 gQ 24 [v] H nx fun r H' nx'=>RT H' nx' r (B85 s n d) (G86 n d) (K87 n d)/\D0 H nx H' nx':=by
 obtain⟨nv,dv,rfl,hn,hd⟩:=h;refine spec24 ?_;unfold F24;obtain⟨A0,c0,rfl,Q⟩:=id hn;obtain⟨C0,d0,rfl,an⟩:=id hd;simp(disch:=try exact O3)only[W0,Z0,Q0.val];have R:J0 (hs (hs H nx (O7 [.bool s,.slice A0 (D11 n).length c0,.slice C0 (D11 d).length d0])) (nx+1) (O7 [.bool false,O6,O6])) nx=O7 [.bool s,.slice A0 (D11 n).length c0,.slice C0 (D11 d).length d0]:=by rw[gN _,Z11]
 have Z:J0 (hs (hs H nx (O7 [.bool s,.slice A0 (D11 n).length c0,.slice C0 (D11 d).length d0])) (nx+1) (O7 [.bool false,O6,O6])) (nx+1)=O7 [.bool false,O6,O6]:=Z11 _ _ _;have ab:D0 H nx (hs (hs H nx (O7 [.bool s,.slice A0 (D11 n).length c0,.slice C0 (D11 d).length d0])) (nx+1) (O7 [.bool false,O6,O6])) (nx+2):=
  ((D0.refl H nx).nw _:D0 H nx _ (nx+1)).nw _
 generalize hs (hs H nx (O7 [.bool s,.slice A0 (D11 n).length c0,.slice C0 (D11 d).length d0])) (nx+1) (O7 [.bool false,O6,O6])=K at R Z ab ⊢
 try simp(disch:=try exact O3)only[W0,Z0,Q0.val,Nat.reduceAdd,Nat.reduceMul,Nat.reduceLeDiff,R,Z]
 have V:D0 H nx K (nx+1+1+8):=ab.more O0;refine R0 (U97 (hn.ext V) O0) ?_;rintro u H4 ao ⟨hu,a1⟩;have g4:=(a1.gt nx).trans R;simp(disch:=try exact O3)only[W0,g4];refine R0 (U97 ((hd.ext V).ext a1) O0) ?_;rintro w H5 M ⟨hw,a7⟩;have J:=a1.trans a7;have ad:=V.trans J;have g5:=(J.gt nx).trans R;have z5:=(J.gt (nx+1)).trans Z;obtain⟨A,c,rfl,hA⟩:=id hu;obtain⟨C,dc,rfl,hC⟩:=id hw;have O:=hu.ext a7;have af:decide ((D11 n).length=0)=decide (n=0):=by
  congr 1;apply propext;exact M65
 have al:decide ((D11 d).length=0)=decide (d=0):=by
  congr 1;apply propext;exact M65
 have am:decide ((0:Int)<((D11 n).length:Int))=decide (0<n):=by
  congr 1;apply propext;have:=M65 (n:=n);omega
 have z6:∀ {H6:Y0} {E:Nat},D0 H5 M H6 E->J0 H6 (nx+1)=O7 [.bool false,O6,O6]:=fun e=>(e.get (nx+1) (by have:=J.le;omega)).trans z5
 have a5:∀(b:Bool) (H6:Y0) (E n' d':Nat) (x y:Value),NN H6 E x n'->NN H6 E y d'->D0 H5 M H6 E->RT (hs H6 (nx+1) (O7 [.bool b,x,y])) E (.agg ⟨[.bool b,x,y]⟩) b n' d'/\D0 H nx (hs H6 (nx+1) (O7 [.bool b,x,y])) E:=
  fun b H6 E n' d' x y hx hy B=>⟨⟨x,y,rfl,NN.box hx (z6 B) (E46 _ _ _ _ _ _ _),NN.box hy (z6 B) (E46 _ _ _ _ _ _ _)⟩,(ad.trans B).h0⟩
 simp(disch:=try exact O3)only[W0];refine N5 (fun L H' nx'=>L=[.bool (decide (n=0\/d=0))]/\H5=H'/\M=nx') ?_ ?_
 .intro tj hj
  by_cases Q:n=0
  .have e:decide (n=0\/d=0)=true:=decide_eq_true (.inl Q)
   simp(disch:=try exact O3)only[W0,af,decide_eq_true Q];exact hj _ _ _ ⟨by rw[e],rfl,rfl⟩
  .have e:decide (n=0\/d=0)=decide (d=0):=by congr 1;apply propext;simp[Q]
   simp(disch:=try exact O3)only[W0,af,decide_eq_false Q,al];exact hj _ _ _ ⟨by rw[e],rfl,rfl⟩
 rintro L _ _ ⟨rfl,rfl,rfl⟩
 by_cases h0:n=0\/d=0
 .have e:decide (n=0\/d=0)=true:=decide_eq_true h0
  have eN:G86 n d=n:=if_pos h0;have eD:K87 n d=1:=if_pos h0
  cases s with
  | true=>
   simp(disch:=try exact O3)only[W0,e,g5,am];refine R0 (R81 (n:=1) O0 H5 M) ?_;rintro x H6 E ⟨hx,B⟩;obtain⟨X,cX,rfl,hX⟩:=id hx;rw[W65];simp(disch:=try exact O3)only[W0,Z0,Nat.reduceAdd,z6 B,D7,Y12];have:=a5 (decide (0<n)) H6 E n 1 _ _ (O.ext B) hx B;rw[Q78,eN,eD,iA];exact this
  | false=>
   simp(disch:=try exact O3)only[W0,e,g5];refine R0 (R81 (n:=1) O0 H5 M) ?_;rintro x H6 E ⟨hx,B⟩;obtain⟨X,cX,rfl,hX⟩:=id hx;rw[W65];simp(disch:=try exact O3)only[W0,Z0,Nat.reduceAdd,z6 B,D7,Y12];have:=a5 false H6 E n 1 _ _ (O.ext B) hx B;rw[Q78,eN,eD,Bool.false_and];exact this
 have e:decide (n=0\/d=0)=false:=decide_eq_false h0;have a3:0<n:=O0;have ah:0<d:=O0;have eN:G86 n d=n/fF n d:=if_neg h0;have eD:K87 n d=d/fF n d:=if_neg h0;have eS:B85 s n d=s:=by rw[Q78,decide_eq_true a3,Bool.and_true]
 have a0:0<fF n d:=Nat.gcd_pos_of_pos_left _ a3;simp(disch:=try exact O3)only[W0,e];refine N5 (fun L H' nx'=>∃ x y,L=[x,y]/\NN H' nx' x (G86 n d)/\NN H' nx' y (K87 n d)/\D0 H5 M H' nx') ?_ ?_
 .intro tj hj
  refine R0 (M77 hw O0) ?_;rintro _ _ _ ⟨rfl,rfl,rfl⟩
  by_cases hb:1<C14 d
  .have a4:(1:Int)<(C14 d:Int):=O0
   simp(disch:=try exact O3)only[W0,a4];refine R0 (W102 O hw hl a9) ?_;rintro gq H6 E ⟨a6,B⟩;have aa:(D11 (fF n d)).length<400000:=iF (N73 (Nat.gcd_le_left _ a3)) hl;refine R0 (M77 a6 O0) ?_;rintro _ _ _ ⟨rfl,rfl,rfl⟩
   by_cases ar:1<C14 (fF n d)
   .have U:(1:Int)<(C14 (fF n d):Int):=O0
    simp(disch:=try exact O3)only[W0,U];refine R0 (B79 (O.ext B) a6 hl aa) ?_;rintro r1 H7 aq ⟨ag,a2⟩;obtain⟨x1,y1,rfl,ak,av⟩:=W83 a0 ag;simp(disch:=try exact O3)only[W0];refine R0 (B79 ((hw.ext B).ext a2) (a6.ext a2) a9 aa) ?_;rintro r2 H8 au ⟨ai,a8⟩;obtain⟨x2,y2,rfl,aj,ap⟩:=W83 a0 ai;simp(disch:=try exact O3)only[W0];exact hj _ _ _ ⟨x1,x2,rfl,by rw[eN];exact ak.ext a8,by rw[eD];exact aj,(B.trans a2).trans a8⟩
   .have U:¬ (1:Int)<(C14 (fF n d):Int):=O0
    have ae:fF n d=1:=E89.1 (by have:=C65 a0;omega);simp(disch:=try exact O3)only[W0,U];exact hj _ _ _ ⟨_,_,rfl,by rw[eN,ae,Nat.div_one];exact O.ext B,by rw[eD,ae,Nat.div_one];exact hw.ext B,B⟩
  .have a4:¬ (1:Int)<(C14 d:Int):=O0
   have W:d=1:=E89.1 (by have:=C65 ah;omega);simp(disch:=try exact O3)only[W0,a4];refine hj _ _ _ ⟨_,_,rfl,?_,?_,D0.refl _ _⟩
   .rw[eN,W,Nat.gcd_one_right,Nat.div_one];exact O
   .rw[eD,W,Nat.gcd_one_right,Nat.div_one,<- W];exact hw
 rintro L H6 E ⟨x,y,rfl,hx,hy,B⟩;have g6:=(B.get nx (by have:=J.le;omega)).trans g5;obtain⟨X,cX,rfl,hX⟩:=id hx;obtain⟨Y,cY,rfl,hY⟩:=id hy;simp(disch:=try exact O3)only[W0,g6];rw[W65];simp(disch:=try exact O3)only[W0,Z0,Nat.reduceAdd,z6 B,D7,Y12];have:=a5 s H6 E _ _ _ _ hx hy B;rw[eS];exact this
section
open Go.RowKit
variable {P:Program}
theorem E144:(gQ.info? 94).map (·.size)=some 2:=by kernel_rfl
theorem R149:liesAt gQ gQ.depth 96 (2/gQ.cellsOf 96) 0 94 1=true:=by kernel_rfl
theorem V150:gQ.cellsOf 5=1:=by kernel_rfl
theorem N139(b:Nat)(w:World)(h0:w.cell? ⟨b,0,none⟩=some (.pointer (some ⟨b,0,none⟩))):
  Calls gQ 56 #[.pointer (some ⟨b,0,none⟩)] w fun e w'=>e = .returned (.tuple #[])/\w'=w:=by
 obtain⟨j,hj,_⟩:=bU.1 E144
 go_enter Tryz.func56,Tryz.ntmps56
 go_wp2
 rw[Lib.run_neq_ptr_same w _ Tryz.underlying92 hj]
 go_wp2
 go_end0
 exact⟨rfl,rfl⟩
theorem X137(b:Nat)(w:World)(h0:w.cell? ⟨b,0,none⟩=some (.pointer none))(B:w.shape? b=some (96,2))(J:w.frozen? ⟨b,0,none⟩=false):
  Calls gQ 56 #[.pointer (some ⟨b,0,none⟩)] w fun e w'=>e = .returned (.tuple #[])/\w'=w.setCell ⟨b,0,none⟩ (.pointer (some ⟨b,0,none⟩)):=by
 obtain⟨j,hj,E⟩:=bU.1 E144
 go_enter Tryz.func56,Tryz.ntmps56
 go_wp2
 rw[Lib.run_to_unsafe w ⟨b,0,none⟩ Tryz.underlying92 Tryz.underlying158 hj (by rw[E];decide) B (Nat.zero_lt_succ 1)];simp only[Result.andThen];rw[Oper.upon_value]
 go_wp2
 rw[run_callFunc_extern Tryz.func87 (by kernel_rfl) (by kernel_rfl) (by kernel_rfl) (e:=Extern.AbiNoEscape.same) (by kernel_rfl)];rw[Lib.run_noEscape];simp only[Result.andThen];rw[Oper.upon_value]
 go_wp2
 rw[Lib.run_from_unsafe w ⟨b,0,none⟩ Tryz.underlying158 Tryz.underlying92 hj B R149];simp only[Result.andThen];rw[Oper.upon_value]
 go_wp2
 go_end0
 exact⟨rfl,rfl⟩
theorem N138{e:TypeId}(hc:P.cellsOf e=1)(B o n:Nat)(hn:o+n<=B):liesAt P P.depth e B o e n=true:=by
 have hd:P.depth=(2*(P.types.size+Made.depth)+1)+1:=rfl;rw[hd];simp only[liesAt,cO];left;rw[hd];simp[rowAt,hc,hn,sameLayout,Nat.mod_one]
theorem C141 (w:World) (pt it ty e:TypeId) (hp:P.underlying pt=some (.pointer e)) (hc:P.cellsOf e=1) (g o cells:Nat) (Q:w.shape? g=some (e,cells)) (l:List UInt8) (h0:l≠[]) (hn:o+l.length<=cells) (U:l.length<=9223372036854775807)
  (B:∀ j x,l[j]? = some x->w.cell? ((⟨g,o,none⟩:Addr).add j)=some (.int .u8 x.toNat)):
  (Builtin.unsafeString_ #[pt,it] ty #[.pointer (some ⟨g,o,none⟩),.int .i64 l.length]).run P w = .ok (.string ⟨l.toArray⟩) (w.freeze ⟨g,o,none⟩ l.length):=by
 have hl:l.length≠0:=by simpa using h0
 have R:=Lib.run_loadBytes (P:=P) w l ⟨g,o,none⟩ .empty B;have E:=N138 (P:=P) hc (cells/P.cellsOf e) o l.length (by rw[hc];simpa using hn);have O:¬ (9223372036854775807:Int)<(l.length:Int):=O0
 obtain ⟨e1,e2,e3,L⟩:∃ e1 e2 e3, Builtin.unsafeString_ #[pt,it] ty #[.pointer (some ⟨g,o,none⟩),.int .i64 l.length] =
   (do
    let n <- asInt (.int .i64 l.length)
    if n < 0 then runtimePanic e1
    if n > IntKind.i64.max then unsupported e2
    if n=0 then pure (.string .empty)
    else if <- variablesAt ⟨g,o,none⟩ (<- elemOf pt) n.toNat then do
     let s <- loadBytes ⟨g,o,none⟩ .empty n.toNat
     Go.freeze ⟨g,o,none⟩ n.toNat
     pure (.string s)
    else unsupported e3) := ⟨_,_,_,rfl⟩
 rw[L];have M:IntKind.i64.max=9223372036854775807:=rfl;have J:¬ (l.length:Int)<0:=O0;simp[asInt,asIntOf,M,O,J,hl,variablesAt,Q,elemOf,run_underlying hp,E,R]
structure U25 (g:Nat) (w w':World):Prop where
 os:w'.os=w.os
 tape:w'.tape=w.tape
 output:w'.output=w.output
 size:w'.heap.size=w.heap.size
 block:∀ k,k≠g->w'.heap[k]? = w.heap[k]?
theorem K144(w:World)(a:Addr)(v:Value):U25 a.block w (w.setCell a v):=
 ⟨rfl,rfl,rfl,O2,fun k hk=>Below.heap_setCell _ _ _ _ hk⟩
theorem U137(w:World)(a:Addr)(n:Nat):U25 a.block w (w.drew.freeze a n):=by
 unfold World.freeze
 split
 .exact⟨rfl,rfl,rfl,rfl,fun k _=>rfl⟩
 .refine⟨rfl,rfl,rfl,Array.size_modify ..,fun k hk => ?_⟩
  simp only[Array.getElem?_modify];rw[if_neg (fun h=>hk h.symm)]
  rfl
theorem Z148(b g o cap:Nat)(B:Array Value)(l:List UInt8)(w:World)(h0:l≠[])(c1:w.cell? ⟨b,1,none⟩=some (.slice (some ⟨g,o,none⟩) l.length cap))(hcap:l.length<=cap)(hb:l.length<=1000000000)(hg:w.heap[g]? = some (.cells B 5 (0,0)))(hn:o+l.length<=B.size)(E:∀ j x,l[j]? = some x->w.cell? ⟨g,o+j,none⟩=some (.int .u8 x.toNat)):
  Calls gQ 31 #[.pointer (some ⟨b,0,none⟩)] w fun e w'=>e = .returned (.string ⟨l.toArray⟩)/\U25 g w w':=by
 have M:l.length≠0:=by simpa using h0
 have c2:w.drew.cell? ⟨b,1,none⟩=some (.slice (some ⟨g,o,none⟩) l.length cap):=c1;have L:(Builtin.unsafeSliceData_ #[88] 132 #[.slice (some ⟨g,o,none⟩) l.length cap]).run gQ w.drew = .ok (.pointer (some ⟨g,o,none⟩)) w.drew:=
  Lib.run_unsafeSliceData_row _ _ _ _ _ _ O0
 have O:(Builtin.unsafeString_ #[132,3] 9 #[.pointer (some ⟨g,o,none⟩),.int .i64 l.length]).run gQ w.drew = .ok (.string ⟨l.toArray⟩) (w.drew.freeze ⟨g,o,none⟩ l.length):=by
  refine C141 w.drew 132 3 9 5 Tryz.underlying132 V150 g o B.size (by have J:w.drew.heap[g]? = some (.cells B 5 (0,0)):=hg;simp[World.shape?,J]) l h0 hn O0 ?_;intro j x hx;rw[show(⟨g,o,none⟩:Addr).add j=⟨g,o+j,none⟩ from by unfold Addr.add;by_cases hj:j=0<;>simp[hj]];exact E j x hx
 go_enter Tryz.func31,Tryz.ntmps31
 go_wp2
 go_region
 all_goals (go_wp2;go_ret;exact⟨rfl,U137 w ⟨g,o,none⟩ _⟩)
end
section
variable (a0 a1:Value) (H:Y0) (nx:Nat) (k:EP)
def F28:Prop:=
 Y2 gQ 56 [a0] H nx fun _ b c=>
 C70 a0 fun d=>
 K7 d 1 b fun _ d=>
 G112 d a1 6 1 1 b c fun b c d=>
 C70 a0 fun e=>
 B4 e 1 fun e=>
 D5 e b 1 c fun b=>
 R4 a1 1 b fun c=>
 Rt (.tuple ⟨[c,(.nilIface)]⟩) b d k
def F30:Prop:=
 C70 a0 fun b=>
 K7 b 1 H fun _ b=>
 R4 b 0 H fun b=>
 Rt b H nx k
variable {a0 a1 H nx k}
theorem spec28:F28 a0 a1 H nx k->Q2 gQ 28 [a0,a1] H nx k:=Q12 [] [] []
theorem spec30:F30 a0 H nx k->Q2 gQ 30 [a0] H nx k:=Q12 [] [] []
end
end Go.Proofs.YthbdeaeghipliaaGreatDoor
namespace Go.Clo
theorem N2.erase{F:FM}{H:Y0}{nx:Nat}{w w':World}(hr:HR F H nx w){b:Nat}{E:V3}{t:J7}(hg:J0 H b=some E)(M:E.isRom=false)(hF:F b=some t)(h1:w'.os=w.os)(h2:w'.tape=w.tape)(h3:w'.output=w.output)(h4:w.heap.size<=w'.heap.size)(h5:∀ k,k≠t.blk->w'.heap[k]? = w.heap[k]?):
  N2 F H nx w F (hs H b none) nx w':=by
 have hb:=hr.hb.lt hF;have hk:=N2.kill hr hb;have L:∀ k,k<w.heap.size->¬ Own F H nx k->w'.heap[k]? = w.heap[k]? := fun k _ O=>h5 k (fun e=>O ⟨b,E,t,hb,hg,M,hF,e.symm⟩)
 refine⟨hk.le,hk.ext,h1,h2,h3,h4,L,hk.own,hk.keep,hk.rom,?_⟩;refine⟨fun i kb hi B => ?_,hk.hr.inj,hk.hr.fresh,hk.hr.top,hr.gl.step L fun k R=>hk.own k R⟩;rw[N7] at B
 by_cases e:i=b
 .simp[e] at B
 rw[if_neg e] at B;obtain⟨ti,J,Q⟩:=hr.blk i kb hi B;refine⟨ti,J,Q.mono (fun _ _ h=>h) (h5 _ (fun e2 => ?_))⟩;rcases hr.inj i b kb E ti t hi hb B hg J hF e2 with h | h
 .exact e h
 .rw[M] at h;cases h.2
def W5(l:List UInt8):List Value:=l.map fun x=>cD .u8 (x.toNat:Int)
theorem K34(l:List UInt8):(W5 l).length=l.length:=by simp[W5]
theorem C131(l m:List UInt8):W5 (l++m)=W5 l++W5 m:=by simp[W5]
theorem B137{l:List UInt8}{i:Nat}{x:UInt8}(h:l[i]? = some x):(W5 l)[i]? = some (.int .u8 (x.toNat:Int)):=by simp[W5,h]
theorem V124:∀ l:List UInt8,Z0 (W5 l)=true
 | []=>rfl
 | x :: l=>V124 l
theorem Z140(H:Y0)(s:ByteArray):Clo.Src H 1 (.string s) s.data.toList.length (W5 s.data.toList):=by
 refine⟨rfl,fun k => ?_,by rw[K34,eQ]⟩;show M22 ((s.extract 0 s.data.toList.length).data.toList.map fun b => .int .u8 b.toNat) k=_;rw[C20];have:(s.extract 0 s.data.toList.length).data.toList=s.data.toList:=by
  have e:s.extract 0 s.data.toList.length=s:=by
   apply ByteArray.ext;simp[]
  rw[e]
 rw[this]
 rfl
def K78(v:Value):Option Nat:=match v with
 | .slice (some a) _ _=>some a.block
 | _=>none
def BB(mk:Bool)(H:Y0)(nx:Nat)(v:Value)(l:List UInt8):Prop:=
 (v = .slice none 0 0/\l=[])\/∃ g c sl,g<nx/\v = .slice (some ⟨g,0,none⟩) l.length c.length/\J0 H g=some (.cells c sl)/\(sl=6001\/(mk=true/\sl=0))/\l.length<=c.length/\c.take l.length=W5 l
theorem BB.ext{mk:Bool}{H:Y0}{nx:Nat}{v:Value}{l:List UInt8}{H':Y0}{nx':Nat}(h:BB mk H nx v l)(hn:nx<=nx')(e:∀ g,K78 v=some g->g<nx->J0 H' g=J0 H g):BB mk H' nx' v l:=by
 rcases h with h | ⟨g,c,sl,h1,rfl,h3,h4⟩
 .exact .inl h
 .exact .inr ⟨g,c,sl,O0,rfl,by rw[e g rfl h1];exact h3,h4⟩
theorem U135{mk:Bool}{H:Y0}{nx:Nat}{v x:Value}{l new:List UInt8}{k:EP}(hv:BB mk H nx v l)(hx:Clo.Src H 1 x new.length (W5 new))(hb:l.length+new.length<=1000000)(hk:∀ v' H' nx',BB mk H' nx' v' (l++new)->nx<=nx'->(K78 v'=K78 v\/K78 v'=some nx)->(∀ i,i<nx->K78 v≠some i->J0 H' i=J0 H i)->k v' H' nx'):G112 v x 6 1 1 H nx k:=by
 have e1:(2*(l.length+new.length)+1000)*1<=281474976710656:=O0;unfold G112 M128;rcases hv with ⟨rfl,rfl⟩ | ⟨g,c,sl,hg,rfl,h4,R,U,O⟩
 .rw[hx.len]
  simp only[bE] at e1 hb ⊢;rw[G1,V6 e1,V6 (show 0+new.length<=1000000000 by omega)];simp only[Bool.and_self,cond_true];rw[hx.first,V124];simp only[cond_true]
  by_cases h0:new=[]
  .subst h0
   exact hk _ _ _ (.inl ⟨rfl,rfl⟩) (aD _) (.inl rfl) fun _ _ _=>rfl
  .have V:=List.length_pos_iff.2 h0
   rw[E27 (show 0<0+new.length by omega)];simp only[cond_false];show spine ([]++W5 new) _;rw[V14];have e:([]++W5 new).length=(0+new.length)*1:=by simp[K34]
   rw[e,D13];simp only[cond_true,Q128,V115];rw[G1,G1,G4];refine hk _ _ _ (.inr ⟨nx,W5 new,6001,O0,?_,Z11 _ _ _,.inl rfl,by simp[K34],by rw[eR];exact gJ (by rw[K34];omega)⟩) O0 (.inr rfl) fun i hi _=>gN _
   simp[K34]
 .rw[hx.len]
  dsimp only;rw[G1,V6 e1,V6 (show l.length+new.length<=1000000000 by omega)];simp only[Bool.and_self,cond_true];rw[hx.first,V124];simp only[cond_true]
  by_cases B:l.length+new.length<=c.length
  .rw[V6 B]
   simp only[cond_true,C42];rw[G1,J30,h4,cF,eQ];refine⟨by rw[K34];exact B,?_⟩;have L:(B12 c l.length (W5 new)).length=c.length:=by simp[B12,K34];omega
   refine hk _ _ _ (.inr ⟨g,_,sl,hg,?_,Z11 _ _ _,R,by rw[L,bH];exact B,?_⟩) (aD _) (.inl rfl) fun i hi E=>Z1 _ (fun e=>E (by rw[e];rfl))
   .rw[L,bH]
   .rw[B12,O,bH,C131]
    exact List.take_left' (by simp[K34])
  .rw[E27 (show c.length<l.length+new.length by omega)]
   simp only[cond_false];have M:∀ k:List Value->Prop,Z5 H 1 l.length (.slice (some ⟨g,0,none⟩) l.length c.length) False k=k (W5 l):=by
    intro k;unfold Z5 B19;dsimp only;rw[Y4,h4,eQ];simp only[aN,bW];rw[R23 U];dsimp only;rw[V14,O]
   rw[M,V14];have e:(W5 l++W5 new).length=(l.length+new.length)*1:=by simp[K34]
   rw[e,D13];simp only[cond_true,Q128];rw[Y4,h4];simp only[aN];have Q:∀ H1:Y0,(∀ i,i<nx->i≠g->J0 H1 i=J0 H i)->V115 6 H1 nx 1 (l.length+new.length) (W5 l++W5 new) k:=by
    intro H1 h1;simp only[V115];rw[G1,G1,G4];refine hk _ _ _ (.inr ⟨nx,W5 (l++new),6001,O0,by simp[K34],by rw[Z11,C131];rfl,.inl rfl,by simp[K34],gJ (by rw[K34];omega)⟩) O0 (.inr rfl) fun i hi E => ?_
    rw[gN _];exact h1 i hi (fun e=>E (by rw[e];rfl))
   rcases R with rfl | ⟨_,rfl⟩
   .have J:C122 6 (.cells c 6001) 0 c.length 1=some true:=by
     simp only[C122,N11];rw[K43 (show 6001≠0 by omega),show bR 6001 (1+1000*(5+1))=true from rfl];simp
    rw[J];dsimp only;rw[G4];exact Q _ fun i _ hi=>Z1 _ hi
   .have J:C122 6 (.cells c 0) 0 c.length 1=some false:=rfl
    rw[J];exact Q _ fun i _ _=>rfl
end Go.Clo
namespace Go.Proofs.YthbdeaeghipliaaGreatDoor
open Go.Clo
structure PW (H:Y0) (nx b:Nat) (v:Value) (l:List UInt8):Prop where
 lt:b<nx
 cell:∃ p,J0 H b=some (.cells [p,v] 97000)/\(p = .pointer none\/p = .pointer (some ⟨b,0,none⟩))
 buf:BB false H nx v l
 ne:K78 v≠some b
structure PX (b:Nat) (H:Y0) (nx:Nat) (v:Value) (H':Y0) (nx':Nat) (v':Value):Prop where
 le:nx<=nx'
 get:∀ i,i<nx->i≠b->K78 v≠some i->J0 H' i=J0 H i
 buf:K78 v'=K78 v\/∃ g,nx<=g/\K78 v'=some g
theorem PX.refl(b:Nat)(H:Y0)(nx:Nat)(v:Value):PX b H nx v H nx v:=⟨aD _,fun _ _ _ _=>rfl,.inl rfl⟩
theorem PX.of_ext{b:Nat}{H:Y0}{nx:Nat}{v:Value}{H':Y0}{nx':Nat}(e:D0 H nx H' nx'):PX b H nx v H' nx' v:=⟨e.le,fun i hi _ _=>e.get i hi,.inl rfl⟩
theorem PX.trans{b:Nat}{H:Y0}{nx:Nat}{v:Value}{H1:Y0}{n1:Nat}{v1:Value}{H2:Y0}{n2:Nat}{v2:Value}(x:PX b H nx v H1 n1 v1)(y:PX b H1 n1 v1 H2 n2 v2):PX b H nx v H2 n2 v2:=by
 refine⟨bK x.le y.le,fun i hi h1 h2 => ?_,?_⟩
 .have:=x.le
  rw[y.get i O0 h1 ?_,x.get i hi h1 h2];rcases x.buf with h | ⟨g,hg,h⟩
  .rw[h];exact h2
  .rw[h];intro e;injection e with e;omega
 .rcases y.buf with h | ⟨g,hg,h⟩
  .rw[h];exact x.buf
  .exact .inr ⟨g,by have:=x.le;omega,h⟩
def Off(n0 b:Nat)(v:Value):Prop:=n0<=b/\∀ g,K78 v=some g->n0<=g
theorem PX.data{b:Nat}{H:Y0}{nx:Nat}{v:Value}{H':Y0}{nx':Nat}{v':Value}{n0:Nat}(x:PX b H nx v H' nx' v')(o:Off n0 b v)(h:n0<=nx):D0 H n0 H' nx':=
 ⟨bK h x.le,fun i hi=>x.get i O0 (by have:=o.1;omega) (fun e=>by have:=o.2 i e;omega)⟩
theorem PX.off{b:Nat}{H:Y0}{nx:Nat}{v:Value}{H':Y0}{nx':Nat}{v':Value}{n0:Nat}(x:PX b H nx v H' nx' v')(o:Off n0 b v)(h:n0<=nx):Off n0 b v':=by
 refine⟨o.1,fun g hg => ?_⟩;rcases x.buf with e | ⟨g',hg',e⟩
 .exact o.2 g (by rw[<- e];exact hg)
 .rw[e] at hg;injection hg with hg;omega
theorem PW.top{H:Y0}{nx b:Nat}{v:Value}{l:List UInt8}(h:PW H nx b v l){q:Nat}(hq:nx<=q):q≠b/\K78 v≠some q:=by
 refine⟨by have:=h.lt;omega,?_⟩;rcases h.buf with ⟨rfl,_⟩ | ⟨g,c,sl,hg,rfl,_⟩
 .exact fun e=>by cases e
 .intro e;injection e with e;simp only at e;omega
theorem PW.ext{H:Y0}{nx b:Nat}{v:Value}{l:List UInt8}{H':Y0}{nx':Nat}(h:PW H nx b v l)(e:D0 H nx H' nx'):PW H' nx' b v l:=by
 obtain⟨p,hp,hq⟩:=h.cell;exact⟨aO h.lt e.le,⟨p,by rw[e.get b h.lt];exact hp,hq⟩,h.buf.ext e.le fun g _ hg=>e.get g hg,h.ne⟩
theorem R135:Clo.Enters gQ 56:=⟨_,_,Tryz.func56,rfl,by kernel_rfl⟩
theorem W144:Clo.Enters gQ 31:=⟨_,_,Tryz.func31,rfl,by kernel_rfl⟩
theorem PW.real{F:FM}{H:Y0}{nx b:Nat}{v:Value}{l:List UInt8}(h:PW H nx b v l){w:World}(hh:HR F H nx w){t:J7}(hF:F b=some t):
  t.base=0/\t.rsz=2/\t.sz=2/\t.esz=0/\∃ x y p,w.heap[t.blk]? = some (.cells #[x,y] 96 (0,0))/\J0 H b=some (.cells [p,v] 97000)/\VR F p x/\VR F v y/\(p = .pointer none\/p = .pointer (some ⟨b,0,none⟩)):=by
 obtain⟨p,hp,hq⟩:=h.cell;obtain⟨c',e,h1,⟨h2,L⟩,h3,h4,h5,h6⟩:=hh.hb.get hF hp;obtain⟨he,hz⟩:=L O0;obtain⟨E,O⟩:=hz O0;have J:e=96:=Nat.succ.inj (he.trans (by decide));subst J;have M:t.sz=2:=h3;have B:c'.size=2:=O0;rw[E] at h6;simp only[bW,cV,bE,cF,Nat.reduceAdd] at h6;rw[gJ (by simp[B])] at h6;obtain⟨x,y,rfl⟩:∃ x y,c' = #[x,y]:=by
  match hl:c'.toList,(show c'.toList.length=2 by simpa using B) with
  | [x,y],_=>exact⟨x,y,by rw[<- Array.toArray_toList (xs:=c'),hl]⟩
 cases h6 with
 | cons hx h6=>
 cases h6 with
 | cons hy h6=>exact⟨E,O0,M,h4,x,y,p,h1,hp,hx,hy,hq⟩
theorem D148{H:Y0}{nx b:Nat}{v:Value}{l:List UInt8}(h:PW H nx b v l):
  Q2 gQ 56 [.pointer (some ⟨b,0,none⟩)] H nx fun r H' nx'=>nx=nx'/\J0 H' b=some (.cells [.pointer (some ⟨b,0,none⟩),v] 97000)/\∀ i,i≠b->J0 H' i=J0 H i:=by
 obtain⟨p,hp,hq⟩:=h.cell;rcases hq with rfl | rfl
 .refine⟨.tuple ⟨[]⟩,hs H b (some (.cells [.pointer (some ⟨b,0,none⟩),v] 97000)),nx,⟨R135,fun F Q w hh hl => ?_⟩,rfl,Z11 _ _ _,fun i hi=>Z1 _ hi⟩
  cases hl with
  | cons ha hl=>
  cases hl
  obtain⟨_,t,hF,rfl⟩:=ha.ptr_inv;obtain⟨B,L,O,U,x,y,p,hw,J,hx,hy,_⟩:=h.real hh hF;rw[hp] at J;cases J
  cases hx
  rw[B];refine(X137 t.blk w (by simp[cB,hw]) (by simp[World.shape?,hw]) (by simp[World.frozen?,hw])).mono fun e w' ⟨he,M⟩ => ?_
  subst M;have E:=K144 w ⟨t.blk,0,none⟩ (.pointer (some ⟨t.blk,0,none⟩));have V:t.blk<w.heap.size:=(Array.getElem?_eq_some_iff.1 hw).1;refine⟨_,F,he,VR.tuple' .nil,N2.update hh h.lt hp rfl rfl hF E.os E.tape E.output E.size E.block ?_⟩;refine⟨#[.pointer (some ⟨t.blk,0,none⟩),y],96,?_,⟨by rw[L];rfl,?_⟩,by rw[O];rfl,by rw[U],by rw[B,L];exact aD _,?_⟩
  .simp only[World.setCell,Array.getElem?_modify,if_true,hw]
   rfl
  .rw[B,L,O];exact fun _=>⟨rfl,fun _=>⟨rfl,rfl⟩⟩
  .rw[B]
   have:=VR.ptr (F:=F) (b:=b) (o:=0) hF;rw[B] at this;exact .cons this (.cons hy .nil)
 .refine⟨.tuple ⟨[]⟩,H,nx,⟨R135,fun F Q w hh hl => ?_⟩,rfl,hp,fun i hi=>rfl⟩
  cases hl with
  | cons ha hl=>
  cases hl
  obtain⟨_,t,hF,rfl⟩:=ha.ptr_inv;obtain⟨B,L,O,U,x,y,p,hw,J,hx,hy,_⟩:=h.real hh hF;rw[hp] at J;cases J;obtain⟨_,t2,R,rfl⟩:=hx.ptr_inv;rw[hF] at R;cases R;rw[B] at hw ⊢;refine(N139 t.blk w (by simp[cB,hw])).mono fun e w' ⟨he,M⟩ => ?_
  subst M;exact⟨_,F,he,VR.tuple' .nil,N2.refl hh⟩
theorem Z31{H:Y0}{nx b:Nat}{v:Value}{l:List UInt8}(s:ByteArray)(h:PW H nx b v l)(hb:l.length+s.size<=1000000):
  Q2 gQ 28 [.pointer (some ⟨b,0,none⟩),.string s] H nx fun r H' nx'=>∃ v',PW H' nx' b v' (l++s.data.toList)/\PX b H nx v H' nx' v':=by
 refine spec28 ?_;unfold F28;refine R0 (D148 h) ?_;rintro r H1 n1 ⟨rfl,O,L⟩;simp(disch:=try exact O3)only[W0,O];have B:BB false H1 nx v l:=h.buf.ext (aD _) fun g hg _=>L g (fun e=>h.ne (by rw[<- e];exact hg))
 refine U135 B (Z140 _ s) hb ?_;intro v' H2 n2 M V J Q;have R:J0 H2 b=some (.cells [.pointer (some ⟨b,0,none⟩),v] 97000):=by rw[Q b h.lt h.ne];exact O
 have E:K78 v'≠some b:=by
  rcases J with e | e
  .rw[e];exact h.ne
  .rw[e];intro e2;injection e2 with e2;have:=h.lt;omega
 have U:∃ A n c,v' = .slice A n c:=by
  rcases M with ⟨rfl,_⟩ | ⟨g,c,sl,_,rfl,_⟩
  .exact⟨_,_,_,rfl⟩
  .exact⟨_,_,_,rfl⟩
 obtain⟨A,n,c,rfl⟩:=U;simp(disch:=try exact O3)only[W0,Nat.reduceAdd,R];have e2:B12 [.pointer (some ⟨b,0,none⟩),v] 1 [.slice A n c]=[.pointer (some ⟨b,0,none⟩),.slice A n c]:=rfl;rw[e2];refine⟨.slice A n c,⟨by have:=h.lt;omega,⟨_,Z11 _ _ _,.inr rfl⟩,M.ext (aD _) fun g hg _=>Z1 _ (fun e=>E (by rw[<- e];exact hg)),E⟩,⟨V,fun i hi h1 h2 => ?_,?_⟩⟩
 .rw[Z1 _ h1,Q i hi h2,L i h1]
 .rcases J with e | e
  .exact .inl e
  .exact .inr ⟨nx,aD _,e⟩
theorem BB.slice{mk:Bool}{H:Y0}{nx:Nat}{v:Value}{l:List UInt8}(h:BB mk H nx v l):∃ A c,v = .slice A l.length c:=by
 rcases h with ⟨rfl,rfl⟩ | ⟨g,c,sl,_,rfl,_⟩
 .exact⟨_,_,rfl⟩
 .exact⟨_,_,rfl⟩
theorem X150{H:Y0}{nx b:Nat}{v:Value}{l:List UInt8}(h:PW H nx b v l):
  Q2 gQ 30 [.pointer (some ⟨b,0,none⟩)] H nx fun r H' nx'=>O8 (l.length:Int)=r/\H=H'/\nx=nx':=by
 refine spec30 ?_;unfold F30;obtain⟨p,hp,_⟩:=h.cell;obtain⟨A,c,rfl⟩:=BB.slice h.buf;simp(disch:=try exact O3)only[W0,hp]
theorem W143{H:Y0}{nx b:Nat}{v:Value}{l:List UInt8}(h:PW H nx b v l)(h0:l≠[])(hb:l.length<=1000000):
  Q2 gQ 31 [.pointer (some ⟨b,0,none⟩)] H nx fun r H' nx' => .string ⟨l.toArray⟩=r/\nx=nx'/\∀ i,K78 v≠some i->J0 H' i=J0 H i:=by
 rcases h.buf with ⟨_,e⟩ | ⟨g,c,sl,hg,hv,h4,B,Y,M⟩
 .exact absurd e h0
 have B:sl=6001:=by
  rcases B with h | ⟨h,_⟩
  .exact h
  .cases h
 subst B;refine⟨.string ⟨l.toArray⟩,hs H g none,nx,⟨W144,fun F W w hh hl => ?_⟩,rfl,rfl,fun i hi=>Z1 _ (fun e=>hi (by rw[hv,e];rfl))⟩
 cases hl with
 | cons ha hl=>
 cases hl
 obtain⟨_,t,hF,rfl⟩:=ha.ptr_inv;obtain⟨Q,Z,a3,a2,x,y,p,hw,a1,hx,hy,_⟩:=h.real hh hF;rw[hv] at hy;obtain⟨_,tg,cc,E,rfl,hc⟩:=hy.slice_inv;obtain⟨L,e,h1,⟨h2,U⟩,h3,a0,h5,h6⟩:=hh.hb.get E h4;obtain⟨he,_⟩:=U O0;have O:e=5:=Nat.succ.inj (he.trans (by decide));subst O;rw[Q];have V:l.length<=cc:=by rcases hc with h | h<;>omega
 refine(Z148 t.blk tg.blk tg.base cc L l w h0 (by simp[cB,hw]) V O0 h1 O0 ?_).mono fun e w' ⟨he,ho⟩ => ?_
 .intro j z hz
  have hj:j<l.length:=(aJ.1 hz).1;have J:c[j]? = some (.int .u8 (z.toNat:Int)):=by
   have h8:=B137 hz;rw[<- M,aX,if_pos hj] at h8;exact h8
  obtain⟨u,hu,R⟩:=h6.some J
  cases R
  rw[aX,if_pos O0,dB,cL] at hu;simp[cB,h1,hu]
 .exact⟨_,F,he,.string _,N2.erase hh h4 rfl E ho.os ho.tape ho.output (by rw[ho.size];exact aD _) ho.block⟩
section
variable (a0 a1:Value) (H:Y0) (nx:Nat) (k:EP)
def F58:Prop:=
 D10 .eql a0 i0 fun b=>
 B0 b (
 Rt (.string ⟨#[61]⟩) H nx k) (
 D10 .eql a0 i1 fun b=>
 B0 b (
 Rt (.string ⟨#[33,61]⟩) H nx k) (
 D10 .eql a0 (.int .i64 2) fun b=>
 B0 b (
 Rt (.string ⟨#[60]⟩) H nx k) (
 D10 .eql a0 (.int .i64 3) fun b=>
 B0 b (
 Rt (.string ⟨#[60,61]⟩) H nx k) (
 D10 .eql a0 (.int .i64 4) fun b=>
 B0 b (
 Rt (.string ⟨#[62]⟩) H nx k) (
 Rt (.string ⟨#[62,61]⟩) H nx k)))))
def F90:Prop:=
 R4 a0 1 H fun b=>
 D10 .add b (.int .i64 2) fun b=>
 G29 i0 b [.int .u8 0] H nx fun b c d=>
 D24 1 1 [.int .u8 0] [(0,(.int .u8 34))] c d fun c d e=>
 G112 b c 6 1 1 d e fun b c d=>
 R4 a0 1 c fun e=>
 G3 (fun b c d f=>
 D10 .lss c.b e fun e=>
 B0 e (
 V4 (fun b=>
 D9 .sidx [a0,c.b] fun e=>
 V4 (fun b=>
 D10 .eql e (.int .u8 34) fun c=>
 C1 false c (
 D10 .eql e (.int .u8 92) fun c=>
 b [c] d f) (
 b [bT] d f)) (fun d f g=>
 B0 d.a (
 D24 2 1 [.int .u8 0] [(0,(.int .u8 92)),(1,e)] f g fun d e f=>
 G112 c.a d 6 1 1 e f fun c d e=>
 b [c] d e) (
 D10 .eql e (.int .u8 10) fun d=>
 B0 d (
 D24 2 1 [.int .u8 0] [(0,(.int .u8 92)),(1,(.int .u8 110))] f g fun d e f=>
 G112 c.a d 6 1 1 e f fun c d e=>
 b [c] d e) (
 D10 .eql e (.int .u8 9) fun d=>
 B0 d (
 D24 2 1 [.int .u8 0] [(0,(.int .u8 92)),(1,(.int .u8 116))] f g fun d e f=>
 G112 c.a d 6 1 1 e f fun c d e=>
 b [c] d e) (
 V4 (fun b=>
 D10 .geq e (.int .u8 32) fun c=>
 C1 true c (
 D10 .leq e (.int .u8 126) fun c=>
 b [c] f g) (
 b [bF] f g)) (fun d f g=>
 B0 d.a (
 D24 1 1 [.int .u8 0] [(0,e)] f g fun d e f=>
 G112 c.a d 6 1 1 e f fun c d e=>
 b [c] d e) (
 M2 (g+10) fun d=>
 D10 .shr e (.int .u64 4) fun h=>
 D9 .sidx [(.string ⟨#[48,49,50,51,52,53,54,55,56,57,97,98,99,100,101,102]⟩),h] fun h=>
 D10 .and e (.int .u8 15) fun e=>
 D9 .sidx [(.string ⟨#[48,49,50,51,52,53,54,55,56,57,97,98,99,100,101,102]⟩),e] fun e=>
 K6 4 1 [.int .u8 0] [(0,(.int .u8 92)),(1,(.int .u8 120)),(2,h),(3,e)] fun e=>wNm g 7 (.slice 4 4) fun h=>
 E6 f (g+7) (some (.cells e 0)) fun e=>G112 c.a h 6 1 1 e d fun c d e=>
 wK True (
 b [c] d e)))))))) (fun d e f=>
 D10 .add c.b i1 fun c=>
 b [d.a,c] e f)) (
 D24 1 1 [.int .u8 0] [(0,(.int .u8 34))] d f fun b d e=>
 G112 c.a b 6 1 1 d e fun b c d=>
 X16 b c fun b=>
 Rt b c d k)) [b,i0] c d
def F59:Prop:=
 M12 a0 H nx fun b c d=>
 J1 b (some 3) c fun e=>
 Y2 gQ 88 [e] c d fun c d e=>
 C5 .not c fun c=>
 B0 c (
 Rt (.string ⟨#[]⟩) d e k) (
 K7 b 0 d fun _ c=>
 D10 .eql c i1 fun c=>
 B0 c (
 K7 b 1 d fun _ b=>
 Y2 gQ 89 [b,(.int .i64 10)] d e fun b c d=>
 Rt b c d k) (
 K7 b 2 d fun _ b=>
 Y2 gQ 90 [b] d e fun b c d=>
 Rt b c d k))
def F57:Prop:=
 M12 a1 H nx fun b c d=>
 V4 (fun e=>
 K7 b 0 c fun _ b=>
 B0 b (
 C70 a0 fun b=>
 B4 b 0 fun b=>
 Y2 gQ 28 [b,(.string ⟨#[110,111,116,32]⟩)] c d fun _ b c=>
 e [] b c) (
 e [] c d)) (fun _ c d=>
 M2 (d+7) fun d=>
 C70 a0 fun e=>
 B4 e 0 fun e=>
 K7 b 1 c fun f g=>
 D10 .add g (.string ⟨#[40]⟩) fun h=>
 Y2 gQ 28 [e,h] c d fun _ d e=>
 wK (tB (tA (tB (cE f none c g)))) (
 K7 b 2 d fun _ b=>
 R4 b 0 d fun c=>
 G3 (fun d e f g=>
 D10 .lss e.a c fun c=>
 B0 c (
 V4 (fun c=>
 B15 b e.a 4 f fun _ b=>
 Q4 [.string ⟨#[]⟩,.int .i64 0,.int .i64 0,.string ⟨#[]⟩] f g fun d f g=>
 D5 d b 4 f fun b=>
 V4 (fun c=>
 D10 .gtr e.a i0 fun d=>
 B0 d (
 C70 a0 fun d=>
 B4 d 0 fun d=>
 Y2 gQ 28 [d,(.string ⟨#[44,32]⟩)] b g fun _ b d=>
 c [] b d) (
 c [] b g)) (fun _ b e=>
 K7 d 0 b fun _ f=>
 D10 .neq f (.string ⟨#[]⟩) fun f=>
 B0 f (
 M2 (e+6) fun e=>
 C70 a0 fun f=>
 B4 f 0 fun f=>
 K7 d 0 b fun d g=>
 Y2 gQ 28 [f,g] b e fun _ e f=>
 wK (tB (tA (tB (cE d none b g)))) (
 c [] e f)) (
 M2 (e+7) fun e=>
 C70 a0 fun f=>
 B4 f 0 fun f=>
 C81 d 1 3 b fun d g=>
 Y2 gQ 59 [g] b e fun e h i=>
 Y2 gQ 28 [f,e] h i fun _ e f=>
 wK (tB (tA (tA (tB (cE d (some 3) b g))))) (
 c [] e f)))) (fun _ b c=>
 D10 .add e.a i1 fun e=>
 d [e] b c)) (
 C70 a0 fun b=>
 B4 b 0 fun b=>
 Y2 gQ 28 [b,(.string ⟨#[41]⟩)] f g fun _ b c=>
 Rt (.tuple ⟨[]⟩) b c k)) [i0] d e))
def F29:Prop:=
 M12 a1 H nx fun b c d=>
 K7 b 0 c fun _ e=>
 R4 e 0 c fun f=>
 G3 (fun c d g h=>
 D10 .lss d.a f fun f=>
 B0 f (
 B15 e d.a 3 g fun _ b=>
 Q4 [.bool false,.string ⟨#[]⟩,.slice none 0 0] g h fun e f g=>
 D5 e b 3 f fun b=>
 V4 (fun c=>
 D10 .gtr d.a i0 fun d=>
 B0 d (
 C70 a0 fun d=>
 B4 d 0 fun d=>
 Y2 gQ 28 [d,(.string ⟨#[44,32]⟩)] b g fun _ b d=>
 c [] b d) (
 c [] b g)) (fun _ b f=>
 J1 e (some 3) b fun e=>
 Y2 gQ 57 [a0,e] b f fun _ b e=>
 D10 .add d.a i1 fun d=>
 c [d] b e)) (
 K7 b 1 g fun _ b=>
 R4 b 0 g fun c=>
 G3 (fun d e f g=>
 D10 .lss e.a c fun c=>
 B0 c (
 B15 b e.a 5 f fun _ b=>
 Q4 [.string ⟨#[]⟩,.int .i64 0,.int .i64 0,.int .i64 0,.string ⟨#[]⟩] f g fun c f g=>
 D5 c b 5 f fun b=>
 M2 (g+17) fun f=>
 C70 a0 fun g=>
 B4 g 0 fun g=>
 K7 c 0 b fun h i=>
 D10 .add (.string ⟨#[44,32]⟩) i fun j=>
 D10 .add j (.string ⟨#[32]⟩) fun j=>
 K7 c 1 b fun l m=>
 Y2 gQ 58 [m] b f fun f n o=>
 D10 .add j f fun f=>
 D10 .add f (.string ⟨#[32]⟩) fun f=>
 C81 c 2 3 n fun c j=>
 Y2 gQ 59 [j] n o fun o p q=>
 D10 .add f o fun f=>
 Y2 gQ 28 [g,f] p q fun _ f g=>
 wK ((tA (tA ((cE c (some 3) n j)/\(tB (cE c (some 3) b j)))))/\((tA (tA (tA (tB (cE l none b m)))))/\(tB (tA ((cE h none p i)/\((cE h none n i)/\(tB (cE h none b i)))))))) (
 D10 .add e.a i1 fun b=>
 d [b] f g)) (
 Rt (.tuple ⟨[]⟩) f g k)) [i0] g h)) [i0] c d
def F27:Prop:=
 M12 a1 H nx fun b c d=>
 C70 a0 fun e=>
 B4 e 0 fun e=>
 Y2 gQ 28 [e,(.string ⟨#[97,110,115,40]⟩)] c d fun _ c d=>
 M2 (d+7) fun d=>
 C70 a0 fun e=>
 B4 e 0 fun e=>
 K7 b 0 c fun f g=>
 Y2 gQ 48 [g,(.string ⟨#[44,32]⟩)] c d fun d h i=>
 Y2 gQ 28 [e,d] h i fun _ d e=>
 wK (tB (tA (tA (tB (cE f none c g))))) (
 V4 (fun c=>
 K7 b 1 d fun _ f=>
 D10 .eql f i1 fun g=>
 B0 g (
 C70 a0 fun b=>
 B4 b 0 fun b=>
 Y2 gQ 28 [b,(.string ⟨#[59,32,99,111,117,110,116]⟩)] d e fun _ b d=>
 c [] b d) (
 D10 .eql f (.int .i64 2) fun g=>
 B0 g (
 M2 (e+7) fun e=>
 C70 a0 fun f=>
 B4 f 0 fun f=>
 K7 b 2 d fun b g=>
 D10 .add (.string ⟨#[59,32,115,117,109,32]⟩) g fun h=>
 Y2 gQ 28 [f,h] d e fun _ e f=>
 wK (tB (tA (tB (cE b none d g)))) (
 c [] e f)) (
 D10 .eql f (.int .i64 3) fun g=>
 B0 g (
 M2 (e+7) fun e=>
 C70 a0 fun f=>
 B4 f 0 fun f=>
 K7 b 2 d fun b g=>
 D10 .add (.string ⟨#[59,32,109,105,110,32]⟩) g fun h=>
 Y2 gQ 28 [f,h] d e fun _ e f=>
 wK (tB (tA (tB (cE b none d g)))) (
 c [] e f)) (
 D10 .eql f (.int .i64 4) fun f=>
 B0 f (
 M2 (e+7) fun e=>
 C70 a0 fun f=>
 B4 f 0 fun f=>
 K7 b 2 d fun b g=>
 D10 .add (.string ⟨#[59,32,109,97,120,32]⟩) g fun h=>
 Y2 gQ 28 [f,h] d e fun _ e f=>
 wK (tB (tA (tB (cE b none d g)))) (
 c [] e f)) (
 c [] d e))))) (fun _ b c=>
 C70 a0 fun d=>
 B4 d 0 fun d=>
 Y2 gQ 28 [d,(.string ⟨#[41,32,58,45,32]⟩)] b c fun _ b c=>
 Rt (.tuple ⟨[]⟩) b c k))
def F12:Prop:=
 M12 a0 H nx fun b c d=>
 J1 b (some 5) c fun e=>
 Y2 gQ 17 [e] c d fun c d e=>
 D10 .neq c i0 fun f=>
 B0 f (
 Rt (.tuple ⟨[(.string ⟨#[]⟩),c]⟩) d e k) (
 J3 (.cells [.pointer none,.slice none 0 0] 97000) .ptr d e fun c d e=>
 J1 b (some 5) d fun f=>
 Y2 gQ 27 [c,f] d e fun _ d e=>
 K7 b 3 d fun _ f=>
 R4 f 0 d fun g=>
 G3 (fun d e h i=>
 D10 .lss e.a g fun g=>
 B0 g (
 B15 f e.a 2 h fun _ b=>
 Q4 [.slice none 0 0,.slice none 0 0] h i fun f g h=>
 D5 f b 2 g fun b=>
 V4 (fun d=>
 D10 .gtr e.a i0 fun e=>
 B0 e (
 B4 c 0 fun c=>
 Y2 gQ 28 [c,(.string ⟨#[32,124,32]⟩)] b h fun _ b c=>
 d [] b c) (
 d [] b h)) (fun _ b g=>
 J1 f (some 2) b fun f=>
 Y2 gQ 29 [c,f] b g fun _ b c=>
 D10 .add e.a i1 fun e=>
 d [e] b c)) (
 K7 b 4 h fun _ b=>
 R4 b 0 h fun d=>
 G3 (fun e f g h=>
 D10 .lss f.a d fun d=>
 B0 d (
 V4 (fun d=>
 B15 b f.a 2 g fun _ b=>
 Q4 [.string ⟨#[]⟩,.bool false] g h fun e g h=>
 D5 e b 2 g fun b=>
 V4 (fun d=>
 D10 .eql f.a i0 fun e=>
 B0 e (
 B4 c 0 fun c=>
 Y2 gQ 28 [c,(.string ⟨#[32,111,114,100,101,114,32]⟩)] b h fun _ b c=>
 d [] b c) (
 B4 c 0 fun c=>
 Y2 gQ 28 [c,(.string ⟨#[44,32]⟩)] b h fun _ b c=>
 d [] b c)) (fun _ b f=>
 B4 c 0 fun g=>
 K7 e 0 b fun _ h=>
 Y2 gQ 28 [g,h] b f fun _ b f=>
 K7 e 1 b fun _ e=>
 B0 e (
 B4 c 0 fun c=>
 Y2 gQ 28 [c,(.string ⟨#[32,100,101,115,99]⟩)] b f fun _ b c=>
 d [] b c) (
 d [] b f))) (fun _ b c=>
 D10 .add f.a i1 fun d=>
 e [d] b c)) (
 B4 c 0 fun b=>
 Y2 gQ 30 [b] g h fun b d e=>
 D10 .gtr b (.int .i64 65536) fun b=>
 B0 b (
 Rt (.tuple ⟨[(.string ⟨#[]⟩),(.int .i64 13)]⟩) d e k) (
 B4 c 0 fun b=>
 Y2 gQ 31 [b] d e fun b c d=>
 Rt (.tuple ⟨[b,i0]⟩) c d k))) [i0] h i)) [i0] d e)
variable {a0 a1 H nx k}
theorem spec58:F58 a0 H nx k->Q2 gQ 58 [a0] H nx k:=Q12 [] [] []
theorem spec90:F90 a0 H nx k->Q2 gQ 90 [a0] H nx k:=Q12 [(7,[3]),(10,[30]),(13,[53])] [[3,15]] [.one (.tst (.one .nil) (.one .nil)),.one (.tst (.one .nil) (.one .nil))]
theorem spec59:F59 a0 H nx k->Q2 gQ 59 [a0] H nx k:=Q12 [] [] []
theorem spec57:F57 a0 a1 H nx k->Q2 gQ 57 [a0,a1] H nx k:=Q12 [(1,[]),(8,[]),(10,[])] [[22]] []
theorem spec29:F29 a0 a1 H nx k->Q2 gQ 29 [a0,a1] H nx k:=Q12 [(7,[])] [[11],[29]] []
theorem spec27:F27 a0 a1 H nx k->Q2 gQ 27 [a0,a1] H nx k:=Q12 [(3,[])] [] []
theorem spec12:F12 a0 H nx k->Q2 gQ 12 [a0] H nx k:=Q12 [(13,[]),(19,[]),(21,[])] [[20],[35]] []
end
end Go.Proofs.YthbdeaeghipliaaGreatDoor
namespace Go.Clo
theorem G130:∀ l:List UInt8,R22 (W5 l)=some l
 | []=>rfl
 | x :: l=>by
  have h:dE x.toNat 256=true:=by have:=x.toNat_lt;exact V6 (show x.toNat+1<=256 by omega)
  have ih:=G130 l;show cond (dE x.toNat 256) (match R22 (W5 l) with | some l=>some (UInt8.ofNat x.toNat :: l) | none=>none) none=_;rw[h,ih];simp
theorem V138{mk:Bool}{H:Y0}{nx:Nat}{v:Value}{l:List UInt8}(hv:BB mk H nx v l)(k:VP):X16 v H k=k (.string ⟨l.toArray⟩):=by
 rcases hv with ⟨rfl,rfl⟩ | ⟨g,c,sl,hg,rfl,h4,J,B,E⟩
 .rfl
 .unfold X16 B19
  dsimp only;rw[Y4,h4];simp only[aN,bW];rw[R23 B];dsimp only;rw[V14,E,G130]
theorem Z146{mk:Bool}{H:Y0}{nx q m:Nat}{v:Value}{l new:List UInt8}{n c:Nat}{k:EP}(hn:new.length=n)(h0:0<n)(hq:nx<=q)(hm:q<m)(hv:BB mk H nx v l)(hb:l.length+n<=1000000)(hk:∀ v' H' nx',BB mk H' nx' v' (l++new)->nx<=nx'->(K78 v'=K78 v\/∃ g,nx<=g/\K78 v'=some g)->(∀ i,i<nx->K78 v≠some i->J0 H' i=J0 H i)->k v' H' nx'):
  G112 v (.slice (some ⟨q,0,none⟩) n c) 6 1 1 (hs H q (O7 (W5 new))) m k:=by
 subst hn;have B:BB mk (hs H q (O7 (W5 new))) m v l:=hv.ext O0 fun g _ hg=>gN _
 refine U135 B (J9 (Z11 _ _ _) (by simp[K34]) O0) hb ?_;intro v' H' nx' h1 h2 h3 h4;refine hk v' H' nx' h1 O0 (h3.imp id fun e=>⟨_,O0,e⟩) fun i hi E => ?_
 rw[h4 i O0 E,gN _]
theorem M137{x:Nat}(h:x<256):IntKind.u8.wrap (x:Int)=(x:Int):=by
 simp[eY,dW,eK];omega
theorem B133{x:Nat}(k:VP):D10 .shr (.int .u8 (x:Int)) (.int .u64 4) k=k (.int .u8 ((x/16:Nat):Int)):=by
 rw[X6];show k (.int .u8 ((x:Int).fdiv 16))=_;rw[Int.fdiv_eq_ediv_of_nonneg _ O0]
 rfl
theorem M130{x:Nat}(h:x<256)(k:VP):D10 .and (.int .u8 (x:Int)) (.int .u8 15) k=k (.int .u8 ((x%16:Nat):Int)):=by
 rw[X6];show k (.int .u8 (IntKind.u8.wrap ((cT 8 (x:Int) &&& cT 8 ((15:Nat):Int)).toNat:Int)))=_;rw[W10,W10,BitVec.toNat_and,eP,eP,bV (by simpa using h),show 15%2^8=2^4-1 from rfl,Nat.and_two_pow_sub_one_eq_mod,M137 O0]
end Go.Clo
namespace Go.Proofs.YthbdeaeghipliaaGreatDoor
open Go.Clo
theorem K132{s:ByteArray}{i:Nat}{c:UInt8}(h:s[i]? = some c)(K:IntKind)(k:VP):D9 .sidx [.string s,.int K (i:Int)] k=k (.int .u8 (c.toNat:Int)):=by
 have e:VF.ev .sidx [.string s,.int K (i:Int)]=some (.int .u8 (c.toNat:Int)):=by
  show J52 s (i:Int)=_;unfold J52;rw[if_pos O0,gR,h];rfl
 unfold D9;rw[e,J8];rfl
def Q21:ByteArray:=⟨#[48,49,50,51,52,53,54,55,56,57,97,98,99,100,101,102]⟩
def D14(n:Nat):UInt8:=Q21[n]?.getD 0
theorem N137{n:Nat}(h:n<16):Q21[n]? = some (D14 n):=by
 have:Q21.size=16:=rfl;unfold D14;rw[getElem?_pos Q21 n O0]
 rfl
def qb(c:UInt8):List UInt8:=if c.toNat=34\/c.toNat=92 then [92,c] else if c.toNat=10 then [92,110] else if c.toNat=9 then [92,116] else if 32<=c.toNat/\c.toNat<=126 then [c] else [92,120,D14 (c.toNat/16),D14 (c.toNat%16)]
def K10(l:List UInt8):List UInt8:=34 :: l.flatMap qb
def W128(s:ByteArray):ByteArray:=⟨(K10 s.data.toList++[34]).toArray⟩
theorem G148(c:UInt8):(qb c).length<=4:=by
 unfold qb
 repeat' split
 all_goals simp
theorem Z141(l:List UInt8)(c:UInt8):K10 (l++[c])=K10 l++qb c:=by simp[K10]
theorem W136:∀ l:List UInt8,(K10 l).length<=4*l.length+1:=by
 intro l;unfold K10;rw[cV];have:(l.flatMap qb).length<=4*l.length:=by
  induction l with
  | nil=>simp
  | cons c l ih=>
   have:=G148 c;simp only[List.flatMap_cons,bH,cV];omega
 omega
theorem V137(s:ByteArray):(W128 s).size<=4*s.size+2:=by
 have h:=W136 s.data.toList;have e:(W128 s).size=(K10 s.data.toList).length+1:=by simp[W128,ByteArray.size]
 have e2:s.data.toList.length=s.size:=rfl;omega
structure QI (H0:Y0) (n0:Nat) (l:List UInt8) (v:Value) (H:Y0) (nx:Nat):Prop where
 bb:BB true H nx v l
 ext:D0 H0 n0 H nx
 buf:∀ g,K78 v=some g->n0<=g
theorem QI.app{H0:Y0}{n0:Nat}{l:List UInt8}{v:Value}{H:Y0}{nx:Nat}(q:QI H0 n0 l v H nx){new:List UInt8}{n c z m:Nat}{k:EP}(hn:new.length=n)(h0:0<n)(hb:l.length+n<=1000000)(hz:nx<=z)(hm:z<m)(hk:∀ v' H' nx',QI H0 n0 (l++new) v' H' nx'->k v' H' nx'):G112 v (.slice (some ⟨z,0,none⟩) n c) 6 1 1 (hs H z (O7 (W5 new))) m k:=by
 refine Z146 hn h0 hz hm q.bb hb fun v' H' nx' h1 h2 h3 h4=>hk v' H' nx' ⟨h1,⟨bK q.ext.le h2,fun i hi => ?_⟩,fun g hg => ?_⟩
 .have:=q.ext.le
  rw[h4 i O0 (fun e=>by have:=q.buf i e;omega),q.ext.get i hi]
 .rcases h3 with e | ⟨g',hg',e⟩
  .exact q.buf g (by rw[<- e];exact hg)
  .rw[e] at hg;injection hg with hg;have:=q.ext.le;omega
theorem D125(z y:Value)(x:UInt8)(h:y = .int .u8 (x.toNat:Int))(k:List Value->Prop):K6 1 1 [z] [(0,y)] k=k (W5 [x]):=by subst h;rfl
theorem E128(z y1 y2:Value)(x1 x2:UInt8)(h1:y1 = .int .u8 (x1.toNat:Int))(h2:y2 = .int .u8 (x2.toNat:Int))(k:List Value->Prop):K6 2 1 [z] [(0,y1),(1,y2)] k=k (W5 [x1,x2]):=by subst h1 h2;rfl
theorem E137(z y1 y2 y3 y4:Value)(x1 x2 x3 x4:UInt8)(h1:y1 = .int .u8 (x1.toNat:Int))(h2:y2 = .int .u8 (x2.toNat:Int))(h3:y3 = .int .u8 (x3.toNat:Int))(h4:y4 = .int .u8 (x4.toNat:Int))(k:List Value->Prop):
  K6 4 1 [z] [(0,y1),(1,y2),(2,y3),(3,y4)] k=k (W5 [x1,x2,x3,x4]):=by subst h1 h2 h3 h4;rfl
theorem Y149{n:Nat}(h:n<=1000000)(k:List Value->Nat->Nat->Prop):D30 (O8 0) (O8 (n:Int)) [.int .u8 0] k=k (aF n (.int .u8 0)) 0 n:=by
 have e:∀ n,Q19 [cD .u8 0] n=aF n (.int .u8 0):=by
  intro n
  induction n with
  | zero=>rfl
  | succ n ih=>rw[List.replicate_succ,<- ih];rfl
 show cond (dD 0 n&&dD n 1000000) (Go.Clo.spine (Q19 [cD .u8 0] n) fun cs=>k cs 0 n) False=_;rw[V6 (aL n),V6 h,V14,e]
 rfl
theorem G147(s:ByteArray)(H:Y0)(nx:Nat)(W:s.size<=100):Q2 gQ 90 [.string s] H nx fun r H' nx' => .string (W128 s)=r/\D0 H nx H' nx':=by
 refine spec90 ?_;unfold F90;have e2:(s.size:Int)+2=((s.size+2:Nat):Int):=O0;simp(disch:=try exact O3)only[W0,Q0.val,e2,Y149 (show s.size+2<=1000000 by omega),D125 (.int .u8 0) (.int .u8 34) 34 rfl];have q0:QI H nx [] (.slice (some ⟨nx,0,none⟩) 0 (s.size+2)) (hs H nx (O7 (aF (s.size+2) (.int .u8 0)))) (nx+1):=
  ⟨.inr ⟨nx,aF (s.size+2) (.int .u8 0),0,O0,by rw[iC];rfl,Z11 _ _ _,.inr ⟨rfl,rfl⟩,aL _,rfl⟩,(D0.refl H nx).nw _,fun g hg=>by injection hg with hg;simp only at hg;omega⟩
 refine q0.app (new:=[34]) rfl O0 O2 (aD _) O0 ?_;intro v1 H1 n1 q1;refine B1 (fun m L H' nx'=>∃(i:Nat) (v:Value),m+i=s.size/\L=[v,O8 (i:Int)]/\QI H nx (K10 (s.data.toList.take i)) v H' nx') ?_ (m:=s.size) ⟨0,v1,O0,rfl,q1⟩;rintro m ih L H2 n2 ⟨i,v,hm,rfl,q⟩ U;have J:=W136 (s.data.toList.take i);have V:s.data.toList.length=s.size:=rfl;have J:(K10 (s.data.toList.take i)).length<=401:=by rw[cK] at J;omega
 by_cases hi:i<s.size
 .have E:(i:Int)<(s.size:Int):=O0
  obtain⟨c,hc,R⟩:∃ c,s[i]? = some c/\s.data.toList[i]? = some c:=⟨s[i],getElem?_pos s i hi,by rw[cL];exact getElem?_pos s.data i hi⟩
  have ec:=fun k=>K132 hc .i64 k
  have O:=c.toNat_lt;have M:K10 (s.data.toList.take (i+1))=K10 (s.data.toList.take i)++qb c:=by rw[List.take_add_one,R];exact Z141 _ _
  simp(disch:=try exact O3)only[W0,E,ec];refine N5 (fun L H' nx'=>∃ v',L=[v']/\QI H nx (K10 (s.data.toList.take (i+1))) v' H' nx') ?_ ?_
  .intro j hj
   have B:∀ v' H' nx',QI H nx (K10 (s.data.toList.take i)++qb c) v' H' nx'->j [v'] H' nx':=fun v' H' nx' h=>hj _ _ _ ⟨v',rfl,by rw[M];exact h⟩
   clear hj
   by_cases h1:c.toNat=34\/c.toNat=92
   .have eq:qb c=[92,c]:=if_pos h1
    rw[eq] at B;rcases h1 with h | h
    .have d1:decide ((c.toNat:Int)=34)=true:=by simp[h]
     simp(disch:=try exact O3)only[W0,N13,d1,E128 (.int .u8 0) (.int .u8 92) _ 92 c rfl rfl];exact q.app rfl O0 O0 (aD _) O0 B
    .have d1:decide ((c.toNat:Int)=34)=false:=by simp[h]
     have d2:decide ((c.toNat:Int)=92)=true:=by simp[h]
     simp(disch:=try exact O3)only[W0,N13,d1,d2,E128 (.int .u8 0) (.int .u8 92) _ 92 c rfl rfl];exact q.app rfl O0 O0 (aD _) O0 B
   have d1:decide ((c.toNat:Int)=34)=false:=by simp;omega
   have d2:decide ((c.toNat:Int)=92)=false:=by simp;omega
   by_cases h2:c.toNat=10
   .have eq:qb c=[92,110]:=by unfold qb;rw[if_neg h1,if_pos h2]
    rw[eq] at B;have d3:decide ((c.toNat:Int)=10)=true:=by simp[h2]
    simp(disch:=try exact O3)only[W0,N13,d1,d2,d3,E128 (.int .u8 0) (.int .u8 92) (.int .u8 110) 92 110 rfl rfl];exact q.app rfl O0 O0 (aD _) O0 B
   have d3:decide ((c.toNat:Int)=10)=false:=by simp;omega
   by_cases h3:c.toNat=9
   .have eq:qb c=[92,116]:=by unfold qb;rw[if_neg h1,if_neg h2,if_pos h3]
    rw[eq] at B;have d4:decide ((c.toNat:Int)=9)=true:=by simp[h3]
    simp(disch:=try exact O3)only[W0,N13,d1,d2,d3,d4,E128 (.int .u8 0) (.int .u8 92) (.int .u8 116) 92 116 rfl rfl];exact q.app rfl O0 O0 (aD _) O0 B
   have d4:decide ((c.toNat:Int)=9)=false:=by simp;omega
   by_cases h4:32<=c.toNat/\c.toNat<=126
   .have eq:qb c=[c]:=by unfold qb;rw[if_neg h1,if_neg h2,if_neg h3,if_pos h4]
    rw[eq] at B;have d5:decide ((32:Int)<=(c.toNat:Int))=true:=by simp;omega
    have d6:decide ((c.toNat:Int)<=126)=true:=by simp;omega
    simp(disch:=try exact O3)only[W0,N13,d1,d2,d3,d4,d5,d6,D125 (.int .u8 0) _ c rfl];exact q.app rfl O0 O0 (aD _) O0 B
   .have eq:qb c=[92,120,D14 (c.toNat/16),D14 (c.toNat%16)]:=by unfold qb;rw[if_neg h1,if_neg h2,if_neg h3,if_neg h4]
    rw[eq] at B;have x1:=fun k=>K132 (N137 (n:=c.toNat/16) O0) .u8 k
    have x2:=fun k=>K132 (N137 (n:=c.toNat%16) O0) .u8 k
    have eh:(⟨#[48,49,50,51,52,53,54,55,56,57,97,98,99,100,101,102]⟩:ByteArray)=Q21:=rfl
    by_cases h5:32<=c.toNat
    .have d5:decide ((32:Int)<=(c.toNat:Int))=true:=by simp;omega
     have d6:decide ((c.toNat:Int)<=126)=false:=by simp;omega
     simp(disch:=try exact O3)only[W0,N13,d1,d2,d3,d4,d5,d6,eh,B133,M130 O,x1,x2,E137 (.int .u8 0) (.int .u8 92) (.int .u8 120) _ _ 92 120 (D14 (c.toNat/16)) (D14 (c.toNat%16)) rfl rfl rfl rfl];exact q.app rfl O0 O0 O0 O0 B
    .have d5:decide ((32:Int)<=(c.toNat:Int))=false:=by simp;omega
     simp(disch:=try exact O3)only[W0,N13,d1,d2,d3,d4,d5,eh,B133,M130 O,x1,x2,E137 (.int .u8 0) (.int .u8 92) (.int .u8 120) _ _ 92 120 (D14 (c.toNat/16)) (D14 (c.toNat%16)) rfl rfl rfl rfl];exact q.app rfl O0 O0 O0 O0 B
  .rintro _ H3 n3 ⟨v',rfl,q3⟩
   simp(disch:=try exact O3)only[W0];exact U (m-1) _ _ _ O0 ⟨i+1,v',O0,O2,q3⟩
 .have E:¬ (i:Int)<(s.size:Int):=O0
  have Q:s.data.toList.take i=s.data.toList:=gJ (by show s.size<=i;omega);rw[Q] at q;simp(disch:=try exact O3)only[W0,E];refine q.app (new:=[34]) rfl O0 (by rw[Q] at J;omega) (aD _) O0 ?_;intro v' H3 n3 q3;rw[V138 q3.bb];exact⟨rfl,q3.ext⟩
section
variable {H:Y0} {l:List UInt8} {n nx:Nat} {v:Value}
def Y131(l:List UInt8)(i j:Nat):List UInt8:=(l.set i (l.getD j 0)).set j (l.getD i 0)
def rvL:Nat->Nat->List UInt8->List UInt8
 | 0,_,l=>l
 | f+1,i,l=>if i<l.length-1-i then rvL f (i+1) (Y131 l i (l.length-1-i)) else l
def V23(l:List UInt8):List UInt8:=rvL l.length 0 l
theorem R133(l:List UInt8)(i j:Nat):(Y131 l i j).length=l.length:=by simp[Y131]
theorem C137:∀(f i:Nat) (l:List UInt8),(rvL f i l).length=l.length
 | 0,_,_=>rfl
 | f+1,i,l=>by
  unfold rvL
  split
  .rw[C137,R133]
  .rfl
theorem G143{f i:Nat}(h:¬ i<l.length-1-i):rvL f i l=l:=by
 cases f with
 | zero=>rfl
 | succ f=>rw[rvL,if_neg h]
theorem Y138(l:List UInt8)(i:Nat)(x:UInt8):W5 (l.set i x)=(W5 l).set i (.int .u8 (x.toNat:Int)):=by simp[W5,List.map_set]
theorem Z150{mk:Bool}(h:BB mk H nx v l)(h0:0<l.length)(hl:l.length<=1000000):
  Q2 gQ 91 [v] H nx fun r H' nx'=>nx<=nx'/\BB mk H' nx' v (V23 l)/\∀ i,K78 v≠some i->J0 H' i=J0 H i:=by
 rcases h with ⟨_,rfl⟩ | ⟨g,c,sl,hg,rfl,h4,a1,V,W⟩
 .simp at h0
 refine spec91 ?_;unfold F91;simp(disch:=try exact O3)only[W0];refine B1 (m:=l.length) (fun m L H' nx'=>∃(i:Nat) (cc:List Value) (B:List UInt8),m+i=l.length/\L=[O8 (i:Int),O8 ((l.length:Int)-1-i)]/\cc.length=c.length/\B.length=l.length/\cc.take l.length=W5 B/\rvL m i B=V23 l/\nx<=nx' /\
  J0 H' g=some (.cells cc sl)/\∀ i,i≠g->J0 H' i=J0 H i) ?_ ⟨0,c,l,O0,O2,rfl,rfl,W,rfl,aD _,h4,fun _ _=>rfl⟩
 rintro m ih L H1 n1 ⟨i,cc,B,hm,rfl,M,E,O,J,Y,U,R⟩ a0
 by_cases hi:i<l.length-1-i
 .have Q:(i:Int)<(l.length:Int)-1-(i:Int):=O0
  obtain⟨m,rfl⟩:∃ m',m=m'+1:=⟨m-1,O0⟩
  have ej:(l.length:Int)-1-(i:Int)=((l.length-1-i:Nat):Int):=O0;have gi:∀ q,q<l.length->cc[q]? = some (.int .u8 ((B.getD q 0).toNat:Int)):=fun q hq=>by
   have h1:(cc.take l.length)[q]? = cc[q]? := by rw[aX,if_pos hq]
   rw[<- h1,O,B137 (l:=B) (i:=q) (x:=B.getD q 0)];rw[aP,aE O0]
   rfl
  have g1:=gi i O0;have g2:=gi (l.length-1-i) O0;have j0:(0:Int)<=((l.length-1-i:Nat):Int):=O0;have j1:((l.length-1-i:Nat):Int)<(l.length:Int):=O0;have i1:(i:Int)<(l.length:Int):=O0;have Z:(i:Int)<((l.length-1-i:Nat):Int):=O0;generalize hj:l.length-1-i=j at *
  rw[ej];simp(disch:=try exact O3)only[W0,U,g1,g2,Z];rw[Q87 (show i<cc.length by omega),Q87 (show j<(cc.set i _).length by rw[dO];omega)];refine⟨O0,by rw[dO];omega,a0 m _ _ _ O0 ⟨i+1,_,Y131 B i j,O0,?_,?_,by rw[R133];exact E,?_,?_,O0,Z11 _ _ _,fun q hq => ?_⟩⟩
  .congr 1
   congr 1;congr 1;omega
  .rw[dO,dO];exact M
  .rw[List.take_set,List.take_set,O,Y131,Y138,Y138]
  .rw[rvL,if_pos (by rw[E,hj];exact hi),E,hj] at J
   exact J
  .rw[Z1 _ hq,Z1 _ hq,R q hq]
 .have Q:¬ (i:Int)<(l.length:Int)-1-(i:Int):=O0
  simp(disch:=try exact O3)only[W0,Q];rw[G143 (by rw[E];exact hi)] at J;subst J;exact⟨Y,.inr ⟨g,cc,sl,O0,by rw[M,E],U,a1,by rw[M,E];exact V,by rw[E];exact O⟩,fun i hi=>R i (fun e=>hi (by rw[e];rfl))⟩
def E10:Nat->Nat->List UInt8
 | 0,_=>[]
 | f+1,g=>UInt8.ofNat (48+g%10) :: if g/10=0 then [] else E10 f (g/10)
theorem Y130:∀(f g:Nat),(E10 f g).length<=f
 | 0,_=>aD _
 | f+1,g=>by
  unfold E10;have:=Y130 f (g/10)
  split<;>simp<;>omega
def V51(n:Nat):ByteArray:=if n=0 then ⟨#[48]⟩ else ⟨(V23 (E10 9 n)).toArray⟩
theorem X125(n:Nat):(V51 n).size<=9:=by
 unfold V51
 split
 .decide
 .have:=Y130 9 n
  show(V23 (E10 9 n)).toArray.size<=9;rw[List.size_toArray,V23,C137];exact this
theorem J143{v:Value}(h:NN H nx v n)(hl:(D11 n).length<1000000)(h0:0<n):
  Q2 gQ 51 [v] H nx fun v H' nx'=>∃ q,nx<=q/\q<nx'/\v = .slice (some ⟨q,0,none⟩) (D11 n).length (D11 n).length/\J0 H' q=some (.cells (K12 (D11 n)) 1)/\D0 H nx H' nx':=by
 obtain⟨A,c,rfl,hD⟩:=h;refine spec51 ?_;unfold F51;refine R0 (Y69 hD hl) ?_;rintro _ _ _ ⟨rfl,rfl,rfl⟩;refine R0 (Y103 hD.self hl h0) ?_;rintro v H' nx' h;simp only[J80,Y5];exact h
theorem W135(h:NN H nx v n)(hn:n<1000000000):Q2 gQ 61 [v] H nx fun r H' nx' => .string (V51 n)=r/\D0 H nx H' nx':=by
 refine spec61 ?_;unfold F61
 by_cases h0:n=0
 .subst h0
  refine R0 (U97 h (by rw[D20];decide)) ?_;rintro _ H1 n1 ⟨⟨A,c,rfl,_⟩,hE⟩;rw[D20];simp(disch:=try exact O3)only[W0,Q0.val];exact⟨rfl,hE⟩
 have M:0<n:=O0;have hd:D11 n=[n]:=by rw[M74 M,bV O0,Nat.div_eq_of_lt O0,D20]
 refine R0 (J143 h (by rw[hd];simp) M) ?_;rintro _ H1 n1 ⟨q,ak,ab,rfl,hg,hE⟩;rw[hd] at hg ⊢;have hv:val [n]=n:=by simp[val]
 have ah:U14 [n]:=fun e he=>by rw[dJ.1 he];omega
 simp(disch:=try exact O3)only[W0,Q0.val];refine B1 (m:=2) (fun m L H' nx'=>∃(z:Nat) (v:Value) (l:List UInt8),L=[.slice (some ⟨q,0,none⟩) z z,v]/\QI H nx l v H' nx'/\((m=2/\z=1/\l=[]/\v=O6/\q<nx'/\J0 H' q=some (.cells (K12 [n]) 1))\/(m=1/\z=0/\l=E10 9 n))) ?_
  ⟨1,_,[],rfl,⟨.inl ⟨rfl,rfl⟩,hE,fun g hg=>by cases hg⟩,.inl ⟨rfl,rfl,rfl,rfl,ab,hg⟩⟩
 rintro m ih L H2 n2 ⟨z,v2,l,rfl,hQ,U⟩ Z;rcases U with ⟨rfl,rfl,rfl,rfl,R,ad⟩ | ⟨rfl,rfl,rfl⟩
 .simp(disch:=try exact O3)only[W0]
  refine R0 (E93 (d:=1000000000) (ds:=[n]) R ad ah O2 O0 O0) ?_;rintro _ H3 _ ⟨rfl,rfl,a5,qs,V,O,ae,Y⟩;rw[hv,bV hn];rw[hv,Nat.div_eq_of_lt hn] at Y;have hD:Dg H3 n2 (some ⟨q,0,none⟩) 1 qs:=⟨fun i u hu=>⟨q,0,_,rfl,R,by rw[Q5,V];rfl,by rw[cF];exact hu⟩,.inr ⟨q,0,_,rfl,R,.inr ⟨1,.inr rfl,V⟩⟩,ae,by rw[O];simp⟩
  have a3:=R86 hD (by rw[O];simp);rw[O,Y,D20] at a3;refine R0 a3 ?_;rintro _ _ _ ⟨rfl,rfl,rfl⟩;have a7:D0 H nx H3 n2:=⟨hQ.ext.le,fun i hi=>by rw[a5 i O0,hQ.ext.get i hi]⟩
  simp(disch:=try exact O3)only[W0];refine B1 (m:=9) (fun m L H' nx'=>∃(i g:Nat) (v:Value) (l:List UInt8),m+i=9/\g<4294967296/\l.length<=i/\L=[v,O9 (g:Int),O8 (i:Int)]/\QI H nx l v H' nx'/\l++(if 0<i/\g=0 then [] else E10 m g)=E10 9 n) ?_
   ⟨0,n,_,[],O0,O0,O2,rfl,⟨.inl ⟨rfl,rfl⟩,a7,fun g hg=>by cases hg⟩,O2⟩
  rintro m a4 L H4 n4 ⟨i,g,v4,l4,hm,al,aj,rfl,Q,B⟩ a1
  by_cases h9:i<9
  .have J:(i:Int)<9:=O0
   obtain⟨m,rfl⟩:∃ m',m=m'+1:=⟨m-1,O0⟩
   by_cases W:0<i/\g=0
   .obtain⟨a2,rfl⟩:=W
    have E:(0:Int)<(i:Int):=O0;rw[if_pos ⟨a2,rfl⟩,gV] at B;simp(disch:=try exact O3)only[W0,J,E,N13];exact Z 1 _ _ _ O0 ⟨0,v4,l4,rfl,Q,.inr ⟨rfl,rfl,B⟩⟩
   .rw[if_neg W] at B
    have hb:(48+g%10)<256:=O0;have ag:((UInt8.ofNat (48+g%10)).toNat:Int)=((48+g%10:Nat):Int):=by
     rw[UInt8.toNat_ofNat',bV O0]
    have x1:∀ k:VP,D10 .rem (O9 (g:Int)) (O9 10) k=k (O9 ((g%10:Nat):Int)):=fun k=>by
     rw[Z62 _ _ _ _ O0];congr 2
    have x2:∀ k:VP,D10 .add (O9 48) (O9 ((g%10:Nat):Int)) k=k (O9 ((48+g%10:Nat):Int)):=fun k=>by
     rw[Z63,show(48:Int)+((g%10:Nat):Int)=((48+g%10:Nat):Int) by omega,D15 O0]
    have x3:∀ k:VP,W8 .u8 (O9 ((48+g%10:Nat):Int)) k=k (.int .u8 ((UInt8.ofNat (48+g%10)).toNat:Int)):=fun k=>by
     rw[Z32,M137 hb,ag]
    have x4:∀ k:VP,D10 .quo (O9 (g:Int)) (O9 10) k=k (O9 ((g/10:Nat):Int)):=fun k=>by
     rw[E105 _ _ _ _ O0,show(g:Int).tdiv 10=((g/10:Nat):Int) from rfl,D15 O0]
    have a0:G112 v4 (.slice (some ⟨n4,0,none⟩) 1 1) 6 1 1 (hs H4 n4 (O7 (W5 [UInt8.ofNat (48+g%10)]))) (n4+1) fun b e f=>a4 [b,O9 ((g/10:Nat):Int),O8 ((i:Int)+1)] e f:=by
     refine Q.app rfl O0 O0 (aD _) O0 ?_;intro v5 H5 n5 af;refine a1 m _ _ _ O0 ⟨i+1,g/10,v5,_,O0,O0,by simp;omega,O2,af,?_⟩;rw[<- B,E10,bM];simp
    by_cases a2:0<i
    .have E:(0:Int)<(i:Int):=O0
     have dg:decide ((g:Int)=0)=false:=by simp;omega
     simp(disch:=try exact O3)only[W0,J,E,N13,dg,x1,x2,x3,x4,D125 (.int .u8 0) _ (UInt8.ofNat (48+g%10)) rfl];exact a0
    .have E:¬ (0:Int)<(i:Int):=O0
     simp(disch:=try exact O3)only[W0,J,E,N13,x1,x2,x3,x4,D125 (.int .u8 0) _ (UInt8.ofNat (48+g%10)) rfl];exact a0
  .have J:¬ (i:Int)<9:=O0
   have ai:m=0:=O0;subst ai;have:l4=E10 9 n:=by
    rw[<- B]
    split<;>simp[E10]
   simp(disch:=try exact O3)only[W0,J];exact Z 1 _ _ _ O0 ⟨0,v4,l4,rfl,Q,.inr ⟨rfl,rfl,this⟩⟩
 .have hl:=Y130 9 n
  have a6:0<(E10 9 n).length:=by rw[E10];simp
  simp(disch:=try exact O3)only[W0];refine R0 (Z150 hQ.bb a6 O0) ?_;rintro r H3 n3 ⟨a8,aa,a9⟩;rw[V138 aa];refine⟨by rw[V51,if_neg h0],bK hQ.ext.le a8,fun i hi => ?_⟩;rw[a9 i (fun e=>by have:=hQ.buf i e;omega),hQ.ext.get i hi]
end
section
variable {d n:Nat}
theorem N86(neg a b:Bool)(k:VP):D9 (.eqb neg) [.bool a,.bool b] k=k (.bool (cond neg (!(a==b)) (a==b))):=by
 unfold D9;rw[J8];rfl
theorem E95{n:Int}(h1 : -1000000<=n)(h2:n<=1000000)(H:Y0)(nx:Nat):Q2 gQ 25 [O8 n] H nx fun r H' nx'=>NN H' nx' r n.natAbs/\D0 H nx H' nx':=by
 refine spec25 ?_;unfold F25
 by_cases B:n<0
 .obtain⟨m,rfl⟩:∃ m:Nat,n = -(m:Int):=⟨n.natAbs,O0⟩
  have hm:0<m:=O0;have e1:∀ k:VP,W8 .u64 (O8 (-(m:Int))) k=k (.int .u64 ((18446744073709551616-m:Nat):Int)):=fun k=>by
   rw[Z32];congr 2;simp only[eY,eK,dW];simp;omega
  have e2:∀ k:VP,C5 .neg (.int .u64 ((18446744073709551616-m:Nat):Int)) k=k (.int .u64 (m:Int)):=fun k=>by
   unfold C5;rw[J8];have:unV .neg (.int .u64 ((18446744073709551616-m:Nat):Int))=some (.int .u64 (IntKind.u64.wrap (0-((18446744073709551616-m:Nat):Int)))):=rfl;rw[this];simp only[aN];congr 2;simp only[eY,eK,dW];simp;omega
  have E : -(m:Int)<0:=B;simp(disch:=try exact O3)only[W0,E,e1,e2];refine R0 (R81 (n:=m) O0 H nx) ?_;rintro r H1 J ⟨hr,hE⟩;rw[show(-(m:Int)).natAbs=m by omega];exact⟨hr,hE⟩
 .obtain⟨m,rfl⟩:∃ m:Nat,n=(m:Int):=⟨n.natAbs,O0⟩
  simp(disch:=try exact O3)only[W0,B,U22 _ (show m<18446744073709551616 by omega)];refine R0 (R81 (n:=m) O0 H nx) ?_;rintro r H1 J ⟨hr,hE⟩;exact⟨hr,hE⟩
def RS(H:Y0)(nx:Nat)(v:Value)(s:Bool)(n d:Nat):Prop:=RT H nx v s n d/\n<=128/\d<=128
theorem M121(h:n<=128):(D11 n).length<400000:=iF (E29 (k:=1) O0) O0
theorem Y141(hn:n<=128)(hd:d<=128):G86 n d<=128/\K87 n d<=128:=by
 unfold G86 K87
 split
 .omega
 .exact⟨bK (Nat.div_le_self _ _) hn,bK (Nat.div_le_self _ _) hd⟩
theorem N146(a c:Int)(ha : -128<=a/\a<=127)(hc : -128<=c/\c<=127)(H:Y0)(nx:Nat):
  Q2 gQ 10 [O8 a,O8 c] H nx fun r H' nx'=>(∃ v e s n d,r = .tuple ⟨[v,O8 e]⟩/\RS H' nx' v s n d)/\D0 H nx H' nx':=by
 refine spec10 ?_;unfold F10;have hE:D0 H nx (hs H nx (O7 [.bool false,O6,O6])) (nx+1):=(D0.refl H nx).nw _;have hg:J0 (hs H nx (O7 [.bool false,O6,O6])) nx=O7 [.bool false,O6,O6]:=Z11 _ _ _
 by_cases h0:c=0
 .have d0:decide (c=0)=true:=by simp[h0]
  have eb:∀ k:VP,U11 [.bool false,O6,O6] [(0,1),(1,1),(2,1)] [] k=k (.agg ⟨[.bool false,O6,O6]⟩):=fun k=>V14 _ _
  simp(disch:=try exact O3)only[W0,Z0,Q0.val,Nat.reduceAdd,d0,eb,D7,Y12];exact⟨⟨_,_,false,0,0,rfl,⟨_,_,rfl,Y90 _ _,Y90 _ _⟩,O0,O0⟩,hE.h0⟩
 .have d0:decide (c=0)=false:=by simp[h0]
  simp(disch:=try exact O3)only[W0,Q0.val,d0,N86];generalize hs H nx (O7 [.bool false,O6,O6])=H1 at hE hg ⊢;refine R0 (E95 (n:=a) O0 O0 _ _) ?_;rintro x H2 n2 ⟨hx,M⟩;refine R0 (E95 (n:=c) O0 O0 _ _) ?_;rintro y H3 n3 ⟨hy,J⟩;have L:=hx.ext J;obtain⟨X,cX,rfl,_⟩:=id hx;obtain⟨Y,cY,rfl,_⟩:=id hy;rw[W65];have hl:=Y141 (n:=a.natAbs) (d:=c.natAbs) O0 O0;refine R0 (B97 ⟨_,_,rfl,L,hy⟩ (M121 O0) (M121 O0)) ?_;rintro r H4 n4 ⟨hr,O⟩;have B:=M.trans (J.trans O);have E:J0 H4 nx=O7 [.bool false,O6,O6]:=by rw[B.gt nx,hg]
  obtain⟨u,w,rfl,hu,hw⟩:=id hr;obtain⟨U,cU,rfl,_⟩:=id hu;obtain⟨W,cW,rfl,_⟩:=id hw;simp(disch:=try exact O3)only[W0,Z0,Nat.reduceAdd,E,D7,Y12];exact⟨⟨_,_,_,_,_,rfl,⟨_,_,rfl,NN.box hu E (E46 _ _ _ _ _ _ _),NN.box hw E (E46 _ _ _ _ _ _ _)⟩,hl.1,hl.2⟩,(hE.trans B).h0⟩
def Q15(s:Bool)(n d:Nat):ByteArray:=(if B85 s n d=true then ⟨#[45]⟩ else ⟨#[]⟩)++(if C14 (K87 n d)=1 then U26 [V51 (G86 n d)] ⟨#[47]⟩ else U26 [V51 (G86 n d),V51 (K87 n d)] ⟨#[47]⟩)
theorem R140(a b z:ByteArray)(k:List Value->Prop):K6 2 1 [.string z] [(0,.string a),(1,.string b)] k=k [.string a,.string b]:=rfl
theorem Y133(a sep:ByteArray):(U26 [a] sep).size<=a.size:=by
 unfold U26;rw[aC,List.map_nil,Lib.join_one];exact aD _
theorem B132(a b sep:ByteArray):(U26 [a,b] sep).size<=a.size+sep.size+b.size:=by
 have e:bP sep.data.toList [b.data.toList]=sep.data.toList++b.data.toList:=by simp[bP]
 unfold U26;rw[aC,aC,List.map_nil,Lib.join_cons,e];show(a.data.toList++(sep.data.toList++b.data.toList)).toArray.size<=a.data.size+sep.data.size+b.data.size;simp;omega
theorem B127(s:Bool)(n d:Nat):(Q15 s n d).size<=20:=by
 unfold Q15;have h1:=X125 (G86 n d);have h2:=X125 (K87 n d);have h3:=Y133 (V51 (G86 n d)) ⟨#[47]⟩;have h4:=B132 (V51 (G86 n d)) (V51 (K87 n d)) ⟨#[47]⟩;have h5:(⟨#[47]⟩:ByteArray).size=1:=rfl;have h6:(if B85 s n d=true then(⟨#[45]⟩:ByteArray) else ⟨#[]⟩).size<=1:=by split<;>decide
 have h7:(if C14 (K87 n d)=1 then U26 [V51 (G86 n d)] ⟨#[47]⟩ else U26 [V51 (G86 n d),V51 (K87 n d)] ⟨#[47]⟩).size<=19:=by split<;>omega
 rw[aA];omega
theorem W140(A:Option Addr)(xs:List ByteArray)(cap:Nat)(H:Y0)(nx:Nat)(hS:Sl H nx A (N0 xs))(h0:0<xs.length)(hcap:xs.length<=cap)(hN:xs.length<=1000000)(B:(U26 xs ⟨#[47]⟩).size<=1000000):
  Q2 gQ 60 [.slice A xs.length cap] H nx fun r H' nx' => .string (U26 xs ⟨#[47]⟩)=r/\H=H'/\nx=nx':=by
 refine spec60 ?_;unfold F60;refine R0 (Q131 A xs ⟨#[47]⟩ cap H nx hS h0 hcap hN B) ?_;rintro _ _ _ ⟨rfl,rfl,rfl⟩;simp(disch:=try exact O3)only[W0]
theorem D132{v:Value}{s:Bool}{H:Y0}{nx:Nat}(h:RS H nx v s n d):Q2 gQ 33 [v] H nx fun r H' nx' => .string (Q15 s n d)=r/\D0 H nx H' nx':=by
 obtain⟨h,hn,hd⟩:=h;have hl:=Y141 hn hd;refine spec33 ?_;unfold F33;obtain⟨nv,dv,rfl,a4,a3⟩:=h;obtain⟨A0,c0,rfl,a8⟩:=id a4;obtain⟨C0,d0,rfl,a7⟩:=id a3;have hE:D0 H nx (hs H nx (O7 [.bool s,.slice A0 (D11 n).length c0,.slice C0 (D11 d).length d0])) (nx+1):=(D0.refl H nx).nw _;have hg:J0 (hs H nx (O7 [.bool s,.slice A0 (D11 n).length c0,.slice C0 (D11 d).length d0])) nx=O7 [.bool s,.slice A0 (D11 n).length c0,.slice C0 (D11 d).length d0]:=Z11 _ _ _;simp(disch:=try exact O3)only[W0,Z0,Q0.val,Y12];generalize hs H nx (O7 [.bool s,.slice A0 (D11 n).length c0,.slice C0 (D11 d).length d0])=H1 at hE hg ⊢;refine R0 (B97 ⟨_,_,rfl,a4.ext hE,a3.ext hE⟩ (M121 hn) (M121 hd)) ?_;rintro r H2 n2 ⟨hr,Z⟩;have V:J0 H2 nx=O7 [.bool s,.slice A0 (D11 n).length c0,.slice C0 (D11 d).length d0]:=by rw[Z.gt nx,hg]
 obtain⟨u,w,rfl,hu,hw⟩:=id hr;obtain⟨U,cU,rfl,_⟩:=id hu;obtain⟨W,cW,rfl,_⟩:=id hw;have Y:=NN.box (row':=[.bool (B85 s n d),.slice U (D11 (G86 n d)).length cU,.slice W (D11 (K87 n d)).length cW]) hu V (E46 _ _ _ _ _ _ _);have a1:=NN.box (row':=[.bool (B85 s n d),.slice U (D11 (G86 n d)).length cU,.slice W (D11 (K87 n d)).length cW]) hw V (E46 _ _ _ _ _ _ _);have Q:D0 H nx (hs H2 nx (O7 [.bool (B85 s n d),.slice U (D11 (G86 n d)).length cU,.slice W (D11 (K87 n d)).length cW])) n2:=(hE.trans Z).h0;have B:J0 (hs H2 nx (O7 [.bool (B85 s n d),.slice U (D11 (G86 n d)).length cU,.slice W (D11 (K87 n d)).length cW])) nx=O7 [.bool (B85 s n d),.slice U (D11 (G86 n d)).length cU,.slice W (D11 (K87 n d)).length cW]:=Z11 _ _ _;have a6:nx<n2:=by have:=Z.le;omega
 simp(disch:=try exact O3)only[W0,Z0,Nat.reduceAdd,V,D7];generalize hs H2 nx (O7 [.bool (B85 s n d),.slice U (D11 (G86 n d)).length cU,.slice W (D11 (K87 n d)).length cW])=H3 at Y a1 Q B ⊢;refine N5 (fun L H' nx'=>L=[.string (if B85 s n d=true then ⟨#[45]⟩ else ⟨#[]⟩)]/\H3=H'/\n2=nx') ?_ ?_
 .intro j hj
  cases O:B85 s n d with
  | true=>
   rw[O] at B;simp(disch:=try exact O3)only[W0];exact hj _ _ _ ⟨by rw[O];rfl,rfl,rfl⟩
  | false=>
   rw[O] at B;simp(disch:=try exact O3)only[W0];exact hj _ _ _ ⟨by rw[O];rfl,rfl,rfl⟩
 rintro _ _ _ ⟨rfl,rfl,rfl⟩;have h1:=X125 (G86 n d);have h2:=X125 (K87 n d);have h3:=Y133 (V51 (G86 n d)) ⟨#[47]⟩;have h4:=B132 (V51 (G86 n d)) (V51 (K87 n d)) ⟨#[47]⟩;have h5:(⟨#[47]⟩:ByteArray).size=1:=rfl;generalize a0:(if B85 s n d=true then(⟨#[45]⟩:ByteArray) else ⟨#[]⟩)=sg;have h6:sg.size<=1:=by rw[<- a0];split<;>decide
 simp(disch:=try exact O3)only[W0,B];refine R0 (M77 a1 (Nat.lt_trans (M121 hl.2) O0)) ?_;rintro _ _ _ ⟨rfl,rfl,rfl⟩
 by_cases hb:C14 (K87 n d)=1
 .have db:decide ((C14 (K87 n d):Int)=1)=true:=by simp[hb]
  simp(disch:=try exact O3)only[W0,db,B];refine R0 (W135 Y O0) ?_;rintro _ H5 n5 ⟨rfl,E⟩;simp(disch:=try exact O3)only[R126];have M:D0 H5 n5 (hs H5 n5 (O7 [.string (V51 (G86 n d))])) (n5+1):=(D0.refl _ _).nw _;refine R0 (W140 _ [V51 (G86 n d)] 1 _ _ (fun i u hu=>⟨n5,0,[.string (V51 (G86 n d))],rfl,Nat.lt_succ_self _,by simp[Q5,Z11,V3.row],by simpa [N0] using hu⟩) O2 O2 O2 O0) ?_;rintro _ _ _ ⟨rfl,rfl,rfl⟩;have ea:=fun k=>E0 sg (U26 [V51 (G86 n d)] ⟨#[47]⟩) O0 k
  simp(disch:=try exact O3)only[ea];exact⟨by rw[Q15,a0,if_pos hb],Q.trans (E.trans M)⟩
 .have db:decide ((C14 (K87 n d):Int)=1)=false:=by simp;omega
  simp(disch:=try exact O3)only[W0,db,B];have hk:∀ m,n2<=m->D0 H3 n2 H3 m:=fun m hm=>D0.self hm
  refine R0 (W135 (Y.ext (hk _ O0)) O0) ?_;rintro _ H5 n5 ⟨rfl,E⟩;have R:J0 H5 nx=J0 H3 nx:=E.gt nx;rw[B] at R;have J:D0 H3 n2 H5 n5:=(hk _ O0).trans E;simp(disch:=try exact O3)only[W0,R];refine R0 (W135 (a1.ext J) O0) ?_;rintro _ H6 n6 ⟨rfl,M⟩;have a5:J0 H6 nx=J0 H5 nx:=M.get nx (by have:=J.le;omega);rw[R] at a5;have a2:=J.trans M;have l5:=E.le;have l6:=M.le;rw[R140];refine R0 (W140 _ [V51 (G86 n d),V51 (K87 n d)] 2 _ _ (fun i u hu=>⟨n2+7,0,[.string (V51 (G86 n d)),.string (V51 (K87 n d))],rfl,O0,by simp[Q5,Z11,V3.row],by simpa [N0] using hu⟩) O2 O2 O2 O0) ?_;rintro _ _ _ ⟨rfl,rfl,rfl⟩;have ea:=fun k=>E0 sg (U26 [V51 (G86 n d),V51 (K87 n d)] ⟨#[47]⟩) O0 k
  simp(disch:=try exact O3)only[ea];exact⟨by rw[Q15,a0,if_neg hb],(Q.trans a2).hs (by have:=Q.le;omega)⟩
end
end Go.Proofs.YthbdeaeghipliaaGreatDoor
namespace Go.Proofs
section
open Go.Shelf
def Tryz.laysM173_ren:Go.Shelf.Ren:=⟨fun | 173=>89 | 246=>74 | 283=>102 | 284=>103 | 285=>104 | 286=>105 | 129=>124 | 317=>123 | 318=>125 | 319=>126 | 320=>127 | 337=>146 | 338=>147 | n=>n,fun | 2=>2 | 3=>3 | 9=>9 | 4=>4 | 171=>170 | 0=>0 | 53=>124 | 37=>88 | 5=>5 | 173=>173 | 212=>190 | 51=>27 | 20=>20 | 213=>191 | 46=>150 | 232=>216 | 233=>217 | n=>n,fun | 17=>0 | 18=>4 | 19=>5 | n=>n⟩
theorem Tryz.laysM173:Go.Proofs.LaysM.n173 gQ Tryz.laysM173_ren:={
 mixed:=by kernel_rfl
 f129:=Tryz.func124.trans (congrArg some (by kernel_rfl))
 f173:=Tryz.func89.trans (congrArg some (by kernel_rfl))
 f246:=Tryz.func74.trans (congrArg some (by kernel_rfl))
 f283:=Tryz.func102.trans (congrArg some (by kernel_rfl))
 f284:=Tryz.func103.trans (congrArg some (by kernel_rfl))
 f285:=Tryz.func104.trans (congrArg some (by kernel_rfl))
 f286:=Tryz.func105.trans (congrArg some (by kernel_rfl))
 f317:=Tryz.func123.trans (congrArg some (by kernel_rfl))
 f318:=Tryz.func125.trans (congrArg some (by kernel_rfl))
 f319:=Tryz.func126.trans (congrArg some (by kernel_rfl))
 f320:=Tryz.func127.trans (congrArg some (by kernel_rfl))
 f337:=Tryz.func146.trans (congrArg some (by kernel_rfl))
 f338:=Tryz.func147.trans (congrArg some (by kernel_rfl))
 t0:=Tryz.underlying0
 a0:=Tryz.isAgg0
 z0:=Tryz.sizeOf0
 v0:=Tryz.zeroValue0
 t2:=Tryz.underlying2
 a2:=Tryz.isAgg2
 z2:=Tryz.sizeOf2
 v2:=Tryz.zeroValue2
 t3:=Tryz.underlying3
 a3:=Tryz.isAgg3
 z3:=Tryz.sizeOf3
 v3:=Tryz.zeroValue3
 t4:=Tryz.underlying4
 a4:=Tryz.isAgg4
 z4:=Tryz.sizeOf4
 v4:=Tryz.zeroValue4
 t5:=Tryz.underlying5
 a5:=Tryz.isAgg5
 z5:=Tryz.sizeOf5
 v5:=Tryz.zeroValue5
 t9:=Tryz.underlying9
 a9:=Tryz.isAgg9
 z9:=Tryz.sizeOf9
 v9:=Tryz.zeroValue9
 t20:=Tryz.underlying20
 a20:=Tryz.isAgg20
 z20:=Tryz.sizeOf20
 v20:=Tryz.zeroValue20
 t37:=Tryz.underlying88
 a37:=Tryz.isAgg88
 z37:=Tryz.sizeOf88
 v37:=Tryz.zeroValue88
 t46:=Tryz.underlying150
 a46:=Tryz.isAgg150
 z46:=Tryz.sizeOf150
 v46:=Tryz.zeroValue150
 t51:=Tryz.underlying27
 a51:=Tryz.isAgg27
 z51:=Tryz.sizeOf27
 v51:=Tryz.zeroValue27
 t53:=Tryz.underlying124
 a53:=Tryz.isAgg124
 z53:=Tryz.sizeOf124
 v53:=Tryz.zeroValue124
 t171:=Tryz.underlying170
 a171:=Tryz.isAgg170
 z171:=Tryz.sizeOf170
 v171:=Tryz.zeroValue170
 t173:=Tryz.underlying173
 a173:=Tryz.isAgg173
 z173:=Tryz.sizeOf173
 v173:=Tryz.zeroValue173
 t212:=Tryz.underlying190
 a212:=Tryz.isAgg190
 z212:=Tryz.sizeOf190
 v212:=Tryz.zeroValue190
 t213:=Tryz.underlying191
 a213:=Tryz.isAgg191
 z213:=Tryz.sizeOf191
 t232:=Tryz.underlying216
 a232:=Tryz.isAgg216
 z232:=Tryz.sizeOf216
 v232:=Tryz.zeroValue216
 t233:=Tryz.underlying217
 a233:=Tryz.isAgg217
 z233:=Tryz.sizeOf217
 v233:=Tryz.zeroValue217
 g17:=by kernel_rfl
 g18:=by kernel_rfl
 g19:=by kernel_rfl
 i0:=by kernel_rfl
 i2:=by kernel_rfl
 i3:=by kernel_rfl
 i4:=by kernel_rfl
 i5:=by kernel_rfl
 i9:=by kernel_rfl
 i20:=by kernel_rfl
 i37:=by kernel_rfl
 i46:=by kernel_rfl
 i51:=by kernel_rfl
 i53:=by kernel_rfl
 i171:=by kernel_rfl
 i173:=by kernel_rfl
 i212:=by kernel_rfl
 i232:=by kernel_rfl
 i233:=by kernel_rfl
 m17:=by kernel_rfl
 m18:=by kernel_rfl
 m19:=by kernel_rfl }
end
end Go.Proofs
namespace Go.Proofs.YthbdeaeghipliaaGreatDoor
open Go.Clo
def Y140(n:Int):ByteArray:=⟨(Lib.itoa n).toArray⟩
theorem D139(w:World)(k:Nat)(os:Array Obj):RowKit.Below w.heap.size w (Sort.grow (w.drewN k) os):=by
 refine⟨rfl,rfl,rfl,?_,fun b hb => ?_⟩
 .show w.heap.size<=(w.heap++os).size
  rw[Array.size_append];omega
 .show(w.heap++os)[b]? = w.heap[b]?
  exact Array.getElem?_append_left hb
theorem Q29(n:Int)(h0 : -9223372036854775808<=n)(h1:n<=9223372036854775807)(w:World)(hg:GlW w):Calls gQ 89 #[O8 n,O8 10] w fun e w'=>e = .returned (.string (Y140 n))/\RowKit.Below w.heap.size w w':=by
 refine(Any.strconv_FormatInt_10 Tryz.laysM173 n h0 h1 w ?_).mono ?_
 .obtain⟨_,e,m,hc⟩:=hg _ (dJ.2 rfl)
  unfold Lib.TabIs World.var?;rw[show ∀ o:Option Nat,o=some 0->∀ f:Nat->Option (Array Value),Option.bind o f=f 0 from fun o h f=>by rw[h];rfl]
  .rw[hc]
  .kernel_rfl
 .rintro e w' ⟨he,k,os,rfl⟩
  exact⟨he,D139 w k os⟩
theorem Z144:Go.Clo.Enters gQ 89:=⟨_,_,Tryz.func89,rfl,by kernel_rfl⟩
theorem W150(n:Int)(h0 : -9223372036854775808<=n)(h1:n<=9223372036854775807)(H:Y0)(nx:Nat):Q2 gQ 89 [O8 n,O8 10] H nx fun r H' nx' => .string (Y140 n)=r/\H=H'/\nx=nx':=by
 refine⟨_,H,nx,⟨Z144,fun F B w hh hl => ?_⟩,rfl,rfl,rfl⟩;have e:=J19 hl rfl;subst e;refine(Q29 n h0 h1 w hh.gl.1).mono fun e w' ⟨he,hb⟩ => ?_
 exact⟨_,F,he,.string _,N2.below hh hb⟩
section
variable {i:Nat} {sep:List UInt8} {α:Type}
def I64(n:Int):Prop := -9223372036854775808<=n/\n<=9223372036854775807
def R10(kind int:Int)(s:ByteArray):ByteArray:=if V83 kind int s=true then(if kind=1 then Y140 int else W128 s) else N3
theorem N127{kind int:Int}{s:ByteArray}(h:I64 int):(R10 kind int s).size<=102:=by
 unfold R10
 split
 .rename_i hv
  split
  .have:=Lib.itoa_length_le int h.1 h.2
   show(Lib.itoa int).toArray.size<=102;simp only[List.size_toArray];omega
  .rename_i h1
   have:=V137 s;unfold V83 at hv;rw[if_neg h1] at hv
   split at hv
   .simp only[aG,decide_eq_true_eq] at hv
    omega
   .cases hv
 .exact aL _
theorem U138(kind int:Int)(s:ByteArray)(H:Y0)(nx:Nat)(hi:I64 int):Q2 gQ 59 [.agg ⟨[O8 kind,O8 int,.string s]⟩] H nx fun r H' nx' => .string (R10 kind int s)=r/\D0 H nx H' nx':=by
 refine spec59 ?_;unfold F59;have hE:D0 H nx (hs H nx (O7 [O8 kind,O8 int,.string s])) (nx+1):=(D0.refl H nx).nw _;have hg:J0 (hs H nx (O7 [O8 kind,O8 int,.string s])) nx=O7 [O8 kind,O8 int,.string s]:=Z11 _ _ _;simp(disch:=try exact O3)only[W0,Z0,Q0.val,Y12];refine R0 (M131 kind int s _ _) ?_;rintro _ H1 n1 ⟨rfl,J⟩;have E:J0 H1 nx=O7 [O8 kind,O8 int,.string s]:=by rw[J.gt nx,hg]
 have B:=hE.trans J
 cases hv:V83 kind int s with
 | false=>
  simp(disch:=try exact O3)only[W0];exact⟨by rw[R10,hv];rfl,B⟩
 | true=>
  by_cases h1:kind=1
  .have d1:decide (kind=1)=true:=by simp[h1]
   simp(disch:=try exact O3)only[W0,E,d1];refine R0 (W150 int hi.1 hi.2 _ _) ?_;rintro _ _ _ ⟨rfl,rfl,rfl⟩;exact⟨by rw[R10,hv,if_pos rfl,if_pos h1],B⟩
  .have d1:decide (kind=1)=false:=by simp[h1]
   have L:s.size<=100:=by
    unfold V83 at hv;rw[if_neg h1] at hv
    split at hv
    .simp only[aG,decide_eq_true_eq] at hv
     omega
    .cases hv
   simp(disch:=try exact O3)only[W0,E,d1];refine R0 (G147 s _ _ L) ?_;rintro _ H3 n3 ⟨rfl,M⟩;exact⟨by rw[R10,hv,if_pos rfl,if_neg h1],B.trans M⟩
def opT(op:Int):ByteArray:=if op=0 then ⟨#[61]⟩ else if op=1 then ⟨#[33,61]⟩ else if op=2 then ⟨#[60]⟩ else if op=3 then ⟨#[60,61]⟩ else if op=4 then ⟨#[62]⟩ else ⟨#[62,61]⟩
theorem N136(op:Int):(opT op).size<=2:=by
 unfold opT
 repeat' split
 all_goals decide
theorem C29(op:Int)(H:Y0)(nx:Nat):Q2 gQ 58 [O8 op] H nx fun r H' nx' => .string (opT op)=r/\H=H'/\nx=nx':=by
 refine spec58 ?_;unfold F58;unfold opT
 by_cases h0:op=0
 .have d0:decide (op=0)=true:=by simp[h0]
  simp(disch:=try exact O3)only[W0,h0]
 have d0:decide (op=0)=false:=by simp[h0]
 by_cases h1:op=1
 .have d1:decide (op=1)=true:=by simp[h1]
  simp(disch:=try exact O3)only[W0,d0,d1,if_neg h0,if_pos h1]
 have d1:decide (op=1)=false:=by simp[h1]
 by_cases h2:op=2
 .have d2:decide (op=2)=true:=by simp[h2]
  simp(disch:=try exact O3)only[W0,d0,d1,d2,if_neg h0,if_neg h1,if_pos h2]
 have d2:decide (op=2)=false:=by simp[h2]
 by_cases h3:op=3
 .have d3:decide (op=3)=true:=by simp[h3]
  simp(disch:=try exact O3)only[W0,d0,d1,d2,d3,if_neg h0,if_neg h1,if_neg h2,if_pos h3]
 have d3:decide (op=3)=false:=by simp[h3]
 by_cases h4:op=4
 .have d4:decide (op=4)=true:=by simp[h4]
  simp(disch:=try exact O3)only[W0,d0,d1,d2,d3,d4,if_neg h0,if_neg h1,if_neg h2,if_neg h3,if_pos h4]
 .have d4:decide (op=4)=false:=by simp[h4]
  simp(disch:=try exact O3)only[W0,d0,d1,d2,d3,d4,if_neg h0,if_neg h1,if_neg h2,if_neg h3,if_neg h4]
def B27(sep:List UInt8)(f:α->List UInt8):List α->List UInt8
 | []=>[]
 | t :: r=>f t++r.flatMap fun t=>sep++f t
theorem M141(sep:List UInt8)(f:α->List UInt8)(l:List α)(t:α):B27 sep f (l++[t])=B27 sep f l++((if l.length=0 then [] else sep)++f t):=by
 cases l with
 | nil=>simp[B27]
 | cons a r=>simp[B27]
theorem J124{f:α->List UInt8}{l:List α}{t:α}(h:l[i]? = some t):B27 sep f (l.take (i+1))=B27 sep f (l.take i)++((if i=0 then [] else sep)++f t):=by
 have hi:=(aJ.1 h).1;rw[List.take_add_one,h];show B27 sep f (l.take i++[t])=_;rw[M141,cK,Nat.min_eq_left O0]
theorem B128{α:Type}{g:α->List UInt8}{B:Nat}:∀ {l:List α},(∀ t ∈ l,(g t).length<=B)->(l.flatMap g).length<=B*l.length
 | [],_=>O2
 | a :: l,h=>by
  have h1:=h a O2;have h2:=B128 (l:=l) fun t ht=>h t (eJ _ ht)
  simp only[List.flatMap_cons,bH,cV,bJ,eQ];omega
theorem D116{f:α->List UInt8}{B:Nat}{l:List α}(h:∀ t ∈ l,(f t).length<=B):(B27 sep f l).length<=(B+sep.length)*l.length:=by
 cases l with
 | nil=>simp[B27]
 | cons a r=>
  have h1:=h a O2;have h2:=B128 (l:=r) (g:=fun t=>sep++f t) (B:=B+sep.length) fun t ht=>by have:=h t (eJ _ ht);simp;omega
  simp only[B27,bH,cV,bJ,eQ];omega
theorem C64{l:List α}{a:α}(h:a ∈ l.take i):a ∈ l:=List.mem_of_mem_take h
def J4:List UInt8:=[44,32]
abbrev Sep(q b:Nat)(v:Value):Prop:=q≠b/\K78 v≠some q
theorem PX.box{b:Nat}{H:Y0}{nx:Nat}{v:Value}{H':Y0}{nx':Nat}{v':Value}{q:Nat}(x:PX b H nx v H' nx' v')(h:q<nx)(o:Sep q b v):J0 H' q=J0 H q/\Sep q b v':=by
 refine⟨x.get q h o.1 o.2,o.1,?_⟩;rcases x.buf with e | ⟨g,hg,e⟩
 .rw[e];exact o.2
 .rw[e];intro e2;injection e2 with e2;omega
end
def K115(t:R33):List UInt8:=if t.var=N3 then(R10 t.kind t.int t.str).data.toList else t.var.data.toList
def U109(a:J90):List UInt8:=(if a.neg=true then [110,111,116,32] else [])++((a.rel.data.toList++[40])++(B27 J4 K115 a.terms++[41]))
def V134(t:R33):Prop:=I64 t.int
theorem C127{t:R33}(h:V134 t)(hs:t.var.size<=100):(K115 t).length<=102:=by
 unfold K115
 split
 .exact N127 h
 .exact bK hs O0
theorem N133{a:J90}(hz:Q130 a)(h6:a.terms.length<=6)(hN:∀ t ∈ a.terms,V134 t):(U109 a).length<=800:=by
 have h1:=D116 (sep:=J4) (f:=K115) (B:=102) (l:=a.terms) fun t ht=>C127 (hN t ht) (hz.2 t ht)
 have h2:J4.length=2:=rfl;have h3:(if a.neg=true then([110,111,116,32]:List UInt8) else []).length<=4:=by split<;>decide
 have h4:a.rel.data.toList.length<=100:=hz.1;unfold U109;rw[h2] at h1;simp only[bH,cV,bE] at h3 ⊢;omega
theorem X118(a b:ByteArray):(a++b).data.toList=a.data.toList++b.data.toList:=by rw[cZ,Array.toList_append]
theorem B145(s:ByteArray)(k:VP):D10 .neq (.string s) (.string ⟨#[]⟩) k=k (.bool (decide (s≠N3))):=by
 rw[X6];simp only[R9,K53,aN];rw[J138]
 by_cases h:s=⟨#[]⟩<;>simp[N3,h]
theorem U148(a:J90){b n0:Nat}{v:Value}{l:List UInt8}{H:Y0}{nx:Nat}(hA:D122 H n0 a)(hO:Off n0 b v)(b4:n0<=nx)(hp:PW H nx b v l)(hz:Q130 a)(h6:a.terms.length<=6)(hN:∀ t ∈ a.terms,V134 t)(hl:l.length<=900000):
  Q2 gQ 57 [.pointer (some ⟨b,0,none⟩),.agg ⟨Q115 a⟩] H nx fun r H' nx'=>∃ v',PW H' nx' b v' (l++U109 a)/\PX b H nx v H' nx' v':=by
 refine spec57 ?_;unfold F57;unfold Q115;have aa:D0 H nx (hs H nx (O7 [.bool a.neg,.string a.rel,.slice a.TA a.terms.length a.tc])) (nx+1):=(D0.refl H nx).nw _;have M:J0 (hs H nx (O7 [.bool a.neg,.string a.rel,.slice a.TA a.terms.length a.tc])) nx=O7 [.bool a.neg,.string a.rel,.slice a.TA a.terms.length a.tc]:=Z11 _ _ _;have al:Sep nx b v:=hp.top (aD _);have a8:=hp.ext aa;have ah:PX b H nx v _ _ v:=PX.of_ext aa;simp(disch:=try exact O3)only[W0,Z0,Q0.val];generalize hs H nx (O7 [.bool a.neg,.string a.rel,.slice a.TA a.terms.length a.tc])=H1 at aa M a8 ah ⊢;refine N5 (fun L H' nx'=>∃ v2,PW H' nx' b v2 (l++(if a.neg=true then [110,111,116,32] else []))/\PX b H1 (nx+1) v H' nx' v2) ?_ ?_
 .intro j hj
  cases O:a.neg with
  | true=>
   rw[O] at M;simp(disch:=try exact O3)only[W0];refine R0 (Z31 ⟨#[110,111,116,32]⟩ a8 (by show l.length+4<=_;omega)) ?_;rintro r H2 n2 ⟨v2,a3,a4⟩;exact hj _ _ _ ⟨v2,by simpa [O] using a3,a4⟩
  | false=>
   rw[O] at M;simp(disch:=try exact O3)only[W0];exact hj _ _ _ ⟨v,by simpa [O] using a8,PX.refl _ _ _ _⟩
 rintro L H2 n2 ⟨v2,a3,a4⟩;have b5:(l++(if a.neg=true then([110,111,116,32]:List UInt8) else [])).length<=900004:=by
  rw[bH];have h3:(if a.neg=true then([110,111,116,32]:List UInt8) else []).length<=4:=by split<;>decide
  omega
 generalize ak:l++(if a.neg=true then([110,111,116,32]:List UInt8) else [])=l2 at a3 b5;obtain⟨a2,b8⟩:=a4.box O0 al;rw[M] at a2;have b3:a.rel.size<=100:=hz.1;have ea:=fun k=>E0 a.rel ⟨#[40]⟩ (by show a.rel.size+1<=_;omega) k
 have aq:PW H2 (n2+7) b v2 l2:=a3.ext (D0.sf);have a5:PX b H1 (nx+1) v H2 (n2+7) v2:=a4.trans (PX.of_ext (D0.sf));simp(disch:=try exact O3)only[W0,a2,ea];refine R0 (Z31 (a.rel++⟨#[40]⟩) aq (by rw[aA];show l2.length+(a.rel.size+1)<=_;omega)) ?_;rintro r H3 n3 ⟨v3,ad,az⟩;have aj:=a5.trans az;obtain⟨ai,bg⟩:=az.box (by have:=a5.le;omega) b8;rw[a2] at ai;simp(disch:=try exact O3)only[W0,ai];rw[X118] at ad;generalize a6:l2++(a.rel.data.toList++(⟨#[40]⟩:ByteArray).data.toList)=l3 at ad;have ba:l3.length<=900105:=by
  rw[<- a6,bH,bH];have:a.rel.data.toList.length<=100:=b3;show l2.length+(a.rel.data.toList.length+1)<=_;omega
 refine B1 (fun m L H' nx'=>∃(i:Nat) (v4:Value),m+i=a.terms.length/\L=[O8 (i:Int)]/\PW H' nx' b v4 (l3++B27 J4 K115 (a.terms.take i))/\PX b H1 (nx+1) v H' nx' v4) ?_ (m:=a.terms.length) ⟨0,v3,O0,rfl,by simpa [B27] using ad,aj⟩;rintro m ih L H4 n4 ⟨i,v4,hm,rfl,U,a1⟩ ar;have av:(B27 J4 K115 (a.terms.take i)).length<=624:=by
  have h1:=D116 (sep:=J4) (f:=K115) (B:=102) (l:=a.terms.take i) fun t ht=>C127 (hN t (C64 ht)) (hz.2 t (C64 ht))
  have h2:J4.length=2:=rfl;rw[h2,cK] at h1;omega
 obtain⟨b2,bc⟩:=a1.box (q:=nx) O0 al;rw[M] at b2
 by_cases hi:i<a.terms.length
 .have ag:(i:Int)<(a.terms.length:Int):=O0
  have ht:a.terms[i]? = some a.terms[i]:=aE hi;generalize a.terms[i]=t at ht;have ao:t ∈ a.terms:=aH ht;have hD:D0 H n0 H4 n4:=(ah.trans a1).data hO b4;obtain⟨bt,ot,row,am,bh,an,_,ab⟩:=Sl.elem (hA.ext hD) V117 O0 ht;have b6:=hz.2 t ao;have ax:=hN t ao;have ay:=C127 ax b6;have be:J4=(⟨#[44,32]⟩:ByteArray).data.toList:=rfl;have E:∀(v':Value) (H':Y0) (nx':Nat),PW H' nx' b v' ((l3++B27 J4 K115 (a.terms.take i))++((if i=0 then [] else J4)++K115 t))->PX b H1 (nx+1) v H' nx' v'->ih [O8 ((i:Int)+1)] H' nx':=fun v' H' nx' h1 h2=>
   ar (m-1) _ _ _ O0 ⟨i+1,v',O0,O2,by rw[J124 ht,<- bM];exact h1,h2⟩
  clear ar;have a9:D0 H4 n4 (hs (hs H4 n4 (O7 [.string ⟨#[]⟩,O8 0,O8 0,.string ⟨#[]⟩])) n4 (O7 [.string t.var,O8 t.kind,O8 t.int,.string t.str])) (n4+1):=((D0.refl _ _).nw _:D0 H4 n4 _ (n4+1)).h0;have R:=U.ext a9;have V:=a1.trans (PX.of_ext (b:=b) (v:=v4) a9);have aw:Sep n4 b v4:=U.top (aD _);have af:J0 (hs (hs H4 n4 (O7 [.string ⟨#[]⟩,O8 0,O8 0,.string ⟨#[]⟩])) n4 (O7 [.string t.var,O8 t.kind,O8 t.int,.string t.str])) n4=O7 [.string t.var,O8 t.kind,O8 t.int,.string t.str]:=Z11 _ _ _;rw[am] at b2;rw[am];simp(disch:=try exact O3)only[W0,Z0,Nat.reduceAdd,ag,D121,X3 an,ab,U118,G88,N13 (fun c=>V4 _ _)];generalize hs (hs H4 n4 (O7 [.string ⟨#[]⟩,O8 0,O8 0,.string ⟨#[]⟩])) n4 (O7 [.string t.var,O8 t.kind,O8 t.int,.string t.str])=H5 at a9 R V af ⊢;generalize ap:l3++B27 J4 K115 (a.terms.take i)=l4 at U R E;have bd:l4.length<=900729:=by rw[<- ap,bH];omega
  refine N5 (fun L H' nx'=>∃ v5,PW H' nx' b v5 (l4++(if i=0 then [] else J4))/\PX b H1 (nx+1) v H' nx' v5/\J0 H' n4=O7 [.string t.var,O8 t.kind,O8 t.int,.string t.str]/\Sep n4 b v5/\n4<nx') ?_ ?_
  .intro j hj
   by_cases b1:i=0
   .have W:¬ (0:Int)<(i:Int):=O0
    simp(disch:=try exact O3)only[W0,W];exact hj _ _ _ ⟨v4,by rw[if_pos b1,gV];exact R,V,af,aw,O0⟩
   .have W:(0:Int)<(i:Int):=O0
    simp(disch:=try exact O3)only[W0,W];refine R0 (Z31 ⟨#[44,32]⟩ R (by show l4.length+2<=_;omega)) ?_;rintro r H6 n6 ⟨v6,Y,Q⟩;obtain⟨a0,b0⟩:=Q.box O0 aw;exact hj _ _ _ ⟨v6,by rw[if_neg b1];exact Y,V.trans Q,by rw[a0,af],b0,by have:=Q.le;omega⟩
  rintro L6 H6 n6 ⟨v6,Y,Q,a0,b0,bf⟩;have b9:(l4++(if i=0 then [] else J4)).length<=900731:=by
   rw[bH];have:(if i=0 then [] else J4).length<=2:=by split<;>decide
   omega
  rw[<- bM] at E;generalize l4++(if i=0 then [] else J4)=l6 at Y b9 E
  by_cases Z:t.var=N3
  .have dv:decide (t.var≠N3)=false:=by simp[Z]
   have et:K115 t=(R10 t.kind t.int t.str).data.toList:=if_pos Z;rw[et] at E ay;simp(disch:=try exact O3)only[W0,a0,B145,dv,B116];refine R0 (U138 t.kind t.int t.str _ _ ax) ?_;rintro _ H7 n7 ⟨rfl,au⟩;have J:D0 H6 n6 H7 n7:=⟨by have:=au.le;omega,fun q hq=>au.gt q⟩
   refine R0 (Z31 (R10 t.kind t.int t.str) (Y.ext J) (by have:(R10 t.kind t.int t.str).size<=102:=ay;omega)) ?_;rintro r H8 n8 ⟨v8,ae,a7⟩;exact E _ _ _ ae ((Q.trans (PX.of_ext J)).trans a7)
  .have dv:decide (t.var≠N3)=true:=by simp[Z]
   have et:K115 t=t.var.data.toList:=if_neg Z;rw[et] at E;simp(disch:=try exact O3)only[W0,a0,B145,dv];have J:D0 H6 n6 H6 (n6+6):=D0.sf;refine R0 (Z31 t.var (Y.ext J) O0) ?_;rintro r H8 n8 ⟨v8,ae,a7⟩;exact E _ _ _ ae ((Q.trans (PX.of_ext J)).trans a7)
 .have ag:¬ (i:Int)<(a.terms.length:Int):=O0
  have b7:a.terms.take i=a.terms:=gJ O0;rw[b7] at U av;simp(disch:=try exact O3)only[W0,ag];refine R0 (Z31 ⟨#[41]⟩ U (by rw[bH];show l3.length+_+1<=_;omega)) ?_;rintro r H5 n5 ⟨v5,R,V⟩;refine⟨v5,?_,ah.trans (a1.trans V)⟩;have e:l++U109 a=l3++B27 J4 K115 a.terms++(⟨#[41]⟩:ByteArray).data.toList:=by
   rw[<- a6,<- ak];simp[U109]
  rw[e];exact R
section
variable {H:Y0} {n0:Nat}
def G97(c:Q111):ByteArray:=⟨#[44,32]⟩++c.var++⟨#[32]⟩++opT c.op++⟨#[32]⟩++R10 c.kind c.int c.str
def J111(r:V32):List UInt8:=B27 J4 U109 r.atoms++r.conds.flatMap fun c=>(G97 c).data.toList
def E138(r:V32):Prop:=(∀ a ∈ r.atoms,∀ t ∈ a.terms,V134 t)/\∀ c ∈ r.conds,I64 c.int
theorem V128{c:Q111}(h:I64 c.int)(hs:c.var.size<=100):(G97 c).data.toList.length<=210:=by
 show(G97 c).size<=210;have h1:=N127 (kind:=c.kind) (s:=c.str) h;have h2:=N136 c.op;have h3:(⟨#[44,32]⟩:ByteArray).size=2:=rfl;have h4:(⟨#[32]⟩:ByteArray).size=1:=rfl;simp only[G97,aA];omega
theorem G133{r:V32}(hz:C128 r)(hB:Q126 r)(hN:E138 r):(J111 r).length<=9000:=by
 have h1:=D116 (sep:=J4) (f:=U109) (B:=800) (l:=r.atoms) fun a ha=>N133 (hz.1 a ha) (hB.terms a ha) (hN.1 a ha)
 have h2:J4.length=2:=rfl;have h3:=B128 (l:=r.conds) (g:=fun c=>(G97 c).data.toList) (B:=210) fun c hc=>V128 (hN.2 c hc) (hz.2 c hc)
 have h4:=hB.atoms;have h5:=hB.conds;rw[h2] at h1;unfold J111;rw[bH];omega
theorem D0.low{H':Y0}{nx':Nat}(e:D0 H n0 H' nx'):D0 H n0 H' n0:=⟨aD _,e.get⟩
theorem G149(r:V32){b:Nat}{v:Value}{l:List UInt8}{nx:Nat}(hR:V118 H n0 r)(hO:Off n0 b v)(V:n0<=nx)(hp:PW H nx b v l)(hz:C128 r)(hB:Q126 r)(hN:E138 r)(hl:l.length<=800000):
  Q2 gQ 29 [.pointer (some ⟨b,0,none⟩),.agg ⟨K111 r⟩] H nx fun _ H' nx'=>∃ v',PW H' nx' b v' (l++J111 r)/\PX b H nx v H' nx' v':=by
 refine spec29 ?_;unfold F29;unfold K111;have ai:D0 H nx (hs H nx (O7 [.slice r.AA r.atoms.length r.ac,.slice r.CA r.conds.length r.cc])) (nx+1):=(D0.refl H nx).nw _;have ay:J0 (hs H nx (O7 [.slice r.AA r.atoms.length r.ac,.slice r.CA r.conds.length r.cc])) nx=O7 [.slice r.AA r.atoms.length r.ac,.slice r.CA r.conds.length r.cc]:=Z11 _ _ _;have b6:Sep nx b v:=hp.top (aD _);have ap:=hp.ext ai;have a7:PX b H nx v _ _ v:=PX.of_ext ai;simp(disch:=try exact O3)only[W0,Z0,Q0.val];generalize hs H nx (O7 [.slice r.AA r.atoms.length r.ac,.slice r.CA r.conds.length r.cc])=H1 at ai ay ap a7 ⊢;have bm:=hB.atoms;have bl:=hB.conds;refine B1 (fun m L H' nx'=>∃(i:Nat) (v4:Value),m+i=r.atoms.length/\L=[O8 (i:Int)]/\PW H' nx' b v4 (l++B27 J4 U109 (r.atoms.take i))/\PX b H1 (nx+1) v H' nx' v4) ?_ (m:=r.atoms.length) ⟨0,v,O0,rfl,by simpa [B27] using ap,PX.refl _ _ _ _⟩;rintro m ih L H4 n4 ⟨i,v4,hm,rfl,U,a9⟩ R;have ae:(B27 J4 U109 (r.atoms.take i)).length<=6500:=by
  have h1:=D116 (sep:=J4) (f:=U109) (B:=800) (l:=r.atoms.take i) fun a ha=>N133 (hz.1 a (C64 ha)) (hB.terms a (C64 ha)) (hN.1 a (C64 ha))
  have h2:J4.length=2:=rfl;rw[h2,cK] at h1;omega
 obtain⟨b3,bh⟩:=a9.box (q:=nx) O0 b6;rw[ay] at b3
 by_cases hi:i<r.atoms.length
 .have M:(i:Int)<(r.atoms.length:Int):=O0
  have ht:r.atoms[i]? = some r.atoms[i]:=aE hi;generalize r.atoms[i]=a at ht;have ab:a ∈ r.atoms:=aH ht;have aq:=a7.trans a9;have hD:D0 H n0 H4 n4:=aq.data hO V;obtain⟨bt,ot,row,aj,bd,Y,_,J⟩:=Sl.elem (hR.atoms.ext hD) M117 O0 ht;have E:∀(v':Value) (H':Y0) (nx':Nat),PW H' nx' b v' ((l++B27 J4 U109 (r.atoms.take i))++((if i=0 then [] else J4)++U109 a))->PX b H1 (nx+1) v H' nx' v'->ih [O8 ((i:Int)+1)] H' nx':=fun v' H' nx' h1 h2=>
   R (m-1) _ _ _ O0 ⟨i+1,v',O0,O2,by rw[J124 ht,<- bM];exact h1,h2⟩
  clear R;have ag:D0 H4 n4 (hs (hs H4 n4 (O7 [.bool false,.string ⟨#[]⟩,O6])) n4 (O7 [.bool a.neg,.string a.rel,.slice a.TA a.terms.length a.tc])) (n4+1):=((D0.refl _ _).nw _:D0 H4 n4 _ (n4+1)).h0;have a8:=U.ext ag;have ak:=a9.trans (PX.of_ext (b:=b) (v:=v4) ag);have bc:Sep n4 b v4:=U.top (aD _);have al:J0 (hs (hs H4 n4 (O7 [.bool false,.string ⟨#[]⟩,O6])) n4 (O7 [.bool a.neg,.string a.rel,.slice a.TA a.terms.length a.tc])) n4=O7 [.bool a.neg,.string a.rel,.slice a.TA a.terms.length a.tc]:=Z11 _ _ _;rw[aj];simp(disch:=try exact O3)only[W0,Z0,Nat.reduceAdd,M,X3 Y,J,Q115,D7];generalize hs (hs H4 n4 (O7 [.bool false,.string ⟨#[]⟩,O6])) n4 (O7 [.bool a.neg,.string a.rel,.slice a.TA a.terms.length a.tc])=H5 at ag a8 ak al ⊢;generalize O:l++B27 J4 U109 (r.atoms.take i)=l4 at U a8 E;have b8:l4.length<=806500:=by rw[<- O,bH];omega
  refine N5 (fun L H' nx'=>∃ v5,PW H' nx' b v5 (l4++(if i=0 then [] else J4))/\PX b H1 (nx+1) v H' nx' v5/\J0 H' n4=O7 [.bool a.neg,.string a.rel,.slice a.TA a.terms.length a.tc]) ?_ ?_
  .intro j hj
   by_cases b2:i=0
   .have a0:¬ (0:Int)<(i:Int):=O0
    simp(disch:=try exact O3)only[W0,a0];exact hj _ _ _ ⟨v4,by rw[if_pos b2,gV];exact a8,ak,al⟩
   .have a0:(0:Int)<(i:Int):=O0
    simp(disch:=try exact O3)only[W0,a0];refine R0 (Z31 ⟨#[44,32]⟩ a8 (by show l4.length+2<=_;omega)) ?_;rintro _ H6 n6 ⟨v6,ad,Z⟩;obtain⟨ah,bo⟩:=Z.box O0 bc;exact hj _ _ _ ⟨v6,by rw[if_neg b2];exact ad,ak.trans Z,by rw[ah,al]⟩
  rintro L6 H6 n6 ⟨v6,ad,Z,ah⟩;have be:(l4++(if i=0 then [] else J4)).length<=806502:=by
   rw[bH];have:(if i=0 then [] else J4).length<=2:=by split<;>decide
   omega
  rw[<- bM] at E;generalize l4++(if i=0 then [] else J4)=l6 at ad be E;have a6:=a7.trans Z;simp(disch:=try exact O3)only[W0,ah,Y12];refine R0 (U148 a ((hR.terms a ab).ext (D0.low (a6.data hO V))) (a6.off hO V) (bK V a6.le) ad (hz.1 a ab) (hB.terms a ab) (hN.1 a ab) O0) ?_;rintro _ H7 n7 ⟨v7,b7,b4⟩;exact E _ _ _ b7 (Z.trans b4)
 .have M:¬ (i:Int)<(r.atoms.length:Int):=O0
  have an:r.atoms.take i=r.atoms:=gJ O0;rw[an] at U ae;clear R;generalize O:l++B27 J4 U109 r.atoms=l4 at U;have b8:l4.length<=806500:=by rw[<- O,bH];omega
  simp(disch:=try exact O3)only[W0,M,b3];refine B1 (fun m L H' nx'=>∃(i:Nat) (v4:Value),m+i=r.conds.length/\L=[O8 (i:Int)]/\PW H' nx' b v4 (l4++(r.conds.take i).flatMap fun c=>(G97 c).data.toList)/\PX b H1 (nx+1) v H' nx' v4) ?_ (m:=r.conds.length) ⟨0,v4,O0,rfl,by simpa using U,a9⟩;rintro m ih L H8 n8 ⟨i,v8,hm,rfl,aa,af⟩ R;have ae:((r.conds.take i).flatMap fun c=>(G97 c).data.toList).length<=1680:=by
   have h3:=B128 (l:=r.conds.take i) (g:=fun c=>(G97 c).data.toList) (B:=210) fun c hc=>V128 (hN.2 c (C64 hc)) (hz.2 c (C64 hc))
   rw[cK] at h3;omega
  by_cases hi:i<r.conds.length
  .have M:(i:Int)<(r.conds.length:Int):=O0
   have ht:r.conds[i]? = some r.conds[i]:=aE hi;generalize r.conds[i]=c at ht;have ax:c ∈ r.conds:=aH ht;have aw:=a7.trans af;have hD:D0 H n0 H8 n8:=aw.data hO V;obtain⟨bt,ot,row,aj,bd,Y,_,J⟩:=Sl.elem (hR.conds.ext hD) C121 O0 ht;have E:∀(v':Value) (H':Y0) (nx':Nat),PW H' nx' b v' ((l4++(r.conds.take i).flatMap fun c=>(G97 c).data.toList)++(G97 c).data.toList)->PX b H1 (nx+1) v H' nx' v'->ih [O8 ((i:Int)+1)] H' nx':=fun v' H' nx' h1 h2=>
    R (m-1) _ _ _ O0 ⟨i+1,v',O0,O2,by rw[List.take_add_one,ht];simpa using h1,h2⟩
   clear R;generalize au:l4++((r.conds.take i).flatMap fun c=>(G97 c).data.toList)=l8 at aa E;have bn:l8.length<=808180:=by rw[<- au,bH];omega
   have b5:=hz.2 c ax;have am:=hN.2 c ax;have ba:=V128 am b5;have az:D0 H8 n8 (hs (hs H8 n8 (O7 [.string ⟨#[]⟩,O8 0,O8 0,O8 0,.string ⟨#[]⟩])) n8 (O7 [.string c.var,O8 c.op,O8 c.kind,O8 c.int,.string c.str])) (n8+1):=((D0.refl _ _).nw _:D0 H8 n8 _ (n8+1)).h0;have ao:J0 (hs (hs H8 n8 (O7 [.string ⟨#[]⟩,O8 0,O8 0,O8 0,.string ⟨#[]⟩])) n8 (O7 [.string c.var,O8 c.op,O8 c.kind,O8 c.int,.string c.str])) n8=O7 [.string c.var,O8 c.op,O8 c.kind,O8 c.int,.string c.str]:=Z11 _ _ _;have z1:=N127 (kind:=c.kind) (s:=c.str) am;have z2:=N136 c.op;have z3:(⟨#[44,32]⟩:ByteArray).size=2:=rfl;have z4:(⟨#[32]⟩:ByteArray).size=1:=rfl;have a1:=fun k=>E0 (⟨#[44,32]⟩:ByteArray) c.var O0 k
   have a2:=fun k=>E0 ((⟨#[44,32]⟩:ByteArray)++c.var) ⟨#[32]⟩ (by simp only[aA];omega) k
   have a3:=fun k=>E0 ((⟨#[44,32]⟩:ByteArray)++c.var++⟨#[32]⟩) (opT c.op) (by simp only[aA];omega) k
   have a4:=fun k=>E0 ((⟨#[44,32]⟩:ByteArray)++c.var++⟨#[32]⟩++opT c.op) ⟨#[32]⟩ (by simp only[aA];omega) k
   have a5:=fun k=>E0 ((⟨#[44,32]⟩:ByteArray)++c.var++⟨#[32]⟩++opT c.op++⟨#[32]⟩) (R10 c.kind c.int c.str) (by simp only[aA];omega) k
   rw[aj];simp(disch:=try exact O3)only[W0,Z0,Nat.reduceAdd,M,R109,X3 Y,J,Y127,N117,a1,a2];refine R0 (C29 c.op _ _) ?_;rintro _ _ _ ⟨rfl,rfl,rfl⟩;simp(disch:=try exact O3)only[W0,a3,a4,U125];refine R0 (U138 c.kind c.int c.str _ _ am) ?_;rintro _ ar b9 ⟨rfl,Q⟩;generalize hs (hs H8 n8 (O7 [.string ⟨#[]⟩,O8 0,O8 0,O8 0,.string ⟨#[]⟩])) n8 (O7 [.string c.var,O8 c.op,O8 c.kind,O8 c.int,.string c.str])=H9 at az ao Q ⊢;have b0:J0 ar n8=_:=(Q.gt n8).trans ao;have W:D0 H8 n8 ar b9:=az.trans ⟨by have:=Q.le;omega,fun q hq=>Q.gt q⟩;simp(disch:=try exact O3)only[W0,a5,b0];refine R0 (Z31 (G97 c) (aa.ext W) (by have:(G97 c).size<=210:=ba;omega)) ?_;rintro _ bg bk ⟨bf,av,b1⟩;exact E _ _ _ av ((af.trans (PX.of_ext W)).trans b1)
  .have M:¬ (i:Int)<(r.conds.length:Int):=O0
   have an:r.conds.take i=r.conds:=gJ O0;rw[an] at aa;simp(disch:=try exact O3)only[W0,M];refine⟨v8,?_,a7.trans af⟩;have e:l++J111 r=l4++r.conds.flatMap fun c=>(G97 c).data.toList:=by rw[<- O,J111,bM]
   rw[e];exact aa
end
section
variable {q:M13}
theorem D143:Go.Clo.Enters gQ 48:=⟨_,_,Tryz.func48,rfl,by kernel_rfl⟩
theorem Q142(A:Option Addr)(xs:List ByteArray)(sep:ByteArray)(cap:Nat)(H:Y0)(nx:Nat)(hS:Sl H nx A (N0 xs))(hR:V9 H nx A)(hcap:xs.length<=cap)(hN:xs.length<=1000000)(E:(U26 xs sep).size<=1000000):
  Q2 gQ 48 [.slice A xs.length cap,.string sep] H nx fun r H' nx' => .string (U26 xs sep)=r/\H=H'/\nx=nx':=by
 cases xs with
 | cons x xs=>exact Q131 A (x :: xs) sep cap H nx hS O2 hcap hN E
 | nil=>
  refine⟨_,H,nx,⟨D143,fun F B w hh hl => ?_⟩,rfl,rfl,rfl⟩;obtain⟨A',c',J⟩:∃ A' c',B=[.slice A' 0 c',.string sep]:=by
   cases hl with
   | cons ha hl=>
   cases hl with
   | cons hs hl=>
   cases hl
   cases hs
   rcases hR with rfl | ⟨b,o,c,rfl,_,_⟩
   .rw[ha.sliceN_inv];exact⟨_,_,rfl⟩
   .obtain⟨_,t,c',hF,rfl,hc⟩:=ha.slice_inv
    exact⟨_,_,rfl⟩
  subst J;refine(Tryz.strings_Join_none A' c' sep w).mono fun e w' ⟨he,hw⟩ => ?_
  subst hw;exact⟨_,F,he,.string _,N2.refl hh⟩
theorem G128{sep:List UInt8}{B:Nat}:∀ {r:List (List UInt8)},(∀ z ∈ r,z.length<=B)->(bP sep r).length<=(sep.length+B)*r.length
 | [],_=>by simp[bP]
 | z :: r,h=>by
  have h1:=h z O2;have h2:=G128 (sep:=sep) (r:=r) fun y hy=>h y (eJ _ hy)
  have e:bP sep (z :: r)=sep++z++bP sep r:=by simp[bP]
  rw[e,bH,bH,cV,bJ,eQ];omega
theorem W131{xs:List ByteArray}{sep:ByteArray}{B:Nat}(h:∀ z ∈ xs,z.size<=B):(U26 xs sep).size<=(sep.size+B)*xs.length:=by
 cases xs with
 | nil=>exact aL _
 | cons x r=>
  have h1:=h x O2;have h2:=G128 (sep:=sep.data.toList) (B:=B) (r:=r.map (·.data.toList)) fun z hz=>by
   obtain⟨y,hy,rfl⟩:=gN.1 hz;exact h y (eJ _ hy)
  unfold U26;rw[aC,Lib.join_cons];show(x.data.toList++bP sep.data.toList (r.map (·.data.toList))).toArray.size<=_;rw[List.size_toArray,bH,cV,bJ,eQ];rw[gM] at h2;have e1:x.data.toList.length=x.size:=rfl;have e2:sep.data.toList.length=sep.size:=rfl;rw[e2] at h2;omega
def cmB:ByteArray:=⟨#[44,32]⟩
def Z8(q:M13):List UInt8:=
 if q.agg=1 then [59,32,99,111,117,110,116] else if q.agg=2 then [59,32,115,117,109,32]++q.aggvar.data.toList else if q.agg=3 then [59,32,109,105,110,32]++q.aggvar.data.toList
 else if q.agg=4 then [59,32,109,97,120,32]++q.aggvar.data.toList else []
def B118(q:M13):List UInt8:=[97,110,115,40]++((U26 q.head cmB).data.toList++(Z8 q++[41,32,58,45,32]))
theorem Z137(h:q.aggvar.size<=100):(Z8 q).length<=107:=by
 have e:q.aggvar.data.toList.length=q.aggvar.size:=rfl;unfold Z8
 repeat' split
 all_goals (try rw[bH]);(try rw[e]);simp;try omega
theorem M132(h:G113 q)(h6:q.head.length<=6):(B118 q).length<=800:=by
 have h1:=Z137 h.agg;have h2:=W131 (sep:=cmB) (B:=100) h.head;have h3:cmB.size=2:=rfl;have e:(U26 q.head cmB).data.toList.length=(U26 q.head cmB).size:=rfl;unfold B118;simp only[bH,cV,bE,e];rw[h3] at h2;omega
theorem E148(q:M13){b n0:Nat}{v:Value}{l:List UInt8}{H:Y0}{nx:Nat}(hS:Sl H n0 q.HA (N0 q.head))(hR:V9 H n0 q.HA)(hcap:q.head.length<=q.hc)(hO:Off n0 b v)(aa:n0<=nx)(hp:PW H nx b v l)(hz:G113 q)(h6:q.head.length<=6)(hl:l.length<=700000):
  Q2 gQ 27 [.pointer (some ⟨b,0,none⟩),.agg ⟨Z16 q⟩] H nx fun _ H' nx'=>∃ v',PW H' nx' b v' (l++B118 q)/\PX b H nx v H' nx' v':=by
 refine spec27 ?_;unfold F27;unfold Z16;have W:D0 H nx (hs H nx (O7 [.slice q.HA q.head.length q.hc,O8 q.agg,.string q.aggvar,.slice q.RA q.rules.length q.rc,.slice q.OA q.order.length q.oc])) (nx+1):=(D0.refl H nx).nw _;have Z:J0 (hs H nx (O7 [.slice q.HA q.head.length q.hc,O8 q.agg,.string q.aggvar,.slice q.RA q.rules.length q.rc,.slice q.OA q.order.length q.oc])) nx=O7 [.slice q.HA q.head.length q.hc,O8 q.agg,.string q.aggvar,.slice q.RA q.rules.length q.rc,.slice q.OA q.order.length q.oc]:=Z11 _ _ _;have a6:Sep nx b v:=hp.top (aD _);have a4:=hp.ext W;have a0:PX b H nx v _ _ v:=PX.of_ext W;simp(disch:=try exact O3)only[W0,Z0,Q0.val];generalize hs H nx (O7 [.slice q.HA q.head.length q.hc,O8 q.agg,.string q.aggvar,.slice q.RA q.rules.length q.rc,.slice q.OA q.order.length q.oc])=H1 at W Z a4 a0 ⊢;refine R0 (Z31 ⟨#[97,110,115,40]⟩ a4 (by show l.length+4<=_;omega)) ?_;rintro _ H2 n2 ⟨v2,af,Y⟩;obtain⟨a7,al⟩:=Y.box O0 a6;rw[Z] at a7;have a5:=a0.trans Y;have U:D0 H2 n2 H2 (n2+7):=D0.sf;have hD:=a5.data hO aa;have h2:=W131 (sep:=cmB) (B:=100) hz.head;have h3:cmB.size=2:=rfl;rw[h3] at h2;have ec:(⟨#[44,32]⟩:ByteArray)=cmB:=rfl;simp(disch:=try exact O3)only[W0,a7,ec];refine R0 (Q142 q.HA q.head cmB q.hc _ _ ((hS.ext hD).ext U) ((hR.ext hD).ext U) hcap O0 O0) ?_;rintro _ _ _ ⟨rfl,rfl,rfl⟩;refine R0 (Z31 (U26 q.head cmB) (af.ext U) (by rw[bH];show l.length+4+_<=_;omega)) ?_;rintro _ H3 n3 ⟨v3,R,ah⟩;have V:=(Y.trans (PX.of_ext U)).trans ah;obtain⟨O,ak⟩:=V.box (q:=nx) O0 a6;rw[Z] at O;have a9:(l++(⟨#[97,110,115,40]⟩:ByteArray).data.toList++(U26 q.head cmB).data.toList).length<=700616:=by
  rw[bH,bH];show l.length+4+(U26 q.head cmB).size<=_;omega
 generalize a8:l++(⟨#[97,110,115,40]⟩:ByteArray).data.toList++(U26 q.head cmB).data.toList=l3 at R a9;have ab:=hz.agg;have z0:q.aggvar.data.toList.length=q.aggvar.size:=rfl;have a1:=fun k=>E0 (⟨#[59,32,115,117,109,32]⟩:ByteArray) q.aggvar (by show 6+_<=_;omega) k
 have a2:=fun k=>E0 (⟨#[59,32,109,105,110,32]⟩:ByteArray) q.aggvar (by show 6+_<=_;omega) k
 have a3:=fun k=>E0 (⟨#[59,32,109,97,120,32]⟩:ByteArray) q.aggvar (by show 6+_<=_;omega) k
 refine N5 (fun L H' nx'=>∃ v4,PW H' nx' b v4 (l3++Z8 q)/\PX b H1 (nx+1) v H' nx' v4) ?_ ?_
 .intro j hj
  have E:∀(v':Value) (H':Y0) (nx':Nat),PW H' nx' b v' (l3++Z8 q)->PX b H3 n3 v3 H' nx' v'->j [] H' nx':=fun v' H' nx' h1 h2=>hj _ _ _ ⟨v',h1,V.trans h2⟩
  clear hj;have Q:D0 H3 n3 H3 (n3+7):=D0.sf
  by_cases g1:q.agg=1
  .have d1:decide (q.agg=1)=true:=by simp[g1]
   have et:Z8 q=(⟨#[59,32,99,111,117,110,116]⟩:ByteArray).data.toList:=if_pos g1;rw[et] at E;simp(disch:=try exact O3)only[W0,O,d1];refine R0 (Z31 ⟨#[59,32,99,111,117,110,116]⟩ R (by show _+7<=_;omega)) ?_;rintro _ H4 n4 ⟨v4,M,J⟩;exact E _ _ _ M J
  have d1:decide (q.agg=1)=false:=by simp[g1]
  by_cases g2:q.agg=2
  .have d2:decide (q.agg=2)=true:=by simp[g2]
   have et:Z8 q=((⟨#[59,32,115,117,109,32]⟩:ByteArray)++q.aggvar).data.toList:=by rw[X118,Z8,if_neg g1,if_pos g2]
   rw[et] at E;simp(disch:=try exact O3)only[W0,O,d1,d2,a1];refine R0 (Z31 _ (R.ext Q) (by rw[aA];show _+(6+_)<=_;omega)) ?_;rintro _ H4 n4 ⟨v4,M,J⟩;exact E _ _ _ M ((PX.of_ext Q).trans J)
  have d2:decide (q.agg=2)=false:=by simp[g2]
  by_cases g3:q.agg=3
  .have d3:decide (q.agg=3)=true:=by simp[g3]
   have et:Z8 q=((⟨#[59,32,109,105,110,32]⟩:ByteArray)++q.aggvar).data.toList:=by rw[X118,Z8,if_neg g1,if_neg g2,if_pos g3]
   rw[et] at E;simp(disch:=try exact O3)only[W0,O,d1,d2,d3,a2];refine R0 (Z31 _ (R.ext Q) (by rw[aA];show _+(6+_)<=_;omega)) ?_;rintro _ H4 n4 ⟨v4,M,J⟩;exact E _ _ _ M ((PX.of_ext Q).trans J)
  have d3:decide (q.agg=3)=false:=by simp[g3]
  by_cases g4:q.agg=4
  .have d4:decide (q.agg=4)=true:=by simp[g4]
   have et:Z8 q=((⟨#[59,32,109,97,120,32]⟩:ByteArray)++q.aggvar).data.toList:=by rw[X118,Z8,if_neg g1,if_neg g2,if_neg g3,if_pos g4]
   rw[et] at E;simp(disch:=try exact O3)only[W0,O,d1,d2,d3,d4,a3];refine R0 (Z31 _ (R.ext Q) (by rw[aA];show _+(6+_)<=_;omega)) ?_;rintro _ H4 n4 ⟨v4,M,J⟩;exact E _ _ _ M ((PX.of_ext Q).trans J)
  .have d4:decide (q.agg=4)=false:=by simp[g4]
   have et:Z8 q=[]:=by rw[Z8,if_neg g1,if_neg g2,if_neg g3,if_neg g4]
   rw[et,gV] at E;simp(disch:=try exact O3)only[W0,O,d1,d2,d3,d4];exact E _ _ _ R (PX.refl _ _ _ _)
 rintro L H5 n5 ⟨v5,ae,ag⟩;have aj:=Z137 (q:=q) ab;refine R0 (Z31 ⟨#[41,32,58,45,32]⟩ ae (by rw[bH];show _+5<=_;omega)) ?_;rintro _ H6 n6 ⟨v6,ai,ad⟩;refine⟨v6,?_,a0.trans (ag.trans ad)⟩;have e:l++B118 q=l3++Z8 q++(⟨#[41,32,58,45,32]⟩:ByteArray).data.toList:=by
  rw[<- a8];simp[B118]
 rw[e];exact ai
end
section
variable {k:B94} {l:List B94} {q:M13}
def W7(k:B94):List UInt8:=k.var.data.toList++(if k.desc=true then [32,100,101,115,99] else [])
def Z10:List UInt8:=[32,111,114,100,101,114,32]
def B14:List B94->List UInt8
 | []=>[]
 | k :: r=>Z10++B27 J4 W7 (k :: r)
theorem R141{i:Nat}(h:l[i]? = some k):B14 (l.take (i+1))=B14 (l.take i)++((if i=0 then Z10 else J4)++W7 k):=by
 have h1:=J124 (sep:=J4) (f:=W7) h
 cases l with
 | nil=>simp at h
 | cons a r=>
  cases i with
  | zero=>
   simp only[List.take_zero] at h1 ⊢;have:(a :: r).take 1=[a]:=rfl;rw[show 0+1=1 from rfl,this] at h1 ⊢;show Z10++B27 J4 W7 [a]=[]++(Z10++W7 k)
   rw[h1];simp[B27]
  | succ i=>
   rw[bY,bY] at h1 ⊢;show Z10++B27 J4 W7 _=Z10++B27 J4 W7 _++_;rw[h1,bM];simp
theorem B144(h:k.var.size<=100):(W7 k).length<=105:=by
 have e:k.var.data.toList.length=k.var.size:=rfl;unfold W7;rw[bH,e];have:(if k.desc=true then([32,100,101,115,99]:List UInt8) else []).length<=5:=by split<;>decide
 omega
theorem K135{l:List B94}(h:∀ k ∈ l,k.var.size<=100):(B14 l).length<=7+107*l.length:=by
 have h1:=D116 (sep:=J4) (f:=W7) (B:=105) (l:=l) fun k hk=>B144 (h k hk)
 have h2:J4.length=2:=rfl;rw[h2] at h1
 cases l with
 | nil=>exact aL _
 | cons a r=>
  show(Z10++B27 J4 W7 (a :: r)).length<=_;rw[bH];have:Z10.length=7:=rfl;omega
def Z7:List UInt8:=[32,124,32]
def C118(q:M13):List UInt8:=B118 q++(B27 Z7 J111 q.rules++B14 q.order)
def X126(q:M13):Prop:=∀ r ∈ q.rules,E138 r
def V24(q:M13):ByteArray × Int:=if V81 q=0 then(⟨(C118 q).toArray⟩,0) else(⟨#[]⟩,V81 q)
theorem K138{q:M13}(h:V81 q=0):∀ r ∈ q.rules,Q126 r:=fun r hr=>Y132 (K137 h r hr)
theorem K130(h:V81 q=0)(hS:G113 q)(hN:X126 q):(C118 q).length<=40000:=by
 have hF:=W129 h;have h1:=M132 hS hF.head;have h2:=D116 (sep:=Z7) (f:=J111) (B:=9000) (l:=q.rules) fun r hr=>G133 (hS.rules r hr) (K138 h r hr) (hN r hr)
 have h3:Z7.length=3:=rfl;have h4:=K135 (l:=q.order) fun k hk=>hS.head _ (hF.order k hk)
 have h5:=hF.rules.2;have h6:=hF.ordlen;rw[h3] at h2;unfold C118;rw[bH,bH];omega
theorem X138(q:M13)(H:Y0)(nx:Nat)(hQ:D66 H nx q)(hS:G113 q)(hN:X126 q):Q2 gQ 12 [.agg ⟨Z16 q⟩] H nx fun r H' nx'=>K75 (V24 q)=r/\D0 H nx H' nx':=by
 refine spec12 ?_;unfold F12;have an:D0 H nx (hs H nx (O7 (Z16 q))) (nx+1):=(D0.refl H nx).nw _;have au:J0 (hs H nx (O7 (Z16 q))) nx=O7 [.slice q.HA q.head.length q.hc,O8 q.agg,.string q.aggvar,.slice q.RA q.rules.length q.rc,.slice q.OA q.order.length q.oc]:=Z11 _ _ _;have ho:Z0 (Z16 q)=true:=rfl;have bc:∀ k:VP,B10 [.slice q.HA q.head.length q.hc,O8 q.agg,.string q.aggvar,.slice q.RA q.rules.length q.rc,.slice q.OA q.order.length q.oc] 0 (some 5) k=k (.agg ⟨Z16 q⟩):=fun k=>G123 _ _ _ _ _ k
 simp(disch:=try exact O3)only[W0,Q0.val,ho,R109];generalize hs H nx (O7 (Z16 q))=H1 at an au ⊢;rw[show(Z16 q)=[.slice q.HA q.head.length q.hc,O8 q.agg,.string q.aggvar,.slice q.RA q.rules.length q.rc,.slice q.OA q.order.length q.oc] from rfl];simp(disch:=try exact O3)only[bc];refine R0 (D147 q _ _ (hQ.ext an) hS) ?_;rintro _ H2 n2 ⟨rfl,ak⟩;have a9:=an.trans ak;have aq:=ak.gt nx;rw[au] at aq
 by_cases hq:V81 q=0
 .have d0:decide (V81 q≠0)=false:=by simp[hq]
  have hF:=W129 hq;have b2:=K138 hq;have al:D0 H2 n2 (hs H2 n2 (some (.cells [.pointer none,O6] 97000))) (n2+1):=(D0.refl _ _).nw _;have b9:PW (hs H2 n2 (some (.cells [.pointer none,O6] 97000))) (n2+1) n2 O6 []:=⟨O0,⟨_,Z11 _ _ _,.inl rfl⟩,.inl ⟨rfl,rfl⟩,fun e=>by cases e⟩
  have hO:Off n2 n2 O6:=⟨aD _,fun g hg=>by cases hg⟩
  have bv:nx<n2:=by have:=ak.le;omega
  simp(disch:=try exact O3)only[W0,d0,aq,Z1 _ (show nx≠n2 by omega),bc];have Z:D66 (hs H2 n2 (some (.cells [.pointer none,O6] 97000))) n2 q:=(hQ.ext a9).ext (D0.low al);have b0:J0 (hs H2 n2 (some (.cells [.pointer none,O6] 97000))) nx=O7 [.slice q.HA q.head.length q.hc,O8 q.agg,.string q.aggvar,.slice q.RA q.rules.length q.rc,.slice q.OA q.order.length q.oc]:=by rw[gN _];exact aq
  have ai:D0 H nx (hs H2 n2 (some (.cells [.pointer none,O6] 97000))) (n2+1):=a9.trans al;generalize hs H2 n2 (some (.cells [.pointer none,O6] 97000))=H3 at al b9 Z b0 ai ⊢;refine R0 (E148 q Z.head Z.headH Z.hcap hO O0 b9 hS hF.head O2) ?_;rintro _ H4 n4 ⟨v4,be,b7⟩;rw[eR] at be;have key:∀ {H':Y0} {nx':Nat} {v':Value},PX n2 H3 (n2+1) O6 H' nx' v'->J0 H' nx=O7 [.slice q.HA q.head.length q.hc,O8 q.agg,.string q.aggvar,.slice q.RA q.rules.length q.rc,.slice q.OA q.order.length q.oc]:=fun h=>by
   rw[h.get nx O0 O0 (fun e=>by cases e)];exact b0
  have br:=key b7;have ca:=M132 hS hF.head;have c5:=hF.rules.2;simp(disch:=try exact O3)only[W0,br];refine B1 (fun m L H' nx'=>∃(i:Nat) (v:Value),m+i=q.rules.length/\L=[O8 (i:Int)]/\PW H' nx' n2 v (B118 q++B27 Z7 J111 (q.rules.take i))/\PX n2 H3 (n2+1) O6 H' nx' v) ?_ (m:=q.rules.length) ⟨0,v4,O0,rfl,by simpa [B27] using be,b7⟩;rintro m ih L H5 n5 ⟨i,v5,hm,rfl,a5,ae⟩ a6;have ah:(B27 Z7 J111 (q.rules.take i)).length<=28000:=by
   have h2:=D116 (sep:=Z7) (f:=J111) (B:=9000) (l:=q.rules.take i) fun r hr=>G133 (hS.rules r (C64 hr)) (b2 r (C64 hr)) (hN r (C64 hr))
   have h3:Z7.length=3:=rfl;rw[h3,cK] at h2;omega
  by_cases hi:i<q.rules.length
  .have a1:(i:Int)<(q.rules.length:Int):=O0
   have ht:q.rules[i]? = some q.rules[i]:=aE hi;generalize q.rules[i]=r at ht;have ad:r ∈ q.rules:=aH ht;have hD:D0 H3 n2 H5 n5:=ae.data hO O0;obtain⟨bt,ot,row,ao,bp,a7,_,a0⟩:=Sl.elem (Z.rules.ext hD) G124 O0 ht;have E:∀(v':Value) (H':Y0) (nx':Nat),PW H' nx' n2 v' ((B118 q++B27 Z7 J111 (q.rules.take i))++((if i=0 then [] else Z7)++J111 r))->PX n2 H3 (n2+1) O6 H' nx' v'->ih [O8 ((i:Int)+1)] H' nx':=fun v' H' nx' h1 h2=>
    a6 (m-1) _ _ _ O0 ⟨i+1,v',O0,O2,by rw[J124 ht,<- bM];exact h1,h2⟩
   clear a6;have ar:D0 H5 n5 (hs (hs H5 n5 (O7 [O6,O6])) n5 (O7 [.slice r.AA r.atoms.length r.ac,.slice r.CA r.conds.length r.cc])) (n5+1):=((D0.refl _ _).nw _:D0 H5 n5 _ (n5+1)).h0;have af:=a5.ext ar;have ap:=ae.trans (PX.of_ext (b:=n2) (v:=v5) ar);have bq:Sep n5 n2 v5:=a5.top (aD _);have am:J0 (hs (hs H5 n5 (O7 [O6,O6])) n5 (O7 [.slice r.AA r.atoms.length r.ac,.slice r.CA r.conds.length r.cc])) n5=O7 [.slice r.AA r.atoms.length r.ac,.slice r.CA r.conds.length r.cc]:=Z11 _ _ _;rw[ao];simp(disch:=try exact O3)only[W0,Z0,Nat.reduceAdd,a1,X3 a7,a0,K111,G26];generalize hs (hs H5 n5 (O7 [O6,O6])) n5 (O7 [.slice r.AA r.atoms.length r.ac,.slice r.CA r.conds.length r.cc])=H6 at ar af ap am ⊢;generalize a3:B118 q++B27 Z7 J111 (q.rules.take i)=l4 at a5 af E;have bl:l4.length<=28800:=by rw[<- a3,bH];omega
   refine N5 (fun L H' nx'=>∃ v7,PW H' nx' n2 v7 (l4++(if i=0 then [] else Z7))/\PX n2 H3 (n2+1) O6 H' nx' v7/\J0 H' n5=O7 [.slice r.AA r.atoms.length r.ac,.slice r.CA r.conds.length r.cc]) ?_ ?_
   .intro j hj
    by_cases a2:i=0
    .have M:¬ (0:Int)<(i:Int):=O0
     simp(disch:=try exact O3)only[W0,M];exact hj _ _ _ ⟨v5,by rw[if_pos a2,gV];exact af,ap,am⟩
    .have M:(0:Int)<(i:Int):=O0
     simp(disch:=try exact O3)only[W0,M];refine R0 (Z31 ⟨#[32,124,32]⟩ af (by show l4.length+3<=_;omega)) ?_;rintro _ H7 n7 ⟨v7,ab,Y⟩;obtain⟨av,c8⟩:=Y.box O0 bq;exact hj _ _ _ ⟨v7,by rw[if_neg a2];exact ab,ap.trans Y,by rw[av,am]⟩
   rintro L7 H7 n7 ⟨v7,ab,Y,av⟩;have bs:(l4++(if i=0 then [] else Z7)).length<=28803:=by
    rw[bH];have:(if i=0 then [] else Z7).length<=3:=by split<;>decide
    omega
   rw[<- bM] at E;generalize l4++(if i=0 then [] else Z7)=l6 at ab bs E;simp(disch:=try exact O3)only[W0,av,C13];refine R0 (G149 r ((Z.rule r ad).ext (D0.low (Y.data hO O0))) (Y.off hO O0) (by have:=Y.le;omega) ab (hS.rules r ad) (b2 r ad) (hN r ad) O0) ?_;rintro _ H8 n8 ⟨v8,R,a4⟩;exact E _ _ _ R (Y.trans a4)
  .have a1:¬ (i:Int)<(q.rules.length:Int):=O0
   have ax:q.rules.take i=q.rules:=gJ O0;rw[ax] at a5 ah;clear a6;generalize a3:B118 q++B27 Z7 J111 q.rules=l4 at a5;have bl:l4.length<=28800:=by rw[<- a3,bH];omega
   have bo:=key ae;have c0:=hF.ordlen;have bg:∀ k ∈ q.order,k.var.size<=100:=fun k hk=>hS.head _ (hF.order k hk)
   simp(disch:=try exact O3)only[W0,a1,bo];refine B1 (fun m L H' nx'=>∃(i:Nat) (v:Value),m+i=q.order.length/\L=[O8 (i:Int)]/\PW H' nx' n2 v (l4++B14 (q.order.take i))/\PX n2 H3 (n2+1) O6 H' nx' v) ?_ (m:=q.order.length) ⟨0,v5,O0,rfl,by simpa [B14] using a5,ae⟩;rintro m ih L H8 n8 ⟨i,v8,hm,rfl,R,a4⟩ a6;have ah:(B14 (q.order.take i)).length<=700:=by
    have h4:=K135 (l:=q.order.take i) fun k hk=>bg k (C64 hk)
    rw[cK] at h4;omega
   by_cases hi:i<q.order.length
   .have a1:(i:Int)<(q.order.length:Int):=O0
    have ht:q.order[i]? = some q.order[i]:=aE hi;generalize q.order[i]=k at ht;have bh:k ∈ q.order:=aH ht;have bz:=bg k bh;have hD:D0 H3 n2 H8 n8:=a4.data hO O0;obtain⟨bt,ot,row,ao,bp,a7,_,a0⟩:=Sl.elem (Z.order.ext hD) B126 O0 ht;have E:∀(v':Value) (H':Y0) (nx':Nat),PW H' nx' n2 v' ((l4++B14 (q.order.take i))++((if i=0 then Z10 else J4)++W7 k))->PX n2 H3 (n2+1) O6 H' nx' v'->ih [O8 ((i:Int)+1)] H' nx':=fun v' H' nx' h1 h2=>
     a6 (m-1) _ _ _ O0 ⟨i+1,v',O0,O2,by rw[R141 ht,<- bM];exact h1,h2⟩
    clear a6;have aw:D0 H8 n8 (hs (hs H8 n8 (O7 [.string ⟨#[]⟩,.bool false])) n8 (O7 [.string k.var,.bool k.desc])) (n8+1):=((D0.refl _ _).nw _:D0 H8 n8 _ (n8+1)).h0;have aa:=R.ext aw;have aj:=a4.trans (PX.of_ext (b:=n2) (v:=v8) aw);have bd:Sep n8 n2 v8:=R.top (aD _);have ay:J0 (hs (hs H8 n8 (O7 [.string ⟨#[]⟩,.bool false])) n8 (O7 [.string k.var,.bool k.desc])) n8=O7 [.string k.var,.bool k.desc]:=Z11 _ _ _;rw[ao];simp(disch:=try exact O3)only[W0,Z0,Nat.reduceAdd,a1,X3 a7,a0,D19,G26,N13 (fun d=>V4 _ _)];generalize hs (hs H8 n8 (O7 [.string ⟨#[]⟩,.bool false])) n8 (O7 [.string k.var,.bool k.desc])=H9 at aw aa aj ay ⊢;generalize b4:l4++B14 (q.order.take i)=l8 at R aa E;have c9:l8.length<=29500:=by rw[<- b4,bH];omega
    refine N5 (fun L H' nx'=>∃ W,PW H' nx' n2 W (l8++(if i=0 then Z10 else J4))/\PX n2 H3 (n2+1) O6 H' nx' W/\J0 H' n8=O7 [.string k.var,.bool k.desc]/\Sep n8 n2 W/\n8<nx') ?_ ?_
    .intro j hj
     by_cases a2:i=0
     .have M:decide (i=0)=true:=by simp[a2]
      simp(disch:=try exact O3)only[W0,M];refine R0 (Z31 ⟨#[32,111,114,100,101,114,32]⟩ aa (by show l8.length+7<=_;omega)) ?_;rintro _ b3 b8 ⟨W,Q,J⟩;obtain⟨O,U⟩:=J.box O0 bd;exact hj _ _ _ ⟨W,by rw[if_pos a2];exact Q,aj.trans J,by rw[O,ay],U,by have:=J.le;omega⟩
     .have M:decide (i=0)=false:=by simp[a2]
      simp(disch:=try exact O3)only[W0,M];refine R0 (Z31 ⟨#[44,32]⟩ aa (by show l8.length+2<=_;omega)) ?_;rintro _ b3 b8 ⟨W,Q,J⟩;obtain⟨O,U⟩:=J.box O0 bd;exact hj _ _ _ ⟨W,by rw[if_neg a2];exact Q,aj.trans J,by rw[O,ay],U,by have:=J.le;omega⟩
    rintro c4 b3 b8 ⟨W,Q,J,O,U,az⟩;have bf:(l8++(if i=0 then Z10 else J4)).length<=29507:=by
     rw[bH];have:(if i=0 then Z10 else J4).length<=7:=by split<;>decide
     omega
    rw[<- bM] at E;generalize l8++(if i=0 then Z10 else J4)=l10 at Q bf E;simp(disch:=try exact O3)only[W0,O];refine R0 (Z31 k.var Q O0) ?_;rintro _ c1 c3 ⟨bx,ag,a8⟩;obtain⟨V,bu⟩:=a8.box az U;rw[O] at V;have c7:k.var.data.toList.length=k.var.size:=rfl
    cases hd:k.desc with
    | true=>
     rw[hd] at V;have ek:W7 k=k.var.data.toList++(⟨#[32,100,101,115,99]⟩:ByteArray).data.toList:=by rw[W7,if_pos hd]
     simp(disch:=try exact O3)only[W0,V];refine R0 (Z31 ⟨#[32,100,101,115,99]⟩ ag (by rw[bH];show _+5<=_;omega)) ?_;rintro _ bn bw ⟨c6,ba,b5⟩;exact E _ _ _ (by rw[ek,<- bM];exact ba) ((J.trans a8).trans b5)
    | false=>
     rw[hd] at V;have ek:W7 k=k.var.data.toList:=by rw[W7,hd];simp
     simp(disch:=try exact O3)only[W0,V];exact E _ _ _ (by rw[ek];exact ag) (J.trans a8)
   .have a1:¬ (i:Int)<(q.order.length:Int):=O0
    have ax:q.order.take i=q.order:=gJ O0;rw[ax] at R;have et:l4++B14 q.order=C118 q:=by rw[<- a3,C118,bM]
    rw[et] at R;have c2:=K130 hq hS hN;have bm:C118 q≠[]:=by unfold C118 B118;simp
    have dl:¬ (65536:Int)<((C118 q).length:Int):=O0;simp(disch:=try exact O3)only[W0,a1];refine R0 (X150 R) ?_;rintro _ _ _ ⟨rfl,rfl,rfl⟩;simp(disch:=try exact O3)only[W0,dl];refine R0 (W143 R bm O0) ?_;rintro _ bn _ ⟨rfl,rfl,b6⟩;have bk:=a4.off hO (by omega:n2<=n2+1);have b1:=a4.data hO (by omega:n2<=n2+1);refine⟨by rw[V24,if_pos hq];rfl,by have:=b1.le;omega,fun z hz => ?_⟩;rw[b6 z (fun e=>by have:=bk.2 z e;omega),b1.gt z,ai.get z hz]
 .have d0:decide (V81 q≠0)=true:=by simp[hq]
  simp(disch:=try exact O3)only[W0,d0];exact⟨by rw[V24,if_neg hq];rfl,a9⟩
end
section
variable (a0 a1:Value) (H:Y0) (nx:Nat) (k:EP)
def F26:Prop:=
 M12 a1 H nx fun b c d=>
 C81 b 0 4 c fun _ e=>
 Q4 [.slice none 0 0,.int .i64 0,.slice none 0 0,.slice none 0 0] c d fun c d f=>
 D5 c e 4 d fun d=>
 V4 (fun b=>
 K7 c 1 d fun _ e=>
 D10 .lss e i0 fun e=>
 C1 false e (
 K7 c 1 d fun _ e=>
 K7 c 0 d fun _ g=>
 R4 g 0 d fun g=>
 D10 .gtr e g fun e=>
 C1 false e (
 K7 c 2 d fun _ e=>
 R4 e 0 d fun e=>
 K7 c 1 d fun _ c=>
 D10 .neq e c fun c=>
 b [c] d f) (
 b [bT] d f)) (
 b [bT] d f)) (fun d e f=>
 B0 d.a (
 Rt (.tuple ⟨[(.string ⟨#[]⟩),(.int .i64 3)]⟩) e f k) (
 D24 0 1 [.string ⟨#[]⟩] [] e f fun d e f=>
 K7 c 0 e fun _ g=>
 K7 c 1 e fun _ h=>
 U5 g 1 none (some h) none e fun g=>
 R4 g 0 e fun h=>
 G3 (fun d e f i=>
 D10 .lss e.b h fun h=>
 B0 h (
 U6 g e.b f fun _ b=>
 V4 (fun d=>
 K7 c 2 f fun _ c=>
 U6 c e.b f fun _ c=>
 B0 c (
 D10 .add b (.string ⟨#[45]⟩) fun b=>
 d [b] f i) (
 d [b] f i)) (fun b c f=>
 D24 1 1 [.string ⟨#[]⟩] [(0,b.a)] c f fun b c f=>
 B5 e.a b 1 16 c f fun b c f=>
 D10 .add e.b i1 fun e=>
 d [b,e] c f)) (
 K7 c 0 f fun _ d=>
 C81 b 4 3 f fun _ g=>
 Y2 gQ 14 [d,g] f i fun d f g=>
 G9 d 0 fun h=>
 G9 d 1 fun d=>
 D10 .neq d i0 fun i=>
 B0 i (
 Rt (.tuple ⟨[(.string ⟨#[]⟩),d]⟩) f g k) (
 K7 c 0 f fun _ c=>
 K7 b 7 f fun _ d=>
 Y2 gQ 36 [c,d] f g fun c d f=>
 G9 c 0 fun g=>
 G9 c 1 fun c=>
 D10 .neq c i0 fun i=>
 B0 i (
 Rt (.tuple ⟨[(.string ⟨#[]⟩),c]⟩) d f k) (
 M2 (f+27) fun c=>
 D10 .add a0 (.string ⟨#[32,111,114,100,101,114]⟩) fun f=>
 Y2 gQ 20 [f,e.a] d c fun c e f=>
 D10 .add c (.string ⟨#[10]⟩) fun c=>
 D10 .add c a0 fun c=>
 D10 .add c (.string ⟨#[32,118,101,114,100,105,99,116,32]⟩) fun c=>
 D10 .add c h fun c=>
 D10 .add c (.string ⟨#[10]⟩) fun c=>
 D10 .add a0 (.string ⟨#[32,101,108,105,109,105,110,97,116,101]⟩) fun h=>
 Y2 gQ 20 [h,g] e f fun f g h=>
 D10 .add c f fun c=>
 D10 .add c (.string ⟨#[10]⟩) fun c=>
 D10 .add c a0 fun c=>
 D10 .add c (.string ⟨#[32,119,105,100,116,104,32]⟩) fun c=>
 C81 b 8 3 g fun b f=>
 Y2 gQ 33 [f] g h fun h i j=>
 D10 .add c h fun c=>
 D10 .add c (.string ⟨#[10]⟩) fun c=>
 wK (tB (tA ((cE b (some 3) g f)/\((cE b (some 3) e f)/\(tB (cE b (some 3) d f)))))) (
 Rt (.tuple ⟨[c,i0]⟩) i j k))))) [d,i0] e f))
def F11:Prop:=
 M12 a0 H nx fun b c d=>
 C81 b 0 5 c fun _ e=>
 Y2 gQ 12 [e] c d fun c d e=>
 G9 c 0 fun f=>
 G9 c 1 fun c=>
 D10 .neq c i0 fun g=>
 B0 g (
 Rt (.tuple ⟨[(.string ⟨#[]⟩),c]⟩) d e k) (
 D10 .add (.string ⟨#[113,117,101,114,121,32]⟩) f fun c=>
 D10 .add c (.string ⟨#[10]⟩) fun c=>
 K7 b 5 d fun _ b=>
 R4 b 0 d fun f=>
 G3 (fun c d e g=>
 D10 .lss d.b f fun f=>
 B0 f (
 B15 b d.b 11 e fun _ b=>
 Q4 [.slice none 0 0,.int .i64 0,.slice none 0 0,.slice none 0 0,.int .i64 0,.slice none 0 0,.slice none 0 0,.slice none 0 0,.bool false,.slice none 0 0,.slice none 0 0] e g fun e f g=>
 D5 e b 11 f fun b=>
 M2 (g+11) fun f=>
 D10 .add d.b i1 fun g=>
 Y2 gQ 18 [g] b f fun f g h=>
 D10 .add (.string ⟨#[114,117,108,101,32]⟩) f fun f=>
 J1 e (some 11) g fun i=>
 Y2 gQ 26 [f,i] g h fun f h j=>
 G9 f 0 fun l=>
 G9 f 1 fun f=>
 wK (tB (tA ((cE e (some 11) g i)/\(tB (cE e (some 11) b i))))) (
 D10 .neq f i0 fun b=>
 B0 b (
 Rt (.tuple ⟨[(.string ⟨#[]⟩),f]⟩) h j k) (
 D10 .add d.a l fun b=>
 D10 .add d.b i1 fun d=>
 c [b,d] h j))) (
 Rt (.tuple ⟨[d.a,i0]⟩) e g k)) [c,i0] d e)
def F13:Prop:=
 M12 a0 H nx fun b c d=>
 K7 b 5 c fun _ b=>
 R4 b 0 c fun e=>
 G3 (fun c d f g=>
 D10 .lss d.b e fun e=>
 B0 e (
 B15 b d.b 11 f fun _ b=>
 Q4 [.slice none 0 0,.int .i64 0,.slice none 0 0,.slice none 0 0,.int .i64 0,.slice none 0 0,.slice none 0 0,.slice none 0 0,.bool false,.slice none 0 0,.slice none 0 0] f g fun e f g=>
 D5 e b 11 f fun b=>
 D10 .add (.int .i64 49) d.b fun f=>
 W8 .u8 f fun f=>
 D24 1 1 [.int .u8 0] [(0,f)] b g fun b f g=>
 X16 b f fun b=>
 D10 .add (.string ⟨#[114,117,108,101,32]⟩) b fun b=>
 D10 .add b (.string ⟨#[32]⟩) fun b=>
 C81 e 0 4 f fun _ h=>
 Q4 [.slice none 0 0,.int .i64 0,.slice none 0 0,.slice none 0 0] f g fun f g i=>
 D5 f h 4 g fun g=>
 V4 (fun b=>
 K7 f 1 g fun _ c=>
 D10 .lss c i0 fun c=>
 C1 false c (
 K7 f 1 g fun _ c=>
 K7 f 0 g fun _ d=>
 R4 d 0 g fun d=>
 D10 .gtr c d fun c=>
 C1 false c (
 K7 f 2 g fun _ c=>
 R4 c 0 g fun c=>
 K7 f 1 g fun _ d=>
 D10 .neq c d fun c=>
 b [c] g i) (
 b [bT] g i)) (
 b [bT] g i)) (fun g h i=>
 B0 g.a (
 Rt (.tuple ⟨[(.string ⟨#[]⟩),(.int .i64 3)]⟩) h i k) (
 M2 (i+14) fun g=>
 K7 f 0 h fun i j=>
 B4 e 4 fun l=>
 K7 l 0 h fun l m=>
 C81 e 4 3 h fun n o=>
 Y2 gQ 23 [o] h g fun g p q=>
 Y2 gQ 21 [j,m,g] p q fun g q r=>
 G9 g 0 fun s=>
 G9 g 1 fun g=>
 wK ((tA (tA (tB (cE n (some 3) h o))))/\((tA ((cE l none p m)/\(tB (cE l none h m))))/\(tB (tA ((cE i none p j)/\(tB (cE i none h j))))))) (
 D10 .neq g i0 fun h=>
 B0 h (
 Rt (.tuple ⟨[(.string ⟨#[]⟩),g]⟩) q r k) (
 K7 f 0 q fun _ g=>
 K7 e 7 q fun _ h=>
 Y2 gQ 32 [g,h] q r fun g h i=>
 G9 g 0 fun j=>
 G9 g 1 fun g=>
 D10 .neq g i0 fun l=>
 B0 l (
 Rt (.tuple ⟨[(.string ⟨#[]⟩),g]⟩) h i k) (
 D10 .add b (.string ⟨#[111,114,100,101,114]⟩) fun g=>
 D10 .add d.a g fun g=>
 K7 f 1 h fun _ l=>
 G3 (fun g h i m=>
 D10 .lss h.b l fun l=>
 B0 l (
 V4 (fun b=>
 K7 f 0 i fun _ c=>
 U6 c h.b i fun _ c=>
 D10 .add (.string ⟨#[32]⟩) c fun c=>
 D10 .add h.a c fun c=>
 K7 f 2 i fun _ d=>
 U6 d h.b i fun _ d=>
 B0 d (
 D10 .add c (.string ⟨#[45]⟩) fun c=>
 b [c] i m) (
 b [c] i m)) (fun b c d=>
 D10 .add h.b i1 fun e=>
 g [b.a,e] c d)) (
 D10 .add (.string ⟨#[10]⟩) b fun f=>
 D10 .add f (.string ⟨#[118,101,114,100,105,99,116,32]⟩) fun f=>
 D10 .add f s fun f=>
 D10 .add f (.string ⟨#[10]⟩) fun f=>
 D10 .add f b fun f=>
 D10 .add f (.string ⟨#[101,108,105,109,105,110,97,116,101]⟩) fun f=>
 D10 .add f j fun f=>
 D10 .add f (.string ⟨#[10]⟩) fun f=>
 D10 .add f b fun b=>
 D10 .add b (.string ⟨#[119,105,100,116,104,32]⟩) fun b=>
 C81 e 8 3 i fun _ e=>
 Y2 gQ 33 [e] i m fun e f g=>
 D10 .add b e fun b=>
 D10 .add b (.string ⟨#[10]⟩) fun b=>
 D10 .add h.a b fun b=>
 D10 .add d.b i1 fun d=>
 c [b,d] f g)) [g,i0] h i)))))) (
 Rt (.tuple ⟨[d.a,i0]⟩) f g k)) [(.string ⟨#[]⟩),i0] c d
def F4:Prop:=
 M12 a0 H nx fun b c d=>
 V4 (fun e=>
 J1 b (some 5) c fun b=>
 Y2 gQ 5 [b] c d fun b c d=>
 C1 false b (
 R4 a1 0 c fun b=>
 D10 .gtr b (.int .i64 3) fun b=>
 e [b] c d) (
 e [bT] c d)) (fun c d e=>
 B0 c.a (
 Y2 gQ 7 [] d e fun b c d=>
 Rt b c d k) (
 J1 b (some 5) d fun c=>
 U11 [.slice none 0 0,.int .i64 0,.string ⟨#[]⟩,.slice none 0 0,.slice none 0 0,.slice none 0 0] [(0,5),(5,1)] [(0,c)] fun c=>
 Q4 [.slice none 0 0,.int .i64 0,.string ⟨#[]⟩,.slice none 0 0,.slice none 0 0,.slice none 0 0] d e fun d e f=>
 D5 d c 6 e fun c=>
 R4 a1 0 c fun e=>
 G3 (fun c f g h=>
 D10 .lss f.a e fun e=>
 B0 e (
 B15 a1 f.a 9 g fun _ b=>
 Q4 [.slice none 0 0,.int .i64 0,.slice none 0 0,.int .i64 0,.slice none 0 0,.slice none 0 0,.slice none 0 0,.int .i8 0,.int .i8 0] g h fun e g h=>
 D5 e b 9 g fun b=>
 V4 (fun c=>
 K7 e 0 b fun _ d=>
 C81 e 3 3 b fun _ f=>
 Y2 gQ 6 [d,f] b h fun b d f=>
 C1 false b (
 K7 e 2 d fun _ b=>
 R4 b 0 d fun b=>
 K7 e 6 d fun _ e=>
 R4 e 0 d fun e=>
 D10 .add b e fun b=>
 D10 .gtr b (.int .i64 40) fun b=>
 c [b] d f) (
 c [bT] d f)) (fun b g h=>
 B0 b.a (
 Y2 gQ 7 [] g h fun b c d=>
 Rt b c d k) (
 K7 e 7 g fun _ b=>
 W8 .i64 b fun b=>
 K7 e 8 g fun _ i=>
 W8 .i64 i fun i=>
 Y2 gQ 10 [b,i] g h fun b g h=>
 G9 b 0 fun i=>
 G9 b 1 fun _=>
 Q4 zR g h fun b g h=>
 D5 b i 3 g fun g=>
 K7 d 5 g fun _ i=>
 K7 e 0 g fun _ j=>
 K7 e 1 g fun _ l=>
 K7 e 2 g fun _ m=>
 U11 [.slice none 0 0,.int .i64 0,.slice none 0 0,.slice none 0 0] [(0,1),(1,1),(2,1),(3,1)] [(0,j),(1,l),(2,m)] fun j=>
 C81 e 3 3 g fun _ l=>
 K7 e 6 g fun _ e=>
 J1 b (some 3) g fun b=>
 U11 [.slice none 0 0,.int .i64 0,.slice none 0 0,.slice none 0 0,.int .i64 0,.slice none 0 0,.slice none 0 0,.slice none 0 0,.bool false,.slice none 0 0,.slice none 0 0] [(0,4),(4,3),(7,1),(8,3)] [(0,j),(1,l),(2,e),(3,b)] fun b=>
 D24 1 11 [.slice none 0 0,.int .i64 0,.slice none 0 0,.slice none 0 0,.int .i64 0,.slice none 0 0,.slice none 0 0,.slice none 0 0,.bool false,.slice none 0 0,.slice none 0 0] [(0,b)] g h fun b e g=>
 B5 i b 11 216 e g fun b e g=>
 B4 d 5 fun d=>
 D5 d b 1 e fun b=>
 D10 .add f.a i1 fun d=>
 c [d] b g))) (
 J1 d (some 6) g fun c=>
 Y2 gQ 11 [c] g h fun c e f=>
 G9 c 0 fun g=>
 G9 c 1 fun c=>
 J1 b (some 5) e fun b=>
 Y2 gQ 12 [b] e f fun b e f=>
 G9 b 0 fun h=>
 G9 b 1 fun b=>
 J1 d (some 6) e fun d=>
 Y2 gQ 13 [d] e f fun d e f=>
 G9 d 0 fun i=>
 G9 d 1 fun d=>
 V4 (fun c=>
 D10 .eql b i0 fun g=>
 B0 g (
 c [d] e f) (
 c [b] e f)) (fun b d e=>
 D10 .neq b.a i0 fun f=>
 B0 f (
 D10 .eql g (.string ⟨#[]⟩) fun f=>
 C1 true f (
 D10 .eql c b.a fun b=>
 C1 true b (
 Y2 gQ 7 [] d e fun b c d=>
 Rt b c d k) (
 Rt bF d e k)) (
 Rt bF d e k)) (
 D10 .eql c i0 fun b=>
 C1 true b (
 D10 .add (.string ⟨#[113,117,101,114,121,32]⟩) h fun b=>
 D10 .add b (.string ⟨#[10]⟩) fun b=>
 D10 .add b i fun b=>
 D10 .eql g b fun b=>
 C1 true b (
 Y2 gQ 7 [] d e fun b c d=>
 Rt b c d k) (
 Rt bF d e k)) (
 Rt bF d e k))))) [i0] c f))
variable {a0 a1 H nx k}
theorem spec26:F26 a0 a1 H nx k->Q2 gQ 26 [a0,a1] H nx k:=Q12 [(3,[33]),(12,[9])] [[7,41]] [.one (.tst (.one (.tst (.one .nil) (.one .nil))) (.one (.one (.one .nil))))]
theorem spec11:F11 a0 H nx k->Q2 gQ 11 [a0] H nx k:=Q12 [] [[6,26]] []
theorem spec13:F13 a0 H nx k->Q2 gQ 13 [a0] H nx k:=Q12 [(11,[48]),(26,[4])] [[4,16],[4,81]] [.one (.tst (.one (.tst (.one .nil) (.one .nil))) (.one (.one (.one .nil))))]
theorem spec4:F4 a0 a1 H nx k->Q2 gQ 4 [a0,a1] H nx k:=Q12 [(2,[22]),(12,[46]),(18,[13])] [[28]] [.one (.tst (.one .nil) (.one .nil)),.one (.tst (.one .nil) (.one .nil)),.one (.tst (.one (.tst (.one .nil) (.one .nil))) (.one (.one (.one .nil)))),.one (.tst (.one (.tst (.one .nil) (.one .nil))) (.one (.one (.one .nil))))]
end
end Go.Proofs.YthbdeaeghipliaaGreatDoor
namespace Go.Clo
def C12(E:Y0)(nx:Nat)(H:Y0):Prop:=∀ i b,i<nx->J0 E i=some b->J0 H i=some b
theorem D0.subN{H:Y0}{nx:Nat}{H':Y0}{nx':Nat}(e:D0 H nx H' nx'):C12 H nx H':=fun i b hi hb=>by rw[e.get i hi];exact hb
theorem J146{E H:Y0}{nx b:Nat}{row:List Value}(h:C12 E nx H)(hb:b<nx)(hr:Q5 E b=some row):Q5 H b=some row:=by
 unfold Q5 at hr ⊢
 cases hg:J0 E b with
 | none=>rw[hg] at hr;cases hr
 | some blk=>rw[hg] at hr;rw[h b blk hb hg];exact hr
theorem Sl.sub{E H:Y0}{nx nx':Nat}{A:Option Addr}{c:List Value}(h:Sl E nx A c)(s:C12 E nx H)(hn:nx<=nx'):Sl H nx' A c:=fun i v hv=>
 let ⟨b,o,row,h1,h2,h3,h4⟩:=h i v hv
 ⟨b,o,row,h1,O0,J146 s h2 h3,h4⟩
theorem V9.sub{E H:Y0}{nx nx':Nat}{A:Option Addr}(h:V9 E nx A)(s:C12 E nx H)(hn:nx<=nx'):V9 H nx' A:=by
 rcases h with h | ⟨b,o,c,h1,h2,h3⟩
 .exact .inl h
 .exact .inr ⟨b,o,c,h1,O0,s b _ h2 h3⟩
theorem SK.sub{E H:Y0}{nx nx':Nat}{A:Option Addr}(h:SK E nx A)(s:C12 E nx H)(hn:nx<=nx'):SK H nx' A:=by
 rcases h with h | ⟨b,o,row,h1,h2,h3 | ⟨sl,h3,h4⟩⟩
 .exact .inl h
 .exact .inr ⟨b,o,row,h1,O0,.inl (s b _ h2 h3)⟩
 .exact .inr ⟨b,o,row,h1,O0,.inr ⟨sl,h3,s b _ h2 h4⟩⟩
theorem NN.sub{E H:Y0}{nx nx':Nat}{v:Value}{n:Nat}(h:NN E nx v n)(s:C12 E nx H)(hn:nx<=nx'):NN H nx' v n:=
 let ⟨A,c,h1,h2⟩:=h
 ⟨A,c,h1,h2.sl.sub s hn,h2.sk.sub s hn,h2.small,h2.le⟩
theorem M114{l m:List Value}{o n:Nat}(h:(l.drop o).take n=m)(B:o+n<=l.length)(k:VP):B10 l o (some n) k=k (.agg ⟨m⟩):=by
 rw[X21,h];simp[B]
def bls(l:List Bool):List Value:=l.map dU
theorem D131(l:List Bool):(bls l).length=l.length:=by simp[bls]
theorem R128{l:List Bool}{i:Nat}{b:Bool}(h:l[i]? = some b):(bls l)[i]? = some (.bool b):=by simp[bls,h]
def C124(H:Y0)(nx:Nat)(A:Option Addr)(n cap:Nat):Prop:=(V9 H nx A/\(A=none->cap=0))\/∃ s,A=some ⟨0,0,some s⟩/\n=0/\cap=0
theorem C124.w{H:Y0}{nx:Nat}{A:Option Addr}{n cap:Nat}(h:C124 H nx A n cap):Y18 H nx A n cap:=h.imp (fun h=>⟨h.1.has,h.2⟩) id
theorem C124.sub{E H:Y0}{nx nx':Nat}{A:Option Addr}{n cap:Nat}(h:C124 E nx A n cap)(s:C12 E nx H)(hn:nx<=nx'):C124 H nx' A n cap:=h.imp (fun h=>⟨h.1.sub s hn,h.2⟩) id
theorem X144{H:Y0}{nx:Nat}{A:Option Addr}{n cap h:Nat}(hR:C124 H nx A n cap)(hh:h<=n)(hn:n<=cap)(k:VP):U5 (.slice A n cap) 1 none (some (O8 (h:Int))) none H k=k (.slice A h cap):=by
 rcases hR with ⟨hR,hnil⟩ | ⟨s,rfl,rfl,rfl⟩
 .rcases hR with rfl | ⟨b,o,c,rfl,hb,hg⟩
  .have h0:=hnil rfl
   have h1:n=0:=O0;have h2:h=0:=O0;subst h0 h1 h2
   rfl
  .exact X131 hg O0 k
 .have h2:h=0:=O0
  subst h2
  rfl
end Go.Clo
namespace Go.Proofs.YthbdeaeghipliaaGreatDoor
open Go.Clo
structure K39 where
 VA:Option Addr
 vc:Nat
 vars:List ByteArray
 free:Int
 DA:Option Addr
 dc:Nat
 desc:List Bool
 kind:Int
 PA:Option Addr
 pc:Nat
 p:List Int
 WA:Option Addr
 wc:Nat
 w:List Int
 EA:Option Addr
 ec:Nat
 e:List Int
 s:Bool
 NA:Option Addr
 nc:Nat
 n:Nat
 MA:Option Addr
 mc:Nat
 d:Nat
def K4(x:K39):List Value:=[.slice x.VA x.vars.length x.vc,.int .i64 x.free,.slice x.DA x.desc.length x.dc,.slice none 0 0,.int .i64 x.kind,.slice x.PA x.p.length x.pc,.slice x.WA x.w.length x.wc,.slice x.EA x.e.length x.ec,.bool x.s,.slice x.NA (D11 x.n).length x.nc,.slice x.MA (D11 x.d).length x.mc]
theorem X77(x:K39):(K4 x).length=11:=rfl
def K27(x:K39):List Value:=[.slice x.VA x.vars.length x.vc,.int .i64 x.free,.slice x.DA x.desc.length x.dc,.slice none 0 0]
def vdC(x:K39):List Value:=[.int .i64 x.kind,.slice x.PA x.p.length x.pc,.slice x.WA x.w.length x.wc]
def Y25(x:K39):List Value:=[.bool x.s,.slice x.NA (D11 x.n).length x.nc,.slice x.MA (D11 x.d).length x.mc]
structure D69 (H:Y0) (nx:Nat) (x:K39):Prop where
 vars:Sl H nx x.VA (N0 x.vars)
 varsW:C124 H nx x.VA x.vars.length x.vc
 vcap:x.vars.length<=x.vc
 short:N39 x.vars
 vlen:x.vars.length<=20
 desc:Sl H nx x.DA (bls x.desc)
 dlen:x.desc.length<=40
 p:Sl H nx x.PA (U4 x.p)
 plen:x.p.length<=40
 w:Sl H nx x.WA (U4 x.w)
 wlen:x.w.length<=40
 e:Sl H nx x.EA (U4 x.e)
 elen:x.e.length<=40
 num:NN H nx (.slice x.NA (D11 x.n).length x.nc) x.n
 den:NN H nx (.slice x.MA (D11 x.d).length x.mc) x.d
 nle:x.n<=128
 dle:x.d<=128
theorem D69.sub{E H:Y0}{nx nx':Nat}{x:K39}(h:D69 E nx x)(s:C12 E nx H)(hn:nx<=nx'):D69 H nx' x:=
 ⟨h.vars.sub s hn,h.varsW.sub s hn,h.vcap,h.short,h.vlen,h.desc.sub s hn,h.dlen,h.p.sub s hn,h.plen,h.w.sub s hn,h.wlen,h.e.sub s hn,h.elen,h.num.sub s hn,h.den.sub s hn,h.nle,h.dle⟩
theorem D69.ext{H:Y0}{nx:Nat}{x:K39}{H':Y0}{nx':Nat}(h:D69 H nx x)(e:D0 H nx H' nx'):D69 H' nx' x:=h.sub e.subN e.le
theorem D69.rs{H:Y0}{nx:Nat}{x:K39}(h:D69 H nx x):RS H nx (.agg ⟨Y25 x⟩) x.s x.n x.d:=⟨⟨_,_,rfl,h.num,h.den⟩,h.nle,h.dle⟩
def J91(x:K39):Bool:=decide (x.free<0) || decide ((x.vars.length:Int)<x.free) || !decide ((x.desc.length:Int)=x.free)
def nmB(z:ByteArray)(b:Bool):ByteArray:=if b=true then z++⟨#[45]⟩ else z
def V28:List ByteArray->List Bool->List ByteArray
 | z :: zs,b :: bs=>nmB z b :: V28 zs bs
 | _,_=>[]
theorem U127:∀ {vs:List ByteArray} {ds:List Bool} {i:Nat} {z:ByteArray} {b:Bool},vs[i]? = some z->ds[i]? = some b->V28 (vs.take (i+1)) (ds.take (i+1))=V28 (vs.take i) (ds.take i)++[nmB z b]
 | [],_,i,z,b,h,_=>by simp at h
 | _ :: _,[],i,z,b,_,h=>by simp at h
 | v :: vs,d :: ds,0,z,b,h1,h2=>by
  simp at h1 h2;subst h1 h2;simp[V28]
 | v :: vs,d :: ds,i+1,z,b,h1,h2=>by
  have ih:=U127 (vs:=vs) (ds:=ds) (i:=i) (by simpa using h1) (by simpa using h2);rw[bY,bY,bY,bY,V28,V28,ih]
  rfl
theorem V130:∀(vs:List ByteArray) (ds:List Bool),V28 (vs.take ds.length) ds=V28 vs ds
 | [],ds=>O2
 | v :: vs,[]=>by simp[V28]
 | v :: vs,d :: ds=>by
  rw[cV,bY,V28,V28,V130 vs ds]
theorem J121:∀(vs:List ByteArray) (ds:List Bool),(V28 vs ds).length<=ds.length
 | [],ds=>by simp[V28]
 | v :: vs,[]=>by simp[V28]
 | v :: vs,d :: ds=>by
  have:=J121 vs ds;simp[V28];omega
theorem E142{z:ByteArray}{b:Bool}(h:z.size<=60):(nmB z b).size<=61:=by
 unfold nmB
 split
 .rw[aA]
  have:(⟨#[45]⟩:ByteArray).size=1:=rfl;omega
 .omega
theorem R117:∀ {vs:List ByteArray} {ds:List Bool},N39 vs->∀ z ∈ V28 vs ds,z.size<=61
 | [],ds,_,z,hz=>by simp[V28] at hz
 | v :: vs,[],_,z,hz=>by simp[V28] at hz
 | v :: vs,d :: ds,h,z,hz=>by
  rw[V28] at hz;rcases aU.1 hz with rfl | hz
  .exact E142 (h v O2)
  .exact R117 (fun y hy=>h y (eJ _ hy)) z hz
def Q76(x:K39):ByteArray × Int:=Z38 x.vars x.kind (if x.kind=0 then x.p else x.w)
def D126(s:ByteArray)(x:K39)(zs:List ByteArray):ByteArray:=
 (s++⟨#[32,111,114,100,101,114]⟩++D35 (V28 x.vars x.desc))++⟨#[10]⟩++s++⟨#[32,118,101,114,100,105,99,116,32]⟩++(Q76 x).1++⟨#[10]⟩ ++
  (s++⟨#[32,101,108,105,109,105,110,97,116,101]⟩++D35 zs)++⟨#[10]⟩++s++⟨#[32,119,105,100,116,104,32]⟩++Q15 x.s x.n x.d++⟨#[10]⟩
def U37(s:ByteArray)(x:K39):ByteArray × Int:=
 if J91 x=true then(⟨#[]⟩,3) else if (Q76 x).2≠0 then(⟨#[]⟩,(Q76 x).2) else match G15 x.vars x.e with
 | none=>(⟨#[]⟩,3)
 | some zs=>(D126 s x zs,0)
theorem K149(s:ByteArray)(x:K39)(H:Y0)(nx:Nat)(hX:D69 H nx x)(c1:s.size<=20):Q2 gQ 26 [.string s,.agg ⟨K4 x⟩] H nx fun r H' nx'=>K75 (U37 s x)=r/\D0 H nx H' nx':=by
 refine spec26 ?_;unfold F26;have ho:Z0 (K4 x)=true:=rfl;have ba:D0 H nx (hs H nx (O7 (K4 x))) (nx+1):=(D0.refl H nx).nw _;have be:J0 (hs H nx (O7 (K4 x))) nx=O7 (K4 x):=Z11 _ _ _;have q1:∀ k:VP,B10 (K4 x) 0 (some 4) k=k (.agg ⟨K27 x⟩):=fun k=>M114 rfl (by rw[X77];omega) k
 have q2:∀ k:VP,B10 (K4 x) 4 (some 3) k=k (.agg ⟨vdC x⟩):=fun k=>M114 rfl (by rw[X77];omega) k
 have q3:∀ k:VP,B10 (K4 x) 8 (some 3) k=k (.agg ⟨Y25 x⟩):=fun k=>M114 rfl (by rw[X77];omega) k
 have q4:(K4 x)[7]? = some (.slice x.EA x.e.length x.ec):=rfl;have bl:(K27 x).length=4:=rfl;have bd:Z0 (K27 x)=true:=rfl;have ar:B12 [O6,O8 0,O6,O6] 0 (K27 x)=K27 x:=G24 rfl;have m0:(K27 x)[0]? = some (.slice x.VA x.vars.length x.vc):=rfl;have m1:(K27 x)[1]? = some (O8 x.free):=rfl;have m2:(K27 x)[2]? = some (.slice x.DA x.desc.length x.dc):=rfl;have J:D0 H nx (hs (hs (hs H nx (O7 (K4 x))) (nx+1) (O7 [O6,O8 0,O6,O6])) (nx+1) (O7 (K27 x))) (nx+1+1):=(ba.nw _:D0 H nx _ (nx+1+1)).h0;have az:J0 (hs (hs (hs H nx (O7 (K4 x))) (nx+1) (O7 [O6,O8 0,O6,O6])) (nx+1) (O7 (K27 x))) nx=O7 (K4 x):=by rw[gN _,gN _];exact be
 have an:J0 (hs (hs (hs H nx (O7 (K4 x))) (nx+1) (O7 [O6,O8 0,O6,O6])) (nx+1) (O7 (K27 x))) (nx+1)=O7 (K27 x):=Z11 _ _ _;simp(disch:=try exact O3)only[W0,Q0.val,Nat.reduceAdd,ho,q1,D121,bl,bd,ar,m0,m1,m2];generalize hs (hs (hs H nx (O7 (K4 x))) (nx+1) (O7 [O6,O8 0,O6,O6])) (nx+1) (O7 (K27 x))=H2 at J az an ⊢;have ai:=hX.ext J;refine N5 (fun L H' nx'=>L=[.bool (J91 x)]/\H2=H'/\nx+1+1=nx') ?_ ?_
 .intro j hj
  by_cases b1:x.free<0
  .have e:J91 x=true:=by simp[J91,b1]
   simp(disch:=try exact O3)only[W0,b1];exact hj _ _ _ ⟨by rw[e],rfl,rfl⟩
  by_cases b2:(x.vars.length:Int)<x.free
  .have e:J91 x=true:=by simp[J91,b2]
   simp(disch:=try exact O3)only[W0,b1,b2];exact hj _ _ _ ⟨by rw[e],rfl,rfl⟩
  .have e:J91 x=decide ((x.desc.length:Int)≠x.free):=by simp[J91,b1,b2]
   simp(disch:=try exact O3)only[W0,b1,b2];exact hj _ _ _ ⟨by rw[e],rfl,rfl⟩
 rintro L _ _ ⟨rfl,rfl,rfl⟩
 cases hb:J91 x with
 | true=>
  simp(disch:=try exact O3)only[W0];exact⟨by rw[U37,if_pos hb];rfl,J⟩
 | false=>
 obtain⟨f1,f2,f3⟩:¬ x.free<0/\¬ (x.vars.length:Int)<x.free/\(x.desc.length:Int)=x.free:=by
  simp only[J91,Bool.or_eq_false_iff,decide_eq_false_iff_not,Bool.not_eq_false',decide_eq_true_eq] at hb;exact⟨hb.1.1,hb.1.2,hb.2⟩
 rw[<- f3] at m1;have bc:x.desc.length<=x.vars.length:=O0;have au:D0 H2 (nx+1+1) (hs H2 (nx+1+1) (O7 [])) (nx+1+1+1):=(D0.refl _ _).nw _;have b5:=ai.ext au;simp(disch:=try exact O3)only[W0,an,m0,m1,U21,X144 b5.varsW bc b5.vcap];have key:∀ {H':Y0} {nx':Nat},D0 H2 (nx+1+1) H' nx'->J0 H' nx=O7 (K4 x)/\J0 H' (nx+1)=O7 (K27 x):=fun e=>⟨(e.gt nx).trans az,(e.gt (nx+1)).trans an⟩
 refine B1 (fun m L H' nx'=>∃(i:Nat) (v:Value),m+i=x.desc.length/\L=[v,O8 (i:Int)]/\E23 (nx+1+1) H' nx' v (N0 (V28 (x.vars.take i) (x.desc.take i)))/\D0 H2 (nx+1+1) H' nx') ?_ (m:=x.desc.length)
  ⟨0,_,O0,rfl,.inr ⟨by simp[V28,N0],nx+1+1,aD _,O0,rfl,Z11 _ _ _⟩,au⟩
 rintro m ih L H4 n4 ⟨i,v,hm,rfl,aa,M⟩ b3;obtain⟨bn,al⟩:=key M;have U:=ai.ext M;have ax:=J121 (x.vars.take i) (x.desc.take i);rw[cK] at ax;have bu:=hX.dlen
 by_cases hi:i<x.desc.length
 .have ap:(i:Int)<(x.desc.length:Int):=O0
  have hz:x.vars[i]? = some (x.vars[i]'O0):=aE O0;generalize (x.vars[i]'O0)=z at hz;have hd:x.desc[i]? = some x.desc[i]:=aE hi;generalize x.desc[i]=dd at hd;obtain⟨b,o,row,hA,bx,aw,ay⟩:=U.vars.open (i:=i) (by rw[W2];omega);obtain⟨b2,o2,bo,bm,bz,Y,ab⟩:=U.desc.open (i:=i) (by rw[D131];omega);have c6:=hX.short z (aH hz);have ea:=fun k=>E0 z ⟨#[45]⟩ (by show z.size+1<=_;omega) k
  rw[bm] at m2;rw[hA];simp(disch:=try exact O3)only[W0,ap,X3 aw,ay _ _ (B6 hz),al,m2];refine N5 (fun L H' nx'=>L=[.string (nmB z dd)]/\H4=H'/\n4=nx') ?_ ?_
  .intro j hj
   cases dd with
   | true=>
    simp(disch:=try exact O3)only[W0,X3 Y,ab _ _ (R128 hd),ea];exact hj _ _ _ ⟨rfl,rfl,rfl⟩
   | false=>
    simp(disch:=try exact O3)only[W0,X3 Y,ab _ _ (R128 hd)];exact hj _ _ _ ⟨rfl,rfl,rfl⟩
  rintro _ _ _ ⟨rfl,rfl,rfl⟩;simp(disch:=try exact O3)only[W0,R126];have ae:D0 H2 (nx+1+1) (hs H4 n4 (O7 [.string (nmB z dd)])) (n4+1):=M.new _ M.le O0;refine K38 (aa.ext ((D0.refl H4 n4).nw _)) (J9 (Z11 _ _ _) rfl O0) rfl O0 (by rw[W2];omega) ae (by have:=M.le;omega) ?_;intro v' H' aq bk _;refine b3 (m-1) _ _ _ O0 ⟨i+1,v',O0,O2,?_,bk⟩;rw[U127 hz hd];simpa [N0] using aq
 .have ap:¬ (i:Int)<(x.desc.length:Int):=O0
  have ei:i=x.desc.length:=O0;subst ei;rw[gJ (aD _),V130] at aa;clear b3 ax;have bs:=J121 x.vars x.desc;have bp:D0 H nx H4 n4:=J.trans (M.less O0:D0 H2 (nx+1+1) H4 n4);have bt:=hX.plen;have c5:=hX.wlen;have br:=hX.elen;have c3:=hX.vlen;simp(disch:=try exact O3)only[W0,ap,al,m0,bn,q2];refine R0 (R134 x.VA x.PA x.WA x.vars x.kind x.p x.w x.vc x.pc x.wc _ _ U.vars U.varsW.w hX.short O0 U.p U.w O0 O0) ?_;rintro _ H5 n5 ⟨rfl,ae⟩;have Q:D0 H2 (nx+1+1) H5 n5:=M.trans ae;obtain⟨bg,b9⟩:=key Q;have b7:=ai.ext Q;have ev:Z38 x.vars x.kind (if x.kind=0 then x.p else x.w)=Q76 x:=rfl;rw[ev]
  by_cases hv:(Q76 x).2=0
  .have dv:decide ((Q76 x).2≠0)=false:=by simp[hv]
   simp(disch:=try exact O3)only[W0,K75,dv,b9,m0,bg,q4];refine R0 (Z138 x.VA x.EA x.vars x.e x.vc x.ec _ _ b7.vars b7.e O0) ?_;rintro r H6 n6 ⟨hz,hn,b0⟩;have W:=Q.trans b0;obtain⟨av,c2⟩:=key W
   cases E:G15 x.vars x.e with
   | none=>
    have:=hn E;subst this;simp(disch:=try exact O3)only[W0];exact⟨by rw[U37,if_neg (by simp[hb]),if_neg (by simp[hv]),E],J.trans W⟩
   | some zs=>
    obtain⟨v6,rfl,ao⟩:=hz zs E;have zz:∀ a b:ByteArray,(a++b).size=a.size+b.size:=fun a b=>aA
    have bq:(⟨#[32,111,114,100,101,114]⟩:ByteArray).size=6:=rfl;have c4:(⟨#[10]⟩:ByteArray).size=1:=rfl;have bv:(⟨#[32,118,101,114,100,105,99,116,32]⟩:ByteArray).size=9:=rfl;have c0:(⟨#[32,101,108,105,109,105,110,97,116,101]⟩:ByteArray).size=10:=rfl;have bw:(⟨#[32,119,105,100,116,104,32]⟩:ByteArray).size=7:=rfl;have zo:=D53 (B:=61) (V28 x.vars x.desc) fun z hz=>R117 hX.short z hz
    have zc:=D53 (B:=60) zs fun y hy=>hX.short y (M46 E y hy)
    rw[B32 E] at zc;have zv:(Q76 x).1.size<=70000:=E125 hX.short x.kind (by split<;>omega);have zr:=B127 x.s x.n x.d;generalize hO:D35 (V28 x.vars x.desc)=O at zo;generalize hZ:D35 zs=Z at zc;generalize hV:(Q76 x).1=V at zv;generalize hR:Q15 x.s x.n x.d=R at zr;have a0:=fun k=>E0 (s) (⟨#[32,111,114,100,101,114]⟩) (by first | omega | (simp only[zz];omega)) k
    have a1:=fun k=>E0 ((s++⟨#[32,111,114,100,101,114]⟩++O)) (⟨#[10]⟩) (by first | omega | (simp only[zz];omega)) k
    have a2:=fun k=>E0 ((s++⟨#[32,111,114,100,101,114]⟩++O++⟨#[10]⟩)) (s) (by first | omega | (simp only[zz];omega)) k
    have a3:=fun k=>E0 ((s++⟨#[32,111,114,100,101,114]⟩++O++⟨#[10]⟩++s)) (⟨#[32,118,101,114,100,105,99,116,32]⟩) (by first | omega | (simp only[zz];omega)) k
    have a4:=fun k=>E0 ((s++⟨#[32,111,114,100,101,114]⟩++O++⟨#[10]⟩++s++⟨#[32,118,101,114,100,105,99,116,32]⟩)) (V) (by first | omega | (simp only[zz];omega)) k
    have a5:=fun k=>E0 ((s++⟨#[32,111,114,100,101,114]⟩++O++⟨#[10]⟩++s++⟨#[32,118,101,114,100,105,99,116,32]⟩++V)) (⟨#[10]⟩) (by first | omega | (simp only[zz];omega)) k
    have a6:=fun k=>E0 (s) (⟨#[32,101,108,105,109,105,110,97,116,101]⟩) (by first | omega | (simp only[zz];omega)) k
    have a7:=fun k=>E0 ((s++⟨#[32,111,114,100,101,114]⟩++O++⟨#[10]⟩++s++⟨#[32,118,101,114,100,105,99,116,32]⟩++V++⟨#[10]⟩)) ((s++⟨#[32,101,108,105,109,105,110,97,116,101]⟩++Z)) (by first | omega | (simp only[zz];omega)) k
    have a8:=fun k=>E0 ((s++⟨#[32,111,114,100,101,114]⟩++O++⟨#[10]⟩++s++⟨#[32,118,101,114,100,105,99,116,32]⟩++V++⟨#[10]⟩++(s++⟨#[32,101,108,105,109,105,110,97,116,101]⟩++Z))) (⟨#[10]⟩) (by first | omega | (simp only[zz];omega)) k
    have a9:=fun k=>E0 ((s++⟨#[32,111,114,100,101,114]⟩++O++⟨#[10]⟩++s++⟨#[32,118,101,114,100,105,99,116,32]⟩++V++⟨#[10]⟩++(s++⟨#[32,101,108,105,109,105,110,97,116,101]⟩++Z)++⟨#[10]⟩)) (s) (by first | omega | (simp only[zz];omega)) k
    have ah:=fun k=>E0 ((s++⟨#[32,111,114,100,101,114]⟩++O++⟨#[10]⟩++s++⟨#[32,118,101,114,100,105,99,116,32]⟩++V++⟨#[10]⟩++(s++⟨#[32,101,108,105,109,105,110,97,116,101]⟩++Z)++⟨#[10]⟩++s)) (⟨#[32,119,105,100,116,104,32]⟩) (by first | omega | (simp only[zz];omega)) k
    have ag:=fun k=>E0 ((s++⟨#[32,111,114,100,101,114]⟩++O++⟨#[10]⟩++s++⟨#[32,118,101,114,100,105,99,116,32]⟩++V++⟨#[10]⟩++(s++⟨#[32,101,108,105,109,105,110,97,116,101]⟩++Z)++⟨#[10]⟩++s++⟨#[32,119,105,100,116,104,32]⟩)) (R) (by first | omega | (simp only[zz];omega)) k
    have af:=fun k=>E0 ((s++⟨#[32,111,114,100,101,114]⟩++O++⟨#[10]⟩++s++⟨#[32,118,101,114,100,105,99,116,32]⟩++V++⟨#[10]⟩++(s++⟨#[32,101,108,105,109,105,110,97,116,101]⟩++Z)++⟨#[10]⟩++s++⟨#[32,119,105,100,116,104,32]⟩++R)) (⟨#[10]⟩) (by first | omega | (simp only[zz];omega)) k
    simp(disch:=try exact O3)only[W0,a0,a6];have d0:decide ((0:Int)≠0)=false:=by decide
    have ak:D0 H6 n6 H6 (n6+27):=D0.sf;simp(disch:=try exact O3)only[W0,d0];refine R0 (N131 (s++⟨#[32,111,114,100,101,114]⟩) _ v (V28 x.vars x.desc) _ _ (((aa.ext ae).ext b0).ext ak) (fun z hz=>bK (R117 hX.short z hz) O0) (by first | omega | (simp only[zz];omega)) O0) ?_;rintro _ H7 n7 ⟨rfl,bf⟩;rw[hO];have am:=ak.trans bf;have aj:=W.trans am;simp(disch:=try exact O3)only[a1,a2,a3,a4,a5];refine R0 (N131 (s++⟨#[32,101,108,105,109,105,110,97,116,101]⟩) _ v6 zs _ _ (ao.ext am) (fun z hz=>bK (hX.short z (M46 E z hz)) O0) (by first | omega | (simp only[zz];omega)) (by rw[B32 E];omega)) ?_;rintro _ H8 n8 ⟨rfl,b8⟩;rw[hZ];have ad:=aj.trans b8;obtain⟨b4,_⟩:=key aj;obtain⟨b6,_⟩:=key ad;simp(disch:=try exact O3)only[W0,a7,a8,a9,ah,av,b4,b6,q3];refine R0 (D132 (ai.ext ad).rs) ?_;rintro _ H9 n9 ⟨rfl,bh⟩;rw[hR];simp(disch:=try exact O3)only[ag,af];refine⟨?_,J.trans (ad.trans bh)⟩;rw[U37,if_neg (by simp[hb]),if_neg (by simp[hv]),E];simp only[D126,hO,hZ,hV,hR]
  .have dv:decide ((Q76 x).2≠0)=true:=by simp[hv]
   simp(disch:=try exact O3)only[W0,K75,dv];exact⟨by rw[U37,if_neg (by simp[hb]),if_pos hv],J.trans Q⟩
def B8(i:Nat):ByteArray:=⟨#[114,117,108,101,32]⟩++N10 i
theorem N121(i:Nat):(B8 i).size<=20:=by
 unfold B8;rw[aA];show 5+(N10 i).size<=20;have:(N10 i).size=1:=rfl;omega
theorem E126(s:ByteArray){H:Y0}{nx:Nat}{x:K39}(hX:D69 H nx x)(Y:s.size<=20):(U37 s x).1.size<=80000:=by
 unfold U37
 split
 .exact aL _
 split
 .exact aL _
 cases E:G15 x.vars x.e with
 | none=>exact aL _
 | some zs=>
  have Z:=J121 x.vars x.desc;have R:=hX.dlen;have J:=hX.plen;have W:=hX.wlen;have Q:=hX.elen;have zo:=D53 (B:=61) (V28 x.vars x.desc) fun z hz=>R117 hX.short z hz
  have zc:=D53 (B:=60) zs fun y hy=>hX.short y (M46 E y hy)
  rw[B32 E] at zc;have zv:(Q76 x).1.size<=70000:=E125 hX.short x.kind (by split<;>omega);have zr:=B127 x.s x.n x.d;show(D126 s x zs).size<=80000;have O:(⟨#[32,111,114,100,101,114]⟩:ByteArray).size=6:=rfl;have U:(⟨#[10]⟩:ByteArray).size=1:=rfl;have L:(⟨#[32,118,101,114,100,105,99,116,32]⟩:ByteArray).size=9:=rfl;have V:(⟨#[32,101,108,105,109,105,110,97,116,101]⟩:ByteArray).size=10:=rfl;have M:(⟨#[32,119,105,100,116,104,32]⟩:ByteArray).size=7:=rfl;simp only[D126,aA];omega
def K29:Nat->List K39->ByteArray->ByteArray × Int
 | _,[],acc=>(acc,0)
 | i,x :: r,acc=>if (U37 (B8 i) x).2≠0 then(⟨#[]⟩,(U37 (B8 i) x).2) else K29 (i+1) r (acc++(U37 (B8 i) x).1)
theorem M134:∀(xs:List K39) (i:Nat) (p a:ByteArray),K29 i xs (p++a)=if (K29 i xs a).2=0 then(p++(K29 i xs a).1,0) else(⟨#[]⟩,(K29 i xs a).2)
 | [],i,p,a=>by simp[K29]
 | x :: r,i,p,a=>by
  by_cases h:(U37 (B8 i) x).2=0
  .have e:∀ b,K29 i (x :: r) b=K29 (i+1) r (b++(U37 (B8 i) x).1):=fun b=>by rw[K29,if_neg (by simp[h])]
   rw[e,e,bX,M134 r]
  .have e:∀ b,K29 i (x :: r) b=(⟨#[]⟩,(U37 (B8 i) x).2):=fun b=>by rw[K29,if_pos h]
   rw[e,e,if_neg h]
def E123(q:M13)(xs:List K39):ByteArray × Int:=if (V24 q).2≠0 then(⟨#[]⟩,(V24 q).2) else K29 0 xs (⟨#[113,117,101,114,121,32]⟩++(V24 q).1++⟨#[10]⟩)
theorem Q129{q:M13}(hS:G113 q)(hN:X126 q):(V24 q).1.size<=40000:=by
 unfold V24
 split
 .rename_i h
  have:=K130 h hS hN;show(C118 q).toArray.size<=40000;rw[List.size_toArray];exact this
 .exact aL _
def N72(q:M13)(A:Option Addr)(n c:Nat):List Value:=[.slice q.HA q.head.length q.hc,.int .i64 q.agg,.string q.aggvar,.slice q.RA q.rules.length q.rc,.slice q.OA q.order.length q.oc,.slice A n c]
def B131:List Value:=[.slice none 0 0,.int .i64 0,.slice none 0 0,.slice none 0 0,.int .i64 0,.slice none 0 0,.slice none 0 0,.slice none 0 0,.bool false,.slice none 0 0,.slice none 0 0]
theorem E141(b o:Nat)(H:Y0)(k:VP):J1 (.pointer (some ⟨b,o,none⟩)) (some 11) H k=V7 (J0 H b) o (some 11) k:=W31 b o 10 H k
theorem Y145(b o:Nat)(H:Y0)(k:VP):J1 (.pointer (some ⟨b,o,none⟩)) (some 6) H k=V7 (J0 H b) o (some 6) k:=W31 b o 5 H k
theorem W148(q:M13)(A:Option Addr)(xs:List K39)(c:Nat)(H:Y0)(nx:Nat)(hQ:D66 H nx q)(hS:G113 q)(hN:X126 q)(hA:Sl H nx A (xs.flatMap K4))(hP:∀ x ∈ xs,D69 H nx x)(h3:xs.length<=3):
  Q2 gQ 11 [.agg ⟨N72 q A xs.length c⟩] H nx fun r H' nx'=>K75 (E123 q xs)=r/\D0 H nx H' nx':=by
 refine spec11 ?_;unfold F11;have ho:Z0 (N72 q A xs.length c)=true:=rfl;have U:D0 H nx (hs H nx (O7 (N72 q A xs.length c))) (nx+1):=(D0.refl H nx).nw _;have ab:J0 (hs H nx (O7 (N72 q A xs.length c))) nx=O7 (N72 q A xs.length c):=Z11 _ _ _;have q1:∀ k:VP,B10 (N72 q A xs.length c) 0 (some 5) k=k (.agg ⟨Z16 q⟩):=fun k=>M114 rfl (by show 5<=6;omega) k
 have q5:(N72 q A xs.length c)[5]? = some (.slice A xs.length c):=rfl;simp(disch:=try exact O3)only[W0,Q0.val,ho,q1,R109];generalize hs H nx (O7 (N72 q A xs.length c))=H1 at U ab ⊢;refine R0 (X138 q _ _ (hQ.ext U) hS hN) ?_;rintro _ H2 n2 ⟨rfl,a5⟩;have R:=U.trans a5;have ag:=(a5.gt nx).trans ab;have am:=Q129 hS hN
 by_cases hq:(V24 q).2=0
 .have d0:decide ((V24 q).2≠0)=false:=by simp[hq]
  have z1:(⟨#[113,117,101,114,121,32]⟩:ByteArray).size=6:=rfl;have z2:(⟨#[10]⟩:ByteArray).size=1:=rfl;have a1:=fun k=>E0 (⟨#[113,117,101,114,121,32]⟩:ByteArray) (V24 q).1 O0 k
  have a2:=fun k=>E0 ((⟨#[113,117,101,114,121,32]⟩:ByteArray)++(V24 q).1) ⟨#[10]⟩ (by rw[aA];omega) k
  have hR:E123 q xs=K29 0 xs (⟨#[113,117,101,114,121,32]⟩++(V24 q).1++⟨#[10]⟩):=by rw[E123,if_neg (by simp[hq])]
  have ah:((⟨#[113,117,101,114,121,32]⟩:ByteArray)++(V24 q).1++⟨#[10]⟩).size<=40007:=by rw[aA,aA];omega
  rw[hR];simp(disch:=try exact O3)only[W0,K75,d0,a1,a2,ag,q5];generalize (⟨#[113,117,101,114,121,32]⟩:ByteArray)++(V24 q).1++⟨#[10]⟩=acc0 at ah ⊢;refine B1 (fun m L H' nx'=>∃(i:Nat) (acc:ByteArray),m+i=xs.length/\L=[.string acc,O8 (i:Int)]/\K29 i (xs.drop i) acc=K29 0 xs acc0/\acc.size<=40007+80000*i/\D0 H nx H' nx') ?_ (m:=xs.length) ⟨0,acc0,O0,rfl,rfl,O0,R⟩;rintro m ih L H4 n4 ⟨i,acc,hm,rfl,B,ak,Y⟩ ai
  by_cases hi:i<xs.length
  .have Z:(i:Int)<(xs.length:Int):=O0
   have ht:xs[i]? = some xs[i]:=aE hi;have M:xs.drop i=xs[i] :: xs.drop (i+1):=List.drop_eq_getElem_cons hi;generalize xs[i]=x at ht M;have ae:x ∈ xs:=aH ht;obtain⟨bt,ot,row,af,al,a8,_,V⟩:=Sl.elem (hA.ext Y) X77 O0 ht;rw[af];have a9:(K4 x).length=11:=rfl;have ad:Z0 (K4 x)=true:=rfl;have Q:B12 B131 0 (K4 x)=K4 x:=G24 rfl;have E:∀ k:VP,B10 (K4 x) 0 (some 11) k=k (.agg ⟨K4 x⟩):=fun k=>K26 k
   unfold B131 at Q;have a0:D0 H4 n4 (hs (hs H4 n4 (O7 [O6,O8 0,O6,O6,O8 0,O6,O6,O6,.bool false,O6,O6])) n4 (O7 (K4 x))) (n4+1):=((D0.refl _ _).nw _:D0 H4 n4 _ (n4+1)).h0;have O:J0 (hs (hs H4 n4 (O7 [O6,O8 0,O6,O6,O8 0,O6,O6,O6,.bool false,O6,O6])) n4 (O7 (K4 x))) n4=O7 (K4 x):=Z11 _ _ _;have ei:((i:Int)+1)=((i:Int)+1):=rfl;simp(disch:=try exact O3)only[W0,Nat.reduceAdd,Z,E141,X3 a8,V,a9,ad,Q];generalize hs (hs H4 n4 (O7 [O6,O8 0,O6,O6,O8 0,O6,O6,O6,.bool false,O6,O6])) n4 (O7 (K4 x))=H5 at a0 O ⊢;have a7:D0 H4 n4 H5 (n4+1+11):=a0.more O0;have J:=Y.trans a7;refine R0 (U149 i O0 _ _) ?_;rintro _ _ _ ⟨rfl,rfl,rfl⟩;have z3:(⟨#[114,117,108,101,32]⟩:ByteArray).size=5:=rfl;have z4:(N10 i).size=1:=rfl;have a3:=fun k=>E0 (⟨#[114,117,108,101,32]⟩:ByteArray) (N10 i) O0 k
   have ep:(⟨#[114,117,108,101,32]⟩:ByteArray)++N10 i=B8 i:=rfl;simp(disch:=try exact O3)only[W0,a3,ep,O,E];have aa:=(hP x ae).ext J;have aj:=E126 (B8 i) aa (N121 i);refine R0 (K149 (B8 i) x _ _ aa (N121 i)) ?_;rintro _ H6 n6 ⟨rfl,W⟩;have a6:=(W.gt n4).trans O;rw[M,K29] at B
   by_cases hc:(U37 (B8 i) x).2=0
   .have dc:decide ((U37 (B8 i) x).2≠0)=false:=by simp[hc]
    have a4:=fun k=>E0 acc (U37 (B8 i) x).1 O0 k
    rw[if_neg (by simp[hc])] at B;simp(disch:=try exact O3)only[W0,K75,dc,a4];exact ai (m-1) _ _ _ O0 ⟨i+1,_,O0,O2,B,by rw[aA];omega,J.trans W⟩
   .have dc:decide ((U37 (B8 i) x).2≠0)=true:=by simp[hc]
    rw[if_pos hc] at B;rw[<- B];simp(disch:=try exact O3)only[W0,K75,dc];exact J.trans W
  .have Z:¬ (i:Int)<(xs.length:Int):=O0
   rw[cM O0,K29] at B;rw[<- B];simp(disch:=try exact O3)only[W0,Z];exact Y
 .have d0:decide ((V24 q).2≠0)=true:=by simp[hq]
  have hR:E123 q xs=(⟨#[]⟩,(V24 q).2):=by rw[E123,if_pos hq]
  rw[hR];simp(disch:=try exact O3)only[W0,K75,d0];exact R
theorem R146(q:M13)(A:Option Addr)(xs:List K39)(c:Nat)(H:Y0)(nx:Nat)(hA:Sl H nx A (xs.flatMap K4))(hP:∀ x ∈ xs,D69 H nx x)(h3:xs.length<=3):
  Q2 gQ 13 [.agg ⟨N72 q A xs.length c⟩] H nx fun r H' nx'=>K75 (K29 0 xs ⟨#[]⟩)=r/\D0 H nx H' nx':=by
 refine spec13 ?_;unfold F13;have ho:Z0 (N72 q A xs.length c)=true:=rfl;have ap:D0 H nx (hs H nx (O7 (N72 q A xs.length c))) (nx+1):=(D0.refl H nx).nw _;have bv:J0 (hs H nx (O7 (N72 q A xs.length c))) nx=O7 (N72 q A xs.length c):=Z11 _ _ _;have q5:(N72 q A xs.length c)[5]? = some (.slice A xs.length c):=rfl;simp(config:={ maxSteps:=2000000 }) (disch:=try exact O3)only[W0,Q0.val,ho,q5];generalize hs H nx (O7 (N72 q A xs.length c))=H1 at ap bv ⊢;refine B1 (fun m L H' nx'=>∃(i:Nat) (acc:ByteArray),m+i=xs.length/\L=[.string acc,O8 (i:Int)]/\K29 i (xs.drop i) acc=K29 0 xs ⟨#[]⟩/\acc.size<=80000*i/\D0 H nx H' nx') ?_ (m:=xs.length) ⟨0,⟨#[]⟩,O0,rfl,rfl,aD _,ap⟩;rintro m ih L H4 n4 ⟨i,acc,hm,rfl,E,cu,af⟩ bw
 by_cases hi:i<xs.length
 .have ai:(i:Int)<(xs.length:Int):=O0
  have ht:xs[i]? = some xs[i]:=aE hi;have Y:xs.drop i=xs[i] :: xs.drop (i+1):=List.drop_eq_getElem_cons hi;generalize xs[i]=x at ht Y;have aq:x ∈ xs:=aH ht;obtain⟨bt,ot,row,bq,cx,U,_,ae⟩:=Sl.elem (hA.ext af) X77 O0 ht;rw[bq];have ar:(K4 x).length=11:=rfl;have ba:Z0 (K4 x)=true:=rfl;have a8:B12 B131 0 (K4 x)=K4 x:=G24 rfl;unfold B131 at a8;have c5:(K27 x).length=4:=rfl;have bu:Z0 (K27 x)=true:=rfl;have ad:B12 [O6,O8 0,O6,O6] 0 (K27 x)=K27 x:=G24 rfl;have q1:∀ k:VP,B10 (K4 x) 0 (some 4) k=k (.agg ⟨K27 x⟩):=fun k=>M114 rfl (by rw[X77];omega) k
  have q2:∀ k:VP,B10 (K4 x) 4 (some 3) k=k (.agg ⟨vdC x⟩):=fun k=>M114 rfl (by rw[X77];omega) k
  have q3:∀ k:VP,B10 (K4 x) 8 (some 3) k=k (.agg ⟨Y25 x⟩):=fun k=>M114 rfl (by rw[X77];omega) k
  have q4:(K4 x)[4]? = some (O8 x.kind):=rfl;have q7:(K4 x)[7]? = some (.slice x.EA x.e.length x.ec):=rfl;have m0:(K27 x)[0]? = some (.slice x.VA x.vars.length x.vc):=rfl;have m1:(K27 x)[1]? = some (O8 x.free):=rfl;have m2:(K27 x)[2]? = some (.slice x.DA x.desc.length x.dc):=rfl;have z3:(⟨#[114,117,108,101,32]⟩:ByteArray).size=5:=rfl;have z4:(N10 i).size=1:=rfl;have z5:(⟨#[32]⟩:ByteArray).size=1:=rfl;have zp:=N121 i;have zz:∀ a b:ByteArray,(a++b).size=a.size+b.size:=fun a b=>aA
  have a3:=fun k=>E0 (⟨#[114,117,108,101,32]⟩:ByteArray) (N10 i) O0 k
  have ep:(⟨#[114,117,108,101,32]⟩:ByteArray)++N10 i=B8 i:=rfl;have a4:=fun k=>E0 (B8 i) ⟨#[32]⟩ O0 k
  have c9:∀ k:VP,D10 .add (O8 49) (O8 (i:Int)) k=k (O8 (49+(i:Int))):=fun k=>N32 _ _ k O0 O0
  have ew:∀ {H':Y0} {b:Nat},J0 H' b=O7 [.int .u8 (49+(i:Int))]->∀ k:VP,X16 (.slice (some ⟨b,0,none⟩) 1 1) H' k=k (.string (N10 i)):=fun hg k=>Q148 O0 hg k
  simp(config:={ maxSteps:=2000000 }) (disch:=try exact O3)only[W0,Nat.reduceAdd,ai,E141,X3 U,ae,ar,ba,a8,c9,Z149 (show i<3 by omega),N147];have am:D0 H4 n4 (hs (hs (hs H4 n4 (O7 [O6,O8 0,O6,O6,O8 0,O6,O6,O6,.bool false,O6,O6])) n4 (O7 (K4 x))) (n4+1) (O7 [.int .u8 (49+(i:Int))])) (n4+1+1):=(((D0.refl _ _).nw _:D0 H4 n4 _ (n4+1)).h0).nw _;have ah:J0 (hs (hs (hs H4 n4 (O7 [O6,O8 0,O6,O6,O8 0,O6,O6,O6,.bool false,O6,O6])) n4 (O7 (K4 x))) (n4+1) (O7 [.int .u8 (49+(i:Int))])) n4=O7 (K4 x):=by rw[gN _,Z11]
  rw[ew (Z11 _ _ _)];generalize hs (hs (hs H4 n4 (O7 [O6,O8 0,O6,O6,O8 0,O6,O6,O6,.bool false,O6,O6])) n4 (O7 (K4 x))) (n4+1) (O7 [.int .u8 (49+(i:Int))])=H5 at am ah ⊢;have aw:D0 H4 n4 (hs (hs H5 (n4+1+1) (O7 [O6,O8 0,O6,O6])) (n4+1+1) (O7 (K27 x))) (n4+1+1+1):=(am.nw _:D0 H4 n4 _ (n4+1+1+1)).h0;have ab:J0 (hs (hs H5 (n4+1+1) (O7 [O6,O8 0,O6,O6])) (n4+1+1) (O7 (K27 x))) n4=O7 (K4 x):=by rw[gN _,gN _];exact ah
  have M:J0 (hs (hs H5 (n4+1+1) (O7 [O6,O8 0,O6,O6])) (n4+1+1) (O7 (K27 x))) (n4+1+1)=O7 (K27 x):=Z11 _ _ _;simp(config:={ maxSteps:=2000000 }) (disch:=try exact O3)only[W0,Nat.reduceAdd,a3,ep,a4,D121,ah,q1,c5,bu,ad];generalize hs (hs H5 (n4+1+1) (O7 [O6,O8 0,O6,O6])) (n4+1+1) (O7 (K27 x))=H6 at aw ab M ⊢;have a2:=af.trans aw;have an:=(hP x aq).ext a2;have hX:=hP x aq;have ax:=E126 (B8 i) hX (N121 i);rw[Y,K29] at E;refine N5 (fun L H' nx'=>L=[.bool (J91 x)]/\H6=H'/\n4+1+1+1=nx') ?_ ?_
  .intro j hj
   by_cases b1:x.free<0
   .have e:J91 x=true:=by simp[J91,b1]
    simp(disch:=try exact O3)only[W0,m0,m1,m2,b1];exact hj _ _ _ ⟨by rw[e],rfl,rfl⟩
   by_cases b2:(x.vars.length:Int)<x.free
   .have e:J91 x=true:=by simp[J91,b2]
    simp(disch:=try exact O3)only[W0,m0,m1,m2,b1,b2];exact hj _ _ _ ⟨by rw[e],rfl,rfl⟩
   .have e:J91 x=decide ((x.desc.length:Int)≠x.free):=by simp[J91,b1,b2]
    simp(disch:=try exact O3)only[W0,m0,m1,m2,b1,b2];exact hj _ _ _ ⟨by rw[e],rfl,rfl⟩
  rintro L _ _ ⟨rfl,rfl,rfl⟩
  cases hb:J91 x with
  | true=>
   have ec:U37 (B8 i) x=(⟨#[]⟩,3):=by rw[U37,if_pos hb]
   rw[ec,if_pos (by decide)] at E;rw[<- E];simp(config:={ maxSteps:=2000000 }) (disch:=try exact O3)only[W0];exact⟨rfl,a2⟩
  | false=>
  obtain⟨f1,f2,f3⟩:¬ x.free<0/\¬ (x.vars.length:Int)<x.free/\(x.desc.length:Int)=x.free:=by
   simp only[J91,Bool.or_eq_false_iff,decide_eq_false_iff_not,Bool.not_eq_false',decide_eq_true_eq] at hb;exact⟨hb.1.1,hb.1.2,hb.2⟩
  rw[<- f3] at m1;have ct:x.desc.length<=x.vars.length:=O0;have bz:D0 H6 (n4+1+1+1) H6 (n4+1+1+1+14):=D0.sf;simp(config:={ maxSteps:=2000000 }) (disch:=try exact O3)only[W0,M,ab,m0,q4,q2];unfold vdC;refine R0 (N141 x.kind x.PA x.WA x.p.length x.pc x.w.length x.wc _ _) ?_;rintro _ H8 n8 ⟨rfl,bh⟩;have key:∀ {H':Y0} {nx':Nat},D0 H6 (n4+1+1+1) H' nx'->J0 H' n4=O7 (K4 x)/\J0 H' (n4+1+1)=O7 (K27 x):=fun e=>⟨(e.gt n4).trans ab,(e.gt (n4+1+1)).trans M⟩
  have O:=bz.trans bh;obtain⟨be,ay⟩:=key O;have ag:=an.ext O;have bp:=hX.plen;have c3:=hX.wlen;have cf:=hX.elen;have cv:=hX.vlen;have cn:=hX.dlen;obtain⟨LL,B,bc,c8,bm,bn,cq⟩:∃(LL:List Int) (B:Option Addr) (bc:Nat),(if x.kind=0 then x.p else x.w)=LL/\(if x.kind=0 then Value.slice x.PA x.p.length x.pc else .slice x.WA x.w.length x.wc) = .slice B LL.length bc/\Sl H8 n8 B (U4 LL)/\LL.length<=40:=by
   by_cases a7:x.kind=0
   .exact⟨x.p,x.PA,x.pc,if_pos a7,if_pos a7,ag.p,bp⟩
   .exact⟨x.w,x.WA,x.wc,if_neg a7,if_neg a7,ag.w,c3⟩
  rw[bm];refine R0 (D149 x.VA B x.vars x.kind LL x.vc bc _ _ ag.vars bn hX.short O0 O0) ?_;rintro _ H9 n9 ⟨rfl,c0⟩;have ev:Z38 x.vars x.kind LL=Q76 x:=by rw[<- c8];rfl
  rw[ev];have W:=O.trans c0;obtain⟨bg,aa⟩:=key W;have a5:=an.ext W;have a6:=a2.trans W
  by_cases hv:(Q76 x).2=0
  .have dv:decide ((Q76 x).2≠0)=false:=by simp[hv]
   simp(config:={ maxSteps:=2000000 }) (disch:=try exact O3)only[W0,K75,dv,be,ay,bg,aa,m0,q4,q7];refine R0 (G140 x.VA x.EA x.vars x.e x.vc x.ec _ _ a5.vars a5.e hX.short O0) ?_;rintro r _ _ ⟨hz,hn,rfl,rfl⟩
   cases J:G15 x.vars x.e with
   | none=>
    have:=hn J;subst this;have ec:U37 (B8 i) x=(⟨#[]⟩,3):=by rw[U37,if_neg (by simp[hb]),if_neg (by simp[hv]),J]
    have d3:decide ((3:Int)≠0)=true:=by decide
    rw[ec,if_pos (by decide)] at E;rw[<- E];simp(config:={ maxSteps:=2000000 }) (disch:=try exact O3)only[W0,d3];exact a6
   | some zs=>
    have:=hz zs J;subst this;have d0:decide ((0:Int)≠0)=false:=by decide
    have ci:=J121 x.vars x.desc;have zo:=D53 (B:=61) (V28 x.vars x.desc) fun z hz=>R117 hX.short z hz
    have zc:=D53 (B:=60) zs fun y hy=>hX.short y (M46 J y hy)
    rw[B32 J] at zc;have zv:(Q76 x).1.size<=70000:=E125 hX.short x.kind (by split<;>omega);have zr:=B127 x.s x.n x.d;have cj:(⟨#[111,114,100,101,114]⟩:ByteArray).size=5:=rfl;have cd:(⟨#[10]⟩:ByteArray).size=1:=rfl;have cz:(⟨#[118,101,114,100,105,99,116,32]⟩:ByteArray).size=8:=rfl;have cb:(⟨#[101,108,105,109,105,110,97,116,101]⟩:ByteArray).size=9:=rfl;have co:(⟨#[119,105,100,116,104,32]⟩:ByteArray).size=6:=rfl;have ec:U37 (B8 i) x=(D126 (B8 i) x zs,0):=by rw[U37,if_neg (by simp[hb]),if_neg (by simp[hv]),J]
    rw[ec,if_neg O2] at E;rw[ec] at ax;have c1:=fun k=>E0 (B8 i++⟨#[32]⟩) ⟨#[111,114,100,101,114]⟩ (by simp only[zz];omega) k
    have c2:=fun k=>E0 acc ((B8 i++⟨#[32]⟩)++⟨#[111,114,100,101,114]⟩) (by simp only[zz];omega) k
    simp(config:={ maxSteps:=2000000 }) (disch:=try exact O3)only[W0,d0,c1,c2,aa,m1];obtain⟨S1,ak⟩:∃ S1,S1=acc++((B8 i++⟨#[32]⟩)++⟨#[111,114,100,101,114]⟩):=⟨_,rfl⟩
    have cg:S1.size<=240100:=by rw[ak];simp only[zz];omega
    rw[<- ak];have bs:S1++D35 (V28 (x.vars.take 0) (x.desc.take 0))=S1:=by
     apply J113;rw[bB,bB,X118];show S1.data.toList++[]=_;rw[gV]
    refine B1 (fun m L H' nx'=>∃ k:Nat,m+k=x.desc.length/\L=[.string (S1++D35 (V28 (x.vars.take k) (x.desc.take k))),O8 (k:Int)]/\H9=H'/\n9=nx') ?_ (m:=x.desc.length) ⟨0,O0,by rw[bs];rfl,rfl,rfl⟩;rintro mm cm L _ _ ⟨k,cl,rfl,rfl,rfl⟩ a9
    by_cases hk:k<x.desc.length
    .have aj:(k:Int)<(x.desc.length:Int):=O0
     have hz:x.vars[k]? = some (x.vars[k]'O0):=aE O0;generalize (x.vars[k]'O0)=z at hz;have hd:x.desc[k]? = some x.desc[k]:=aE hk;generalize x.desc[k]=dd at hd;obtain⟨b,o,row,bx,cr,U,au⟩:=a5.vars.open (i:=k) (by rw[W2];omega);obtain⟨b2,o2,ca,c7,cs,Q,a0⟩:=a5.desc.open (i:=k) (by rw[D131];omega);have cy:=hX.short z (aH hz);have bl:=J121 (x.vars.take k) (x.desc.take k);rw[cK] at bl;have zk:=D53 (B:=61) (V28 (x.vars.take k) (x.desc.take k)) fun z hz=>R117 (fun y hy=>hX.short y (C64 hy)) z hz
     have bd:=U127 hz hd;have a1:S1++D35 (V28 (x.vars.take (k+1)) (x.desc.take (k+1)))=S1++(D35 (V28 (x.vars.take k) (x.desc.take k))++sp++nmB z dd):=by rw[bd,D133]
     generalize D35 (V28 (x.vars.take k) (x.desc.take k))=C at zk a1 ⊢;have cw:sp.size=1:=rfl;have ch:(⟨#[45]⟩:ByteArray).size=1:=rfl;have ce:(V28 (x.vars.take k) (x.desc.take k)).length<=40:=O0;have x1:=fun k=>E0 sp z O0 k
     have x2:=fun k=>E0 (S1++C) (sp++z) (by simp only[zz];omega) k
     have x3:=fun k=>E0 (S1++C++(sp++z)) ⟨#[45]⟩ (by simp only[zz];omega) k
     have c4:(⟨#[32]⟩:ByteArray)=sp:=rfl;rw[c7] at m2;rw[bx] at m0;simp(config:={ maxSteps:=2000000 }) (disch:=try exact O3)only[W0,aj,aa,m0,m2,X3 U,au _ _ (B6 hz),c4,x1,x2];refine N5 (fun L H' nx'=>L=[.string (S1++D35 (V28 (x.vars.take (k+1)) (x.desc.take (k+1))))]/\H9=H'/\n9=nx') ?_ ?_
     .intro j hj
      cases dd with
      | true=>
       simp(disch:=try exact O3)only[W0,X3 Q,a0 _ _ (R128 hd),x3];exact hj _ _ _ ⟨by rw[a1,nmB,if_pos rfl];simp only[bX],rfl,rfl⟩
      | false=>
       simp(disch:=try exact O3)only[W0,X3 Q,a0 _ _ (R128 hd)];exact hj _ _ _ ⟨by rw[a1,nmB,if_neg O2];simp only[bX],rfl,rfl⟩
     rintro _ _ _ ⟨rfl,rfl,rfl⟩;simp(disch:=try exact O3)only[W0];exact a9 (mm-1) _ _ _ O0 ⟨k+1,O0,O2,rfl,rfl⟩
    .have aj:¬ (k:Int)<(x.desc.length:Int):=O0
     have ek:k=x.desc.length:=O0;subst ek;rw[gJ (aD _),V130];clear a9;obtain⟨C,hC⟩:∃ C,C=D35 (V28 x.vars x.desc):=⟨_,rfl⟩
     obtain⟨Z,hZ⟩:∃ Z,Z=D35 zs:=⟨_,rfl⟩
     obtain⟨V,hV⟩:∃ V,V=(Q76 x).1:=⟨_,rfl⟩
     obtain⟨R,hR⟩:∃ R,R=Q15 x.s x.n x.d:=⟨_,rfl⟩
     rw[<- hC] at zo ⊢;rw[<- hZ] at zc ⊢;rw[<- hV] at zv ⊢;rw[<- hR] at zr;have b0:=fun k=>E0 (⟨#[10]⟩:ByteArray) (B8 i++⟨#[32]⟩) (by simp only[zz];omega) k
     have b1:=fun k=>E0 ((⟨#[10]⟩:ByteArray)++(B8 i++⟨#[32]⟩)) ⟨#[118,101,114,100,105,99,116,32]⟩ (by simp only[zz];omega) k
     have b2:=fun k=>E0 (((⟨#[10]⟩:ByteArray)++(B8 i++⟨#[32]⟩))++⟨#[118,101,114,100,105,99,116,32]⟩) V (by simp only[zz];omega) k
     have b3:=fun k=>E0 ((((⟨#[10]⟩:ByteArray)++(B8 i++⟨#[32]⟩))++⟨#[118,101,114,100,105,99,116,32]⟩)++V) ⟨#[10]⟩ (by simp only[zz];omega) k
     have b4:=fun k=>E0 (((((⟨#[10]⟩:ByteArray)++(B8 i++⟨#[32]⟩))++⟨#[118,101,114,100,105,99,116,32]⟩)++V)++⟨#[10]⟩) (B8 i++⟨#[32]⟩) (by simp only[zz];omega) k
     have b5:=fun k=>E0 ((((((⟨#[10]⟩:ByteArray)++(B8 i++⟨#[32]⟩))++⟨#[118,101,114,100,105,99,116,32]⟩)++V)++⟨#[10]⟩)++(B8 i++⟨#[32]⟩)) ⟨#[101,108,105,109,105,110,97,116,101]⟩ (by simp only[zz];omega) k
     have b6:=fun k=>E0 (((((((⟨#[10]⟩:ByteArray)++(B8 i++⟨#[32]⟩))++⟨#[118,101,114,100,105,99,116,32]⟩)++V)++⟨#[10]⟩)++(B8 i++⟨#[32]⟩))++⟨#[101,108,105,109,105,110,97,116,101]⟩) Z (by simp only[zz];omega) k
     have b7:=fun k=>E0 ((((((((⟨#[10]⟩:ByteArray)++(B8 i++⟨#[32]⟩))++⟨#[118,101,114,100,105,99,116,32]⟩)++V)++⟨#[10]⟩)++(B8 i++⟨#[32]⟩))++⟨#[101,108,105,109,105,110,97,116,101]⟩)++Z) ⟨#[10]⟩ (by simp only[zz];omega) k
     have b8:=fun k=>E0 (((((((((⟨#[10]⟩:ByteArray)++(B8 i++⟨#[32]⟩))++⟨#[118,101,114,100,105,99,116,32]⟩)++V)++⟨#[10]⟩)++(B8 i++⟨#[32]⟩))++⟨#[101,108,105,109,105,110,97,116,101]⟩)++Z)++⟨#[10]⟩) (B8 i++⟨#[32]⟩) (by simp only[zz];omega) k
     have b9:=fun k=>E0 ((((((((((⟨#[10]⟩:ByteArray)++(B8 i++⟨#[32]⟩))++⟨#[118,101,114,100,105,99,116,32]⟩)++V)++⟨#[10]⟩)++(B8 i++⟨#[32]⟩))++⟨#[101,108,105,109,105,110,97,116,101]⟩)++Z)++⟨#[10]⟩)++(B8 i++⟨#[32]⟩)) ⟨#[119,105,100,116,104,32]⟩ (by simp only[zz];omega) k
     have ao:=fun k=>E0 (((((((((((⟨#[10]⟩:ByteArray)++(B8 i++⟨#[32]⟩))++⟨#[118,101,114,100,105,99,116,32]⟩)++V)++⟨#[10]⟩)++(B8 i++⟨#[32]⟩))++⟨#[101,108,105,109,105,110,97,116,101]⟩)++Z)++⟨#[10]⟩)++(B8 i++⟨#[32]⟩))++⟨#[119,105,100,116,104,32]⟩) R (by simp only[zz];omega) k
     have av:=fun k=>E0 ((((((((((((⟨#[10]⟩:ByteArray)++(B8 i++⟨#[32]⟩))++⟨#[118,101,114,100,105,99,116,32]⟩)++V)++⟨#[10]⟩)++(B8 i++⟨#[32]⟩))++⟨#[101,108,105,109,105,110,97,116,101]⟩)++Z)++⟨#[10]⟩)++(B8 i++⟨#[32]⟩))++⟨#[119,105,100,116,104,32]⟩)++R) ⟨#[10]⟩ (by simp only[zz];omega) k
     have c6:=fun k=>E0 (S1++C) (((((((((((((⟨#[10]⟩:ByteArray)++(B8 i++⟨#[32]⟩))++⟨#[118,101,114,100,105,99,116,32]⟩)++V)++⟨#[10]⟩)++(B8 i++⟨#[32]⟩))++⟨#[101,108,105,109,105,110,97,116,101]⟩)++Z)++⟨#[10]⟩)++(B8 i++⟨#[32]⟩))++⟨#[119,105,100,116,104,32]⟩)++R)++⟨#[10]⟩) (by simp only[zz];omega) k
     simp(config:={ maxSteps:=2000000 }) (disch:=try exact O3)only[W0,aj,b0,b1,b2,b3,b4,b5,b6,b7,b8,b9,bg,q3];refine R0 (D132 a5.rs) ?_;rintro _ ck cp ⟨rfl,az⟩;rw[<- hR];have al:S1++C++(((((((((((((⟨#[10]⟩:ByteArray)++(B8 i++⟨#[32]⟩))++⟨#[118,101,114,100,105,99,116,32]⟩)++V)++⟨#[10]⟩)++(B8 i++⟨#[32]⟩))++⟨#[101,108,105,109,105,110,97,116,101]⟩)++Z)++⟨#[10]⟩)++(B8 i++⟨#[32]⟩))++⟨#[119,105,100,116,104,32]⟩)++R)++⟨#[10]⟩)=acc++D126 (B8 i) x zs:=by
      rw[ak];unfold D126;rw[<- hC,<- hZ,<- hV,<- hR];have br:∀ r:ByteArray,(⟨#[32]⟩:ByteArray)++((⟨#[111,114,100,101,114]⟩:ByteArray)++r)=(⟨#[32,111,114,100,101,114]⟩:ByteArray)++r:=fun r=>by rw[<- bX];rfl
      have bk:∀ r:ByteArray,(⟨#[32]⟩:ByteArray)++((⟨#[118,101,114,100,105,99,116,32]⟩:ByteArray)++r)=(⟨#[32,118,101,114,100,105,99,116,32]⟩:ByteArray)++r:=fun r=>by rw[<- bX];rfl
      have bf:∀ r:ByteArray,(⟨#[32]⟩:ByteArray)++((⟨#[101,108,105,109,105,110,97,116,101]⟩:ByteArray)++r)=(⟨#[32,101,108,105,109,105,110,97,116,101]⟩:ByteArray)++r:=fun r=>by rw[<- bX];rfl
      have bo:∀ r:ByteArray,(⟨#[32]⟩:ByteArray)++((⟨#[119,105,100,116,104,32]⟩:ByteArray)++r)=(⟨#[32,119,105,100,116,104,32]⟩:ByteArray)++r:=fun r=>by rw[<- bX];rfl
      simp only[bX,br,bk,bf,bo]
     simp(config:={ maxSteps:=2000000 }) (disch:=try exact O3)only[ao,av,c6];rw[al];exact bw (m-1) _ _ _ O0 ⟨i+1,_,O0,O2,E,by rw[aA];omega,a6.trans az⟩
  .have dv:decide ((Q76 x).2≠0)=true:=by simp[hv]
   have ec:U37 (B8 i) x=(⟨#[]⟩,(Q76 x).2):=by rw[U37,if_neg (by simp[hb]),if_pos hv]
   rw[ec,if_pos (by simp[hv])] at E;rw[<- E];simp(config:={ maxSteps:=2000000 }) (disch:=try exact O3)only[W0,K75,dv,be,ay,m0,q4];exact a6
 .have ai:¬ (i:Int)<(xs.length:Int):=O0
  rw[cM O0,K29] at E;rw[<- E];simp(disch:=try exact O3)only[W0,ai];exact⟨rfl,af⟩
end Go.Proofs.YthbdeaeghipliaaGreatDoor
