/-
  The executor as a claim: rules for proofs.
  The executor as a claim: sets of vertices as numbers.
  The executor as a claim: slices that read as lists.
  The executor as a claim: append to a slice that the function has made.
-/
import Derived.Test.YtoiioigihocgbaaGreatDoorN12
set_option linter.all false
noncomputable section
namespace Go.Clo
variable {H H1:Y0} {m n1 nx:Nat}
theorem N5{body:JK->Prop}{E:JK}(R:JK)(h1:∀ j:JK,(∀ L H nx,R L H nx->j L H nx)->body j)(h2:∀ L H nx,R L H nx->E L H nx):V4 body E:=h1 E h2
theorem R1(body:JK->Prop)(E:JK):V4 body E=body E:=rfl
theorem B1{F:JK->JK}(I:Nat->List Value->Y0->Nat->Prop)(step:∀ m ih L H nx,I m L H nx->(∀ m' L' H' nx',m'<m->I m' L' H' nx'->ih L' H' nx')->F ih L H nx)
  {m:Nat}{L:List Value}{H:Y0}{nx:Nat}(h:I m L H nx):G3 F L H nx:=by
 have key:∀(k m:Nat) (L:List Value) (H:Y0) (nx:Nat),m<k->I m L H nx->Q33 F k L H nx:=by
  intro k
  induction k with
  | zero=>intro m L H nx h;omega
  | succ k ih=>
   intro m L H nx hm hI;exact step m (Q33 F k) L H nx hI fun m' L' H' nx' J E=>ih m' L' H' nx' (by omega) E
 exact⟨m+1,key (m+1) m L H nx (by omega) h⟩
theorem R0{P:Program}{f:FuncId}{args:List Value}{k:EP}{Q:EP}(h:Q2 P f args H nx Q)(hk:∀ v H' nx',Q v H' nx'->k v H' nx'):Y2 P f args H nx k := .inr (h.mono hk)
structure D0 (H:Y0) (nx:Nat) (H':Y0) (nx':Nat):Prop where
 le:nx<=nx'
 get:∀ i,i<nx->J0 H' i=J0 H i
theorem D0.refl(H:Y0)(nx:Nat):D0 H nx H nx:=⟨Nat.le_refl _,fun _ _=>rfl⟩
theorem D0.trans{H:Y0}{nx:Nat}{H1:Y0}{n1:Nat}{H2:Y0}{n2:Nat}(a:D0 H nx H1 n1)(b:D0 H1 n1 H2 n2):D0 H nx H2 n2:=
 ⟨Nat.le_trans a.le b.le,fun i hi=>(b.get i (Nat.lt_of_lt_of_le hi a.le)).trans (a.get i hi)⟩
theorem D0.new{i:Nat}(a:D0 H nx H1 n1)(b:Option C1)(hi:nx<=i)(hm:n1<=m):D0 H nx (hs H1 i b) m:=
 ⟨Nat.le_trans a.le hm,fun j hj=>by rw[N7,if_neg (by omega)];exact a.get j hj⟩
theorem D0.hs{H:Y0}{nx:Nat}{H1:Y0}{i m:Nat}{b:Option C1}(a:D0 H nx H1 m)(hi:nx<=i):D0 H nx (Go.Clo.hs H1 i b) m:=a.new b hi (Nat.le_refl _)
theorem D0.self(h:nx<=m):D0 H nx H m:=⟨h,fun _ _=>rfl⟩
theorem D0.more{H:Y0}{nx:Nat}{H1:Y0}{n1 m:Nat}(a:D0 H nx H1 n1)(hm:n1<=m):D0 H nx H1 m:=⟨Nat.le_trans a.le hm,a.get⟩
theorem D0.less{n0:Nat}(a:D0 H nx H1 n1)(hm:n0<=nx):D0 H n0 H1 n1:=⟨Nat.le_trans hm a.le,fun i hi=>a.get i (by omega)⟩
theorem G10(k:IntKind):eqK k k=true:=by cases k<;>rfl
theorem X6(op:BinOp)(x y:Value)(k:VP):U0 op x y k=(R9 op x y).elim False k:=V47 op x y False k
section
variable (K:IntKind) (a b:Int) (k:VP)
theorem E45:U0 .lss (.int K a) (.int K b) k=k (.bool (decide (a<b))):=by rw[X6];simp[R9,N4,G10,G7]
theorem Q43:U0 .leq (.int K a) (.int K b) k=k (.bool (decide (a<=b))):=by rw[X6];simp[R9,N4,G10,G7]
theorem G48:U0 .gtr (.int K a) (.int K b) k=k (.bool (decide (b<a))):=by rw[X6];simp[R9,N4,G10,G7]
theorem M42:U0 .geq (.int K a) (.int K b) k=k (.bool (decide (b<=a))):=by rw[X6];simp[R9,N4,G10,G7]
theorem V44:U0 .eql (.int K a) (.int K b) k=k (.bool (decide (a=b))):=by rw[X6];simp[R9,N4,G10,G7];rfl
theorem Z47:U0 .neq (.int K a) (.int K b) k=k (.bool (decide (a≠b))):=by
 rw[X6];simp only[R9,N4,G10,G7,cond_true,cond_false,Option.elim_some];congr 2;rw[Bool.eq_iff_iff];simp
theorem Z63:U0 .add (.int K a) (.int K b) k=k (.int K (K.wrap (a+b))):=by rw[X6];simp[R9,N4,G10,G7]
theorem R11:U0 .sub (.int K a) (.int K b) k=k (.int K (K.wrap (a-b))):=by rw[X6];simp[R9,N4,G10,G7]
theorem Z62(h:b≠0):U0 .rem (.int K a) (.int K b) k=k (.int K (a.tmod b)):=by rw[X6];simp[R9,N4,G10,G7,h]
theorem Y23{x:Int}(h1 : -9223372036854775808<=x)(h2:x<9223372036854775808):IntKind.i64.wrap x=x:=IntWalk.i64_in _ ⟨h1,by omega⟩
theorem N32(h1 : -9223372036854775808<=a+b)(h2:a+b<9223372036854775808):U0 .add (.int .i64 a) (.int .i64 b) k=k (.int .i64 (a+b)):=by rw[Z63,Y23 h1 h2]
theorem N33(h1 : -9223372036854775808<=a-b)(h2:a-b<9223372036854775808):U0 .sub (.int .i64 a) (.int .i64 b) k=k (.int .i64 (a-b)):=by rw[R11,Y23 h1 h2]
end
theorem C46(b:Bool)(t e:Prop):K2 (.bool b) t e=if b=true then t else e:=by unfold K2;exact E14 b t e
theorem M29(b:Bool)(y n:Prop):K3 true (.bool b) y n=if b=true then y else n:=by cases b<;>rfl
theorem Z27(b:Bool)(y n:Prop):K3 false (.bool b) y n=if b=true then n else y:=by cases b<;>rfl
theorem Y35(a b:Value)(k:VP):J65 (.bool true) a b k=k a:=rfl
theorem X29(a b:Value)(k:VP):J65 (.bool false) a b k=k b:=rfl
theorem Z50(b:Bool)(k:VP):wUn .not (.bool b) k=k (.bool !b):=by unfold wUn;rw[J8];rfl
theorem G51(b o:Nat)(s:Option Nat)(off:Nat)(k:VP):B4 (.pointer (some ⟨b,o,s⟩)) off k=k (.pointer (some ⟨b,o+off,s⟩)):=by
 show M2 (o+off) (fun n=>k (.pointer (some ⟨b,n,s⟩)))=_;rw[G1]
theorem U33{i:Int}{n:Nat}(h1:0<=i)(h2:i<n)(b o:Nat)(s:Option Nat)(c size:Nat)(kd:IntKind)(k:VP):M3 (.slice (some ⟨b,o,s⟩) n c) (.int kd i) none size k=k (.pointer (some ⟨b,o+i.toNat*size,s⟩)):=by
 obtain⟨j,rfl⟩:=Int.eq_ofNat_of_zero_le h1;have:Nat.blt j n=true:=by simp;omega
 show cond (Nat.blt j n) (U19 (o+j*size) ⟨b,o,s⟩ k) False=_;rw[this];unfold U19;simp only[cond_true];rw[G1];rfl
theorem K32{i:Int}{n:Nat}(h1:0<=i)(h2:i<n)(b o:Nat)(s:Option Nat)(size:Nat)(kd:IntKind)(k:VP):M3 (.pointer (some ⟨b,o,s⟩)) (.int kd i) (some n) size k=k (.pointer (some ⟨b,o+i.toNat*size,s⟩)):=by
 obtain⟨j,rfl⟩:=Int.eq_ofNat_of_zero_le h1;have:Nat.blt j n=true:=by simp;omega
 show cond (Nat.blt j n) (U19 (o+j*size) ⟨b,o,s⟩ k) False=_;rw[this];unfold U19;simp only[cond_true];rw[G1];rfl
theorem W47(a:Addr)(k:VP):C70 (.pointer (some a)) k=k (.pointer (some a)):=rfl
theorem M50(l:List Value)(i:Nat)(k:VP):G9 (.tuple ⟨l⟩) i k=(l[i]?).elim False k:=by unfold G9;exact Z12 l i False k
theorem W38(l:List Value)(o:Nat)(k:VP):G42 (.agg ⟨l⟩) o none k=(l[o]?).elim False k:=by unfold G42 E21;exact Z12 l o False k
theorem K40(l:List Value)(o n:Nat)(k:VP):G42 (.agg ⟨l⟩) o (some n) k=k (.agg ⟨(l.drop o).take n⟩):=by unfold G42 E21;exact V2 _ _
theorem J35(a:Option Addr)(n c:Nat)(H:Y0)(k:VP):R4 (.slice a n c) 0 H k=k (.int .i64 n):=rfl
theorem R28(s:ByteArray)(H:Y0)(k:VP):R4 (.string s) 1 H k=k (.int .i64 s.size):=by unfold R4;exact G1 _ _
theorem Z32(kd k':IntKind)(n:Int)(k:VP):W8 kd (.int k' n) k=k (.int kd (kd.wrap n)):=by
 show cond (Q14 kd n) (k (.int kd n)) (Q16 (kd.wrap n) fun n=>k (.int kd n))=_;rw[J21]
 cases hf:Q14 kd n with
 | true=>rw[Z21 hf];rfl
 | false=>rfl
theorem Q37(b:C1)(y:Q0)(H:Y0)(nx:Nat)(k:EP):J3 b y H nx k=k (y.val nx) (hs H nx (some b)) (nx+1):=by unfold J3;rw[G4,G1,E7]
theorem W59(nx i:Nat)(y:Q0)(k:VP):wNm nx i y k=k (y.val (nx+i)):=by unfold wNm;rw[G1,Y5]
theorem B18{v:Value}(h:Z0 v.cells.toList=true)(k:List Value->Prop):E5 v k=k v.cells.toList:=by unfold E5;rw[h];exact V2 _ _
theorem Y31(l:List Value)(k:List Value->Prop):E5 (.agg ⟨l⟩) k=if Z0 l=true then k l else False:=by
 show cond (Z0 l) (spine l k) False=_;rw[V2];cases Z0 l<;>rfl
theorem D45(K:IntKind)(n:Int)(k:List Value->Prop):E5 (.int K n) k=k [.int K n]:=B18 (v := .int K n) rfl k
theorem N35(A:Option Addr)(n c:Nat)(k:List Value->Prop):E5 (.slice A n c) k=k [.slice A n c]:=B18 (v := .slice A n c) rfl k
theorem Y30(s:ByteArray)(k:List Value->Prop):E5 (.string s) k=k [.string s]:=B18 (v := .string s) rfl k
theorem W41(s:Bool)(k:List Value->Prop):E5 (.bool s) k=k [.bool s]:=B18 (v := .bool s) rfl k
theorem Q45(s:Option Nat)(k:List Value->Prop):E5 (.map s) k=k [.map s]:=B18 (v := .map s) rfl k
theorem W44(s:Option Addr)(k:List Value->Prop):E5 (.pointer s) k=k [.pointer s]:=B18 (v := .pointer s) rfl k
theorem Q66(len size:Nat)(z:List Value)(vs:List (Nat × Value))(k:List Value->Prop):K6 len size z vs k=(match V16 (fun k=>some (k*size,size)) (U3 z len) vs with | some cs=>if Z0 cs=true then k cs else False | none=>False):=by
 unfold K6
 cases V16 (fun k=>some (k*size,size)) (U3 z len) vs with
 | none=>rfl
 | some cs=>dsimp only;rw[V2];cases Z0 cs<;>rfl
def B10(c:List Value)(o:Nat)(size:Option Nat)(k:VP):Prop:=match size with
 | none=>(c[o]?).elim False k
 | some n=>o+n<=c.length/\k (.agg ⟨(c.drop o).take n⟩)
def ldP(b:Option C1)(o:Nat)(size:Option Nat)(k:VP):Prop:=match b with
 | some (.cells c _)=>B10 c o size k
 | some (.rom c)=>B10 c o size k
 | _=>False
theorem R23{α:Type}:∀ {n:Nat} {l:List α},n<=l.length->G5 n l=some (l.take n)
 | 0,l,_=>by simp[G5]
 | n+1,[],h=>by simp at h
 | n+1,a :: l,h=>by simp[G5,R23 (n:=n) (l:=l) (by simpa using h)]
theorem M23{α:Type}:∀ {n:Nat} {l:List α},l.length<n->G5 n l=none
 | 0,l,h=>by omega
 | n+1,[],_=>rfl
 | n+1,a :: l,h=>by simp[G5,M23 (n:=n) (l:=l) (by simpa using h)]
theorem U57(o:Nat)(size:Option Nat)(k:VP)(c:List Value)(E:∀ n,size=some n->0<n):ldC o size False k c=B10 c o size k:=by
 unfold ldC B10
 cases size with
 | none=>exact Z12 c o False k
 | some n=>
  dsimp only;have hn:=E n rfl
  by_cases h:o+n<=c.length
  .rw[R23 (by simp;omega)];dsimp only;rw[V2];simp[h]
  .rw[M23 (by simp;omega)];simp[h]
theorem V60(b o:Nat)(size:Option Nat)(H:Y0)(k:VP)(E:∀ n,size=some n->0<n):J1 (.pointer (some ⟨b,o,none⟩)) size H k=ldP (J0 H b) o size k:=by
 show D12 H b False (ldB o size False k)=_;rw[Y4];unfold ldP
 cases J0 H b with
 | none=>rfl
 | some blk=>
  cases blk with
  | map es q=>rfl
  | cells c sl=>exact U57 o size k c E
  | rom c=>exact U57 o size k c E
theorem J48(b o:Nat)(H:Y0)(k:VP):J1 (.pointer (some ⟨b,o,none⟩)) none H k=ldP (J0 H b) o none k:=V60 b o none H k (fun n h=>by cases h)
theorem W31(b o n:Nat)(H:Y0)(k:VP):J1 (.pointer (some ⟨b,o,none⟩)) (some (n+1)) H k=ldP (J0 H b) o (some (n+1)) k:=V60 b o _ H k (fun m h=>by cases h;omega)
theorem V65(b o:Nat)(H:Y0)(k:VP):J1 (.pointer (some ⟨b,o,none⟩)) (some 2) H k=ldP (J0 H b) o (some 2) k:=W31 b o 1 H k
theorem G65(b o:Nat)(H:Y0)(k:VP):J1 (.pointer (some ⟨b,o,none⟩)) (some 3) H k=ldP (J0 H b) o (some 3) k:=W31 b o 2 H k
theorem X57(b o:Nat)(H:Y0)(k:VP):J1 (.pointer (some ⟨b,o,none⟩)) (some 32) H k=ldP (J0 H b) o (some 32) k:=W31 b o 31 H k
theorem Y40(c:List Value)(sl o:Nat)(size:Option Nat)(k:VP):ldP (some (.cells c sl)) o size k=B10 c o size k:=rfl
theorem Y50(c:List Value)(o:Nat)(size:Option Nat)(k:VP):ldP (some (.rom c)) o size k=B10 c o size k:=rfl
theorem Q40(c:List Value)(o:Nat)(k:VP):B10 c o none k=(c[o]?).elim False k:=rfl
theorem X21(c:List Value)(o n:Nat)(k:VP):B10 c o (some n) k=(o+n<=c.length/\k (.agg ⟨(c.drop o).take n⟩)):=rfl
def B12(c:List Value)(o:Nat)(vs:List Value):List Value:=c.take o++vs++c.drop (o+vs.length)
def stP(b:Option C1)(o:Nat)(vs:List Value)(k:C1->Prop):Prop:=match b with
 | some (.cells c sl)=>o+vs.length<=c.length/\k (.cells (B12 c o vs) sl)
 | _=>False
theorem J30(H:Y0)(b o:Nat)(vs:List Value)(k:Y0->Prop):U12 H ⟨b,o,none⟩ vs False k=stP (J0 H b) o vs fun blk=>k (hs H b (some blk)):=by
 unfold U12 stP;dsimp only;rw[Y4]
 cases J0 H b with
 | none=>rfl
 | some blk=>
  cases blk with
  | map es q=>rfl
  | rom c=>rfl
  | cells c sl=>
   dsimp only[Option.elim_some]
   by_cases h:o+vs.length<=c.length
   .rw[Nat.ble_eq_true_of_le h];simp only[cond_true];rw[V2,G4];simp[h,B12]
   .have:Nat.ble (o+vs.length) c.length=false:=by
     cases hb:Nat.ble (o+vs.length) c.length with
     | false=>rfl
     | true=>exact absurd (Nat.le_of_ble_eq_true hb) h
    rw[this];simp[h]
theorem C16{v:Value}{size:Nat}(h1:v.cells.toList.length=size)(h2:Z0 v.cells.toList=true)(b o:Nat)(H:Y0)(k:Y0->Prop):D5 (.pointer (some ⟨b,o,none⟩)) v size H k=stP (J0 H b) o v.cells.toList fun blk=>k (hs H b (some blk)):=by
 show cond (Nat.beq v.cells.toList.length size&&Z0 v.cells.toList) (U12 H ⟨b,o,none⟩ v.cells.toList False k) False=_;rw[h2,h1];have:Nat.beq size size=true:=by simp
 rw[this];exact J30 H b o _ k
theorem C49(l:List Value)(size b o:Nat)(H:Y0)(k:Y0->Prop):D5 (.pointer (some ⟨b,o,none⟩)) (.agg ⟨l⟩) size H k=if l.length=size/\Z0 l=true then stP (J0 H b) o l fun blk=>k (hs H b (some blk)) else False:=by
 by_cases h:l.length=size/\Z0 l=true
 .rw[if_pos h];exact C16 (v := .agg ⟨l⟩) h.1 h.2 b o H k
 .rw[if_neg h]
  show cond (Nat.beq l.length size&&Z0 l) (U12 H ⟨b,o,none⟩ l False k) False=False;have:(Nat.beq l.length size&&Z0 l)=false:=by
   cases hb:(Nat.beq l.length size&&Z0 l) with
   | false=>rfl
   | true=>
    rw[Bool.and_eq_true] at hb;exact absurd ⟨Nat.eq_of_beq_eq_true hb.1,hb.2⟩ h
  rw[this];rfl
section
variable (b o:Nat) (H:Y0) (k:Y0->Prop)
theorem D50(K:IntKind)(n:Int):D5 (.pointer (some ⟨b,o,none⟩)) (.int K n) 1 H k=stP (J0 H b) o [.int K n] fun blk=>k (hs H b (some blk)):=C16 (v := .int K n) rfl rfl b o H k
theorem M47(x:Bool):D5 (.pointer (some ⟨b,o,none⟩)) (.bool x) 1 H k=stP (J0 H b) o [.bool x] fun blk=>k (hs H b (some blk)):=C16 (v := .bool x) rfl rfl b o H k
theorem R32(x:ByteArray):D5 (.pointer (some ⟨b,o,none⟩)) (.string x) 1 H k=stP (J0 H b) o [.string x] fun blk=>k (hs H b (some blk)):=C16 (v := .string x) rfl rfl b o H k
theorem Z41(A:Option Addr)(n c:Nat):D5 (.pointer (some ⟨b,o,none⟩)) (.slice A n c) 1 H k=stP (J0 H b) o [.slice A n c] fun blk=>k (hs H b (some blk)):=C16 (v := .slice A n c) rfl rfl b o H k
theorem U51(A:Option Addr):D5 (.pointer (some ⟨b,o,none⟩)) (.pointer A) 1 H k=stP (J0 H b) o [.pointer A] fun blk=>k (hs H b (some blk)):=C16 (v := .pointer A) rfl rfl b o H k
theorem C50(r:Option Nat):D5 (.pointer (some ⟨b,o,none⟩)) (.map r) 1 H k=stP (J0 H b) o [.map r] fun blk=>k (hs H b (some blk)):=C16 (v := .map r) rfl rfl b o H k
theorem G47(f:Fn)(x y:Array Value):D5 (.pointer (some ⟨b,o,none⟩)) (.func f x y) 1 H k=stP (J0 H b) o [.func f x y] fun blk=>k (hs H b (some blk)):=C16 (v := .func f x y) rfl rfl b o H k
end
theorem U20(c:List Value)(sl o:Nat)(vs:List Value)(k:C1->Prop):stP (some (.cells c sl)) o vs k=(o+vs.length<=c.length/\k (.cells (B12 c o vs) sl)):=rfl
theorem G24{c vs:List Value}(h:vs.length=c.length):B12 c 0 vs=vs:=by
 unfold B12;simp[h]
theorem E0(H:Y0)(i:Nat)(b:Option C1):J0 (hs H i b) i=b:=by rw[N7,if_pos rfl]
theorem Z1{H:Y0}{i j:Nat}(b:Option C1)(h:j≠i):J0 (hs H i b) j=J0 H j:=by rw[N7,if_neg h]
theorem Q25(H:Y0)(size n:Nat)(b o len cap:Nat)(k:List Value->Prop)(hn:0<n*size):Z5 H size n (.slice (some ⟨b,o,none⟩) len cap) False k=match (J0 H b).bind C1.row with
  | some c=>o+n*size<=c.length/\k ((c.drop o).take (n*size))
  | none=>False:=by
 unfold Z5 B19;dsimp only;rw[Y4];have E:∀ c:List Value,(match G5 (n*size) (c.drop o) with | some l=>spine l k | none=>False)=(o+n*size<=c.length/\k ((c.drop o).take (n*size))):=by
  intro c
  by_cases h:o+n*size<=c.length
  .rw[R23 (by simp;omega)];dsimp only;rw[V2];simp[h]
  .rw[M23 (by simp;omega)];simp[h]
 cases J0 H b with
 | none=>rfl
 | some blk=>
  cases blk with
  | map es q=>rfl
  | cells c sl=>exact E c
  | rom c=>exact E c
end Go.Clo

namespace Go.Clo
variable {a b n:Nat}
def Z2(a b:Nat):Nat:=a ^^^ (a &&& b)
theorem N1(a b i:Nat):(Z2 a b).testBit i=(a.testBit i && !b.testBit i):=by
 unfold Z2;rw[Nat.testBit_xor,Nat.testBit_and];cases a.testBit i<;>cases b.testBit i<;>rfl
theorem Z6(h:a<2^n):Z2 a b<2^n:=Nat.xor_lt_two_pow h (Nat.and_lt_two_pow' _ h)
where
 Nat.and_lt_two_pow' {x n:Nat} (y:Nat) (h:x<2^n):x &&& y<2^n:=Nat.lt_of_le_of_lt Nat.and_le_left h
theorem D15{a:Nat}(h:a<4294967296):IntKind.u32.wrap (a:Int)=a:=by
 simp only[IntKind.wrap,IntKind.signed,IntKind.bits];simp;omega
theorem W10(w a:Nat):BitVec.ofInt w (a:Int)=BitVec.ofNat w a:=by
 apply BitVec.eq_of_toNat_eq;simp
theorem D52(h:a<4294967296):a &&& b<4294967296:=Nat.lt_of_le_of_lt Nat.and_le_left h
theorem M54(ha:a<4294967296)(hb:b<4294967296):a ||| b<4294967296:=Nat.or_lt_two_pow (n:=32) ha hb
theorem V0(ha:a<4294967296):Z2 a b<4294967296:=Z6 (n:=32) ha
section
variable {a b:Nat} (k:VP)
theorem D17(ha:a<4294967296)(hb:b<4294967296):U0 .and (.int .u32 (a:Int)) (.int .u32 (b:Int)) k=k (.int .u32 ((a &&& b:Nat):Int)):=by
 rw[X6];show k (.int .u32 (IntKind.u32.wrap ((BitVec.ofInt 32 (a:Int) &&& BitVec.ofInt 32 (b:Int)).toNat:Int)))=_;rw[W10,W10,BitVec.toNat_and,BitVec.toNat_ofNat,BitVec.toNat_ofNat,Nat.mod_eq_of_lt (by simpa using ha),Nat.mod_eq_of_lt (by simpa using hb),D15 (D52 ha)]
theorem D39(ha:a<4294967296)(hb:b<4294967296):U0 .or (.int .u32 (a:Int)) (.int .u32 (b:Int)) k=k (.int .u32 ((a ||| b:Nat):Int)):=by
 rw[X6];show k (.int .u32 (IntKind.u32.wrap ((BitVec.ofInt 32 (a:Int) ||| BitVec.ofInt 32 (b:Int)).toNat:Int)))=_;rw[W10,W10,BitVec.toNat_or,BitVec.toNat_ofNat,BitVec.toNat_ofNat,Nat.mod_eq_of_lt (by simpa using ha),Nat.mod_eq_of_lt (by simpa using hb),D15 (M54 ha hb)]
theorem V17(ha:a<4294967296)(hb:b<4294967296):U0 .andNot (.int .u32 (a:Int)) (.int .u32 (b:Int)) k=k (.int .u32 ((Z2 a b:Nat):Int)):=by
 rw[X6];show k (.int .u32 (IntKind.u32.wrap ((BitVec.ofInt 32 (a:Int) &&& ~~~(BitVec.ofInt 32 (b:Int))).toNat:Int)))=_;rw[W10,W10];have e:(BitVec.ofNat 32 a &&& ~~~(BitVec.ofNat 32 b)).toNat=Z2 a b:=by
  apply Nat.eq_of_testBit_eq;intro i;rw[N1,BitVec.testBit_toNat,BitVec.getLsbD_and,BitVec.getLsbD_not,BitVec.getLsbD_ofNat,BitVec.getLsbD_ofNat]
  by_cases hi:i<32
  .simp[hi]
  .have:a.testBit i=false:=Nat.testBit_lt_two_pow (Nat.lt_of_lt_of_le ha (Nat.pow_le_pow_right (n:=2) (by omega) (show 32<=i by omega)))
   simp[hi,this]
 rw[e,D15 (V0 ha)]
theorem V15{n:Nat}{K:IntKind}(ha:a<4294967296):U0 .shr (.int .u32 (a:Int)) (.int K (n:Int)) k=k (.int .u32 ((a >>> n:Nat):Int)):=by
 rw[X6];have hn:¬ (n:Int)<0:=by omega
 simp only[R9,N4,C18,cond_true,hn,if_false,Option.elim_some,IntKind.bits];congr 2;have e:((2:Int)^min ((n:Int)).toNat 32)=((2^min n 32:Nat):Int):=by simp
 rw[e,Int.fdiv_eq_ediv_of_nonneg _ (Int.natCast_nonneg _),<- Int.natCast_ediv,Nat.shiftRight_eq_div_pow];congr 1
 by_cases h:n<=32
 .rw[Nat.min_eq_left h]
 .rw[Nat.min_eq_right (by omega),Nat.div_eq_of_lt (by simpa using ha),Nat.div_eq_of_lt (Nat.lt_of_lt_of_le ha (by
   have:=Nat.pow_le_pow_right (n:=2) (by omega) (show 32<=n by omega);simpa using this))]
theorem M35{n:Nat}{K:IntKind}(hn:n<32):U0 .shl (.int .u32 1) (.int K (n:Int)) k=k (.int .u32 ((2^n:Nat):Int)):=by
 rw[X6];have h0:¬ (n:Int)<0:=by omega
 simp only[R9,N4,C18,cond_true,h0,if_false,Option.elim_some,IntKind.bits];congr 2;have e:(1*(2:Int)^min ((n:Int)).toNat 32)=((2^n:Nat):Int):=by
  have:min n 32=n:=by omega
  simp[this]
 rw[e,D15];exact Nat.lt_of_lt_of_le (Nat.pow_lt_pow_right (by omega) hn) (by decide)
theorem R40(ha:a<4294967296):U0 .and (.int .u32 (a:Int)) (.int .u32 1) k=k (.int .u32 ((a%2:Nat):Int)):=by
 have:=D17 (b:=1) k ha (by omega);rw[Nat.and_one_is_mod] at this;exact this
theorem R39(ha:a<4294967296):U0 .rem (.int .u32 (a:Int)) (.int .u32 2) k=k (.int .u32 ((a%2:Nat):Int)):=by
 rw[Z62 _ _ _ _ (by omega)];congr 2
theorem G0(ha:a<4294967296):a >>> n<4294967296:=Nat.lt_of_le_of_lt (Nat.shiftRight_le a n) ha
theorem C36(a n:Nat):decide ((((a >>> n)%2:Nat):Int)=1)=a.testBit n:=by
 rw[Nat.testBit_eq_decide_div_mod_eq,Nat.shiftRight_eq_div_pow];congr 1;apply propext;omega
theorem V31(a n:Nat):decide ((((a >>> n)%2:Nat):Int)=0) = !a.testBit n:=by
 rw[Nat.testBit_eq_decide_div_mod_eq,Nat.shiftRight_eq_div_pow];generalize a/2^n=m;rw[Bool.eq_iff_iff];simp only[decide_eq_true_eq,Bool.not_eq_true',decide_eq_false_iff_not];omega
theorem V38(a n:Nat):decide ((a >>> n)%2=0) = !a.testBit n:=by rw[<- V31];congr 1;apply propext;omega
theorem B44(a n:Nat):decide ((a >>> n)%2=1)=a.testBit n:=by rw[<- C36];congr 1;apply propext;omega
theorem E28(a:Nat):decide ((a:Int)=0)=decide (a=0):=by congr 1;apply propext;omega
theorem J28(a:Nat):decide ((a:Int)≠0)=decide (a≠0):=by congr 1;apply propext;omega
end
end Go.Clo

namespace Go.Clo
variable {A:Option Addr} {H H':Y0} {c l:List Value} {e i nx nx':Nat} {es:List Nat}
def Q5(H:Y0)(b:Nat):Option (List Value):=(J0 H b).bind C1.row
theorem X3{b:Nat}{row:List Value}(h:Q5 H b=some row)(o:Nat)(size:Option Nat)(k:VP):ldP (J0 H b) o size k=B10 row o size k:=by
 unfold Q5 at h
 cases hg:J0 H b with
 | none=>rw[hg] at h;cases h
 | some blk=>
  rw[hg] at h
  cases blk with
  | map es q=>cases h
  | cells c sl=>cases h;rfl
  | rom c=>cases h;rfl
theorem D0.row{b:Nat}(h:D0 H nx H' nx')(hb:b<nx):Q5 H' b=Q5 H b:=by unfold Q5;rw[h.get b hb]
def Sl(H:Y0)(nx:Nat)(A:Option Addr)(c:List Value):Prop:=
 ∀ i v,c[i]? = some v->∃ b o row,A=some ⟨b,o,none⟩/\b<nx/\Q5 H b=some row/\row[o+i]? = some v
theorem Sl.ext(h:Sl H nx A c)(e:D0 H nx H' nx'):Sl H' nx' A c:=fun i v hv=>
 let ⟨b,o,row,h1,h2,h3,h4⟩:=h i v hv
 ⟨b,o,row,h1,Nat.lt_of_lt_of_le h2 e.le,by rw[e.row h2];exact h3,h4⟩
theorem Sl.nil(H:Y0)(nx:Nat)(A:Option Addr):Sl H nx A []:=fun i v h=>by simp at h
theorem Sl.open(h:Sl H nx A c)(hi:i<c.length):
  ∃ b o row,A=some ⟨b,o,none⟩/\b<nx/\Q5 H b=some row/\∀ j v,c[j]? = some v->row[o+j]? = some v:=by
 obtain⟨b,o,row,h1,h2,h3,_⟩:=h i c[i] (List.getElem?_eq_getElem hi);refine⟨b,o,row,h1,h2,h3,fun j v hv => ?_⟩;obtain⟨b',o',E,g1,g2,g3,g4⟩:=h j v hv;rw[h1] at g1;cases g1;rw[h3] at g3;cases g3;exact g4
theorem M51{row:List Value}{o n:Nat}(hl:l.length=n)(h:∀ j v,l[j]? = some v->row[o+j]? = some v)(k:VP)(hn:0<n):B10 row o (some n) k=k (.agg ⟨l⟩):=by
 have E:o+n<=row.length:=by
  have:=h (n-1) l[n-1] (List.getElem?_eq_getElem (by omega));rcases Nat.lt_or_ge (o+(n-1)) row.length with g | g
  .omega
  .rw[List.getElem?_eq_none g] at this;cases this
 have e:(row.drop o).take n=l:=by
  apply List.ext_getElem?;intro j
  by_cases hj:j<n
  .rw[List.getElem?_take,if_pos hj,List.getElem?_drop,h j l[j] (List.getElem?_eq_getElem (by omega)),List.getElem?_eq_getElem (by omega)]
  .rw[List.getElem?_take,if_neg hj,List.getElem?_eq_none (by omega)]
 rw[X21,e];simp[E]
theorem K26(k:VP):B10 l 0 (some l.length) k=k (.agg ⟨l⟩):=by rw[X21];simp
theorem U2(x y:Value)(k:VP):B10 [x,y] 0 (some 2) k=k (.agg ⟨[x,y]⟩):=K26 (l:=[x,y]) k
theorem Y12(x y z:Value)(k:VP):B10 [x,y,z] 0 (some 3) k=k (.agg ⟨[x,y,z]⟩):=K26 (l:=[x,y,z]) k
theorem G26(a b x y:Value):B12 [a,b] 0 [x,y]=[x,y]:=rfl
theorem D7(a b c x y z:Value):B12 [a,b,c] 0 [x,y,z]=[x,y,z]:=rfl
def C0(es:List Nat):List Value:=es.map fun(e:Nat)=>Value.int .u32 (e:Int)
def U4(xs:List Int):List Value:=xs.map fun x=>Value.int .i64 x
def C4(es:List Nat):Prop:=∀ e ∈ es,e<4294967296
theorem Q3{e:Nat}(h:es[i]? = some e):(C0 es)[i]? = some (.int .u32 (e:Int)):=by simp[C0,h]
theorem Z9{xs:List Int}{x:Int}(h:xs[i]? = some x):(U4 xs)[i]? = some (.int .i64 x):=by simp[U4,h]
theorem E1(es:List Nat):(C0 es).length=es.length:=by simp[C0]
theorem X9(xs:List Int):(U4 xs).length=xs.length:=by simp[U4]
theorem C4.get(h:C4 es)(he:es[i]? = some e):e<4294967296:=h e (List.mem_of_getElem? he)
end Go.Clo

namespace Go.Clo
variable {H:Y0} {a b cap lo m n nx size:Nat} {c l:List Value} {v:Value}
def Acc(lo:Nat)(H:Y0)(nx:Nat)(size:Nat)(v:Value)(n:Nat)(c:List Value):Prop:=
 c.length=n*size/\((n=0/\v = .slice none 0 0)\/∃ b,lo<=b/\b<nx/\v = .slice (some ⟨b,0,none⟩) n n/\J0 H b=some (.cells c size))
theorem Acc.nil(lo:Nat)(H:Y0)(nx size:Nat):Acc lo H nx size (.slice none 0 0) 0 []:=⟨by simp,.inl ⟨rfl,rfl⟩⟩
theorem Acc.ext{H':Y0}{nx':Nat}(h:Acc lo H nx size v n c)(e:D0 H nx H' nx'):Acc lo H' nx' size v n c:=by
 refine⟨h.1,h.2.imp id ?_⟩;rintro⟨b,h1,h2,h3,h4⟩;exact⟨b,h1,Nat.lt_of_lt_of_le h2 e.le,h3,by rw[e.get b h2];exact h4⟩
theorem Acc.sl(h:Acc lo H nx size v n c):∃ A,v = .slice A n n/\Sl H nx A c:=by
 obtain⟨hl,h⟩:=h;rcases h with ⟨rfl,rfl⟩ | ⟨b,h1,h2,rfl,h4⟩
 .refine⟨none,rfl,?_⟩
  simp at hl;subst hl;exact Sl.nil _ _ _
 .refine⟨_,rfl,fun i u hu=>⟨b,0,c,rfl,h2,by simp[Q5,h4,C1.row],by simpa using hu⟩⟩
theorem V6(h:a<=b):Nat.ble a b=true:=Nat.ble_eq_true_of_le h
theorem E27(h:b<a):Nat.ble a b=false:=by
 cases hb:Nat.ble a b with
 | false=>rfl
 | true=>exact absurd (Nat.le_of_ble_eq_true hb) (by omega)
theorem D13(a:Nat):Nat.beq a a=true:=by simp
theorem K43(h:a≠b):Nat.beq a b=false:=by
 cases hb:Nat.beq a b with
 | false=>rfl
 | true=>exact absurd (Nat.eq_of_beq_eq_true hb) h
structure Src (H:Y0) (size:Nat) (x:Value) (m:Nat) (l:List Value):Prop where
 len:Y45 x=some m
 first:∀ k:List Value->Prop,Z5 H size m x False k=k l
 size:l.length=m*size
theorem J9{sl:Nat}(hg:J0 H b=some (.cells l sl))(hl:l.length=m*size)(hm:0<m*size):Src H size (.slice (some ⟨b,0,none⟩) m cap) m l:=by
 refine⟨rfl,fun k => ?_,hl⟩;rw[Q25 _ _ _ _ _ _ _ _ hm,hg];simp only[Option.bind_some,C1.row];simp[<- hl]
theorem B68{A:Option Addr}(h:Sl H nx A l)(hl:l.length=m*size)(hm:0<m*size):Src H size (.slice A m cap) m l:=by
 obtain⟨b,o,row,rfl,hb,E,J⟩:=h.open (i:=0) (by omega);refine⟨rfl,fun k => ?_,hl⟩;rw[Q25 _ _ _ _ _ _ _ _ hm];unfold Q5 at E;rw[E];have:=M51 (row:=row) (o:=o) (n:=m*size) hl J (fun v=>match v with | .agg a=>k a.toList | _=>False) hm;rw[X21] at this;exact this
theorem Y20 {bytes:Nat} {x:Value} {H0:Y0} {k:EP} (hsz:0<size) (hA:Acc lo H nx size v n c) (hx:Src H size x m l) (hm:0<m) (ho:Z0 l=true)
  (hb1:(2*(n+m)+1000)*bytes<=281474976710656) (hb2:n+m<=1000000000) (hE:D0 H0 lo H nx) (hlo:lo<=nx)
  (hk:∀ v' H',Acc lo H' (nx+1) size v' (n+m) (c++l)->D0 H0 lo H' (nx+1)->(∀ i,i<nx->(∀ A n' c',v = .slice (some A) n' c'->A.block≠i)->J0 H' i=J0 H i)->k v' H' (nx+1)):B5 v x size bytes H nx k:=by
 obtain⟨hl,hA⟩:=hA
 have hlen:(c++l).length=(n+m)*size:=by rw[List.length_append,hl,hx.size,Nat.add_mul]
 unfold B5 Z22
 rcases hA with ⟨rfl,rfl⟩ | ⟨b,h1,h2,rfl,h4⟩
 .have hc:c=[]:=by simp at hl;exact hl
  subst hc
  rw[hx.len]
  dsimp only
  rw[G1,V6 hb1,V6 hb2]
  simp only[Bool.and_self,cond_true]
  rw[hx.first,ho,E27 (show 0<0+m by omega)]
  simp only[cond_true,cond_false]
  show spine ([]++l) _
  rw[V2]
  have e:([]++l).length=(0+m)*size:=hlen
  rw[e,D13]
  simp only[cond_true,D22,K11]
  rw[G1,G1,G4]
  refine hk _ _ ⟨hlen,.inr ⟨nx,hlo,by omega,rfl,E0 _ _ _⟩⟩ (hE.new _ hlo (by omega)) fun i hi _=>Z1 _ (by omega)
 .rw[hx.len]
  dsimp only
  rw[G1,V6 hb1,V6 hb2]
  simp only[Bool.and_self,cond_true]
  rw[hx.first,ho,E27 (show n<n+m by omega)]
  simp only[cond_true,cond_false]
  have hold:∀ k:List Value->Prop,Z5 H size n (.slice (some ⟨b,0,none⟩) n n) False k=k c:=by
   intro k
   rcases Nat.eq_zero_or_pos n with h0 | h0
   .subst h0
    simp at hl;subst hl
    unfold Z5 B19
    dsimp only
    rw[Y4,h4]
    simp only[Option.elim_some,Nat.zero_mul,G5]
    exact V2 _ _
   .exact (J9 h4 hl (Nat.mul_pos h0 hsz)).first k
  rw[hold,V2,hlen,D13]
  simp only[cond_true,D22]
  rw[Y4,h4]
  simp only[Option.elim_some]
  have hls:N8 (.cells c size) 0 n size=some true:=by
   simp only[N8]
   rw[K43 (show size≠0 by omega),D13]
   simp only[cond_false,cond_true]
   rw[hl,Nat.zero_add,D13]
  rw[hls]
  dsimp only
  rw[G4]
  simp only[K11]
  rw[G1,G1,G4]
  refine hk _ _ ⟨hlen,.inr ⟨nx,hlo,by omega,rfl,E0 _ _ _⟩⟩ ((hE.new _ h1 (Nat.le_refl _)).new _ hlo (by omega)) fun i hi hne => ?_
  rw[Z1 _ (by omega),Z1 _ (fun h=>hne _ _ _ rfl h.symm)]
end Go.Clo
