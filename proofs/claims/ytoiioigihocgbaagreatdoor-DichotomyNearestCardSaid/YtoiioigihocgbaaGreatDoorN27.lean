/-
  A range over a function whose yields are known one by one: round k gets the values enc k;what holds ahead of round k is I k.
  slices.Backward over numbers,in general.
  Contract: connex.walk.
  'awake' of chapter 33 returns true: one run of the closed executor,which takes connex.walk's answer from its contract.
  The arguments of the law,opened;the listed table.
  A graph as an argument,opened.
-/
import Derived.RangeFuncBox
import Derived.RangeFuncLeaves
import Derived.RangeFuncWrites
import Derived.RangeFuncCalls
import Derived.Shelf.Abstract
import Derived.WalkKit
import Derived.OwnWalkIn
import Derived.TacticsInMore
import Derived.LoopNIn
import Derived.LoopIn
import Derived.Maps.AppendAt
import Derived.Test.YtoiioigihocgbaaGreatDoorN19
import Derived.Test.YtoiioigihocgbaaGreatDoorRows
import Derived.ProofKit
import Derived.OpenShut
import Derived.Lib.SmallJoins
import Derived.Deep.Strs
import Derived.SizedLaws
import Derived.LaidMore
import Derived.Lay
import Derived.Stop.Joined
set_option linter.all false
noncomputable section
namespace Go.Clo
open Go.RowKit
theorem E32 {P:Program} {F:Fence} {n:Nat} {g:Operand} {ps:Array Tmp} {assign body:Code} {Q:Exit->Act->World->Prop} {a:Act} {w:World} (hro:F.round=none) (h1:1<=n) {gf:Nat} {lb:Array Value}
  (hg:a.eval g = .func (.func gf) #[] lb) (hFg:F.fn gf) (eg:∀ args w,(callFunc gf args).run P w = .ok (.enter gf args) w)
  {N:Nat} {enc:Nat->Array Value} (hps:∀ k,(enc k).size=ps.size) (I:Nat->World->Prop) (hI:OwnFrom w.heap.size I)
  (hgen:∀ (l:Nat) (J:Nat->World->Prop) (W:World),(∀ k W,J k W->I k W) ->
   (∀ k W1,k<N->J k W1->YieldAt F (n-1-1) P l (enc k) W1 fun e W'=>e = .returned (.bool true)/\J (k+1) W')->J 0 W ->
   CallsIn F (n-1) P gf (#[.func (.yield l) #[] #[]]++lb) W fun e W'=>(∃ v,e = .returned v)/\J N W')
  (h0:I 0 w) (a₁:Nat->Act)
  (hassign:∀ (l k:Nat) (W:World) (K:Act->World->Prop),K (a₁ k) W ->
   assign.wpIn (F.inRound l) (n-1-1) P (Exit.then K (fun _ _ _=>False)) { tmps:=(ps.zip (enc k)).foldl (fun t (p,v)=>t.setIfInBounds p v) a.tmps,defers:=[] } W)
  (hbody:∀ (l k:Nat) (W:World),k<N->I k W->body.wpIn (F.inRound l) (n-1-1) P (fun e _ W'=>e = .normal/\KeepsFrom w.heap.size W W'/\I (k+1) W') (a₁ k) W)
  (hdone:∀ (D:Nat) (W:World),w.heap.size<=D->I N W->W.heap[D]? = some (.deferred (some []))->Q .normal { a with defers:={ target := .collected D,args := #[] } :: a.defers } W):
  (Code.rangeFunc g ps assign body).wpIn F n P Q a w:=by
 refine wpIn_rangeFunc fun fn hfn => ?_
 rw[hro]
 let L (st:LoopState):Obj := .loop { state:=st,pending:=none,fn,tmps:=a.tmps,params:=ps,assign,body,defers:=w.heap.size }
 let l:=w.heap.size+1
 let D:=w.heap.size
 have hA:(w.alloc (.deferred (some []))).heap.size=l:=by simp[l]
 have e1:((w.alloc (.deferred (some []))).alloc (L .ready)).heap[l]? = some (L .ready):=by
  have:=World.alloc_heap_new (w.alloc (.deferred (some []))) (L .ready)
  rwa [hA] at this
 have e2:((w.alloc (.deferred (some []))).alloc (L .ready)).heap[D]? = some (.deferred (some [])):=
  (Below.heap_alloc _ _ _ (by simp[D])).trans (World.alloc_heap_new w _)
 refine⟨l,[{ target := .collected D,args := #[] }],((w.alloc (.deferred (some []))).alloc (L .ready)),{ target := .fn (.func gf) lb,args := #[.func (.yield l) #[] #[]] },((w.alloc (.deferred (some []))).alloc (L .ready)),gf,#[.func (.yield l) #[] #[]]++lb,((w.alloc (.deferred (some []))).alloc (L .ready)),run_enterLoop_outer _ _ _ _ _,?_,?_,?_,fun _=>h1,?_⟩
 .simp only[resolve,hg]
  simp[go_sem]
 .intro f' hf'
  simp[Target.leads] at hf'
  subst hf'
  exact hFg
 .simp[invoke,go_sem,eg]
 .refine (hgen l (fun k W=>I k W/\W.heap[l]? = some (L .ready)/\W.heap[D]? = some (.deferred (some []))) _ (fun k W h=>h.1) ?_ ⟨hI.alloc _ (hI.alloc _ h0),e1,e2⟩).mono ?_
  .rintro k W hk ⟨hi,hl,hd⟩
   have hlt:l<W.heap.size:=(Array.getElem?_eq_some_iff.1 hl).1
   have hne:D≠l:=by simp[D,l]
   refine⟨fn,_,assign,body,run_yield (P:=P) (args:=enc k) hl (hps k),roundIn_of_wpIn hfn (hassign _ k W _ ⟨_,run_beginRound hl rfl,?_⟩)⟩
   have g1:(W.putObj l (L .busy)).heap[l]? = some (L .busy):=World.putObj_heap_same hlt
   have g2:(W.putObj l (L .busy)).heap[D]? = some (.deferred (some [])):=(World.putObj_heap_other hne).trans hd
   refine wpIn_mono (hbody _ k _ hk (hI.putObj _ hi (by simp[l]) hl rfl)) ?_
   rintro e a3 W3 ⟨rfl,hkeep,hi3⟩
   have k1:=hkeep.same _ _ (by simp[l]) g1 rfl
   have k2:=hkeep.same _ _ (Nat.le_refl _) g2 rfl
   refine⟨_,_,run_endRound (P:=P) none k1,rfl,hI.putObj _ hi3 (by simp[l]) k1 rfl,World.putObj_heap_same (Array.getElem?_eq_some_iff.1 k1).1,(World.putObj_heap_other hne).trans k2⟩
  .rintro e W2 ⟨⟨v,rfl⟩,hi,hl,hd⟩
   exact⟨none,_,run_endLoop (P:=P) hl (by simp),hdone _ _ (Nat.le_refl _) (hI.putObj _ hi (by simp[l]) hl rfl) ((World.putObj_heap_other (by simp[D,l])).trans hd)⟩
end Go.Clo

namespace Go.Proofs.YtoiioigihocgbaaGreatDoor
open Go.RowKit Go.Shelf Go.Clo
attribute [local go_sem] Oper.semAt_some
set_option maxRecDepth 100000 in
set_option maxHeartbeats 4000000 in
theorem V49(F:Fence)(n:Nat)(h7:F.fn 93)(a0:F.round=none)(hn:1<=n)(l Bs Bo b off cap len:Nat)(st:Nat->Nat)(a3:len<=100)(J:Nat->World->Prop)
  (hJ:∀ k W,J k W->W.cell? ⟨Bs,Bo,none⟩=some (.slice (some ⟨b,off,none⟩) len cap)/\∀ i,i<len->W.cell? ⟨b,off+i,none⟩=some (.int .u32 (st i:Int)))
  (hY:∀ k W1,k<len->J k W1->YieldAt F (n-1) Tryz.prog l #[.int .i64 ((len-1-k:Nat):Int),.int .u32 (st (len-1-k):Int)] W1 fun e W'=>e = .returned (.bool true)/\J (k+1) W')(W:World)(h0:J 0 W):
  CallsIn F n Tryz.prog 93 #[.func (.yield l) #[] #[],.pointer (some ⟨Bs,Bo,none⟩)] W fun e W'=>(∃ v,e = .returned v)/\J len W':=by
 refine callsIn_of_wp Tryz.func93 rfl h7 ?_ a0;simp only[Tryz.ntmps93,List.size_toArray,List.length_cons,List.length_nil,Nat.reduceAdd,Nat.reduceSub,Array.replicate_succ,Array.replicate_zero,List.push_toArray,List.append_toArray,List.nil_append,List.cons_append];obtain⟨a6,a7⟩:=hJ 0 W h0;have U:IntKind.i64.wrap ((len:Int)-1)=(len:Int)-1:=Y23 (by omega) (by omega)
 gi_wp2
 gi_loopw [3] (fun i wr=>∃ k:Nat,k<=len/\i = .int .i64 ((len:Int)-1-(k:Int))/\J k wr)
  (fun i _=>(intOf i+1).toNat)
 case atStart=>exact⟨0,by omega,by first | (simp[]) | skip,h0⟩
 case round=>
  obtain⟨k,hk,rfl,O⟩:=hrel;obtain⟨a4,a2⟩:=hJ k wr O
  by_cases a1:k<len
  .obtain⟨fn,tmps,E,body,Q,hR⟩:=hY k wr a1 O
   obtain⟨j,hj⟩:∃ j:Nat,j=len-1-k:=⟨_,rfl⟩
   have ej:(len:Int)-1-(k:Int)=(j:Int):=by omega
   have V:j<len:=by omega
   rw[<- hj] at Q;rw[ej];have hy:Sem.run Tryz.prog (Instr.yield l #[Value.int IntKind.i64 (j:Int),Value.int IntKind.u32 (st j:Int)]) wr=Result.ok (Next.round l fn tmps E body) wr:=Q;have a8:=a2 j V;have a9:(j:Int) ≥ 0:=by omega
   have a5:j+k+1=len:=by omega
   clear hj ej
   gi_wp2
   refine hR.mono ?_;rintro e W3 ⟨rfl,Z⟩
   gi_wp2
   go_roundw
   case rel=>exact⟨k+1,by omega,by simp;omega,Z⟩
   case measure=>simp[intOf]
  .obtain rfl:k=len:=by omega
   have e1:(k:Int)-1-(k:Int) = -1:=by omega
   rw[e1]
   gi_wp2
   go_end0
   exact⟨⟨_,rfl⟩,O⟩
end Go.Proofs.YtoiioigihocgbaaGreatDoor

namespace Go.Clo
theorem J54(aL:List Nat)(inn last len first k:Nat):(List.range (k+1+1)).map (fun i=>Value.int .i64 (Q7 aL inn last len first i:Int))=(List.range (k+1)).map (fun i=>Value.int .i64 (Q7 aL inn last len first i:Int))++[.int .i64 (Q7 aL inn last len first (k+1):Int)]:=by
 rw[List.range_succ (n:=k+1),List.map_append];rfl
end Go.Clo
namespace Go.Proofs.YtoiioigihocgbaaGreatDoor
open Go.RowKit Go.Shelf Go.Clo
attribute [local go_sem] Oper.semAt_some
set_option maxRecDepth 100000 in
set_option maxHeartbeats 1000000 in
theorem Y59(F:Fence)(n:Nat)(h:F.fn 72)(E:F.round=none)(A:Option Addr)(m c:Nat)(w:World):CallsIn F n Tryz.prog 72 #[.slice A m c] w fun e w'=>e = .returned (.func (.func 93) #[] #[.pointer (some ⟨w.heap.size,0,none⟩)])/\w'=w.alloc (.cells #[.slice A m c] 22):=by
 refine callsIn_of_wp Tryz.func72 rfl h ?_ E;simp only[Tryz.ntmps72,List.size_toArray,List.length_cons,List.length_nil,Nat.reduceAdd,Nat.reduceSub,Array.replicate_succ,Array.replicate_zero,List.push_toArray,List.append_toArray,List.nil_append,List.cons_append]
 gi_wp2
 go_ret
 exact⟨rfl,rfl⟩
theorem B70:(Tryz.prog.info? 3).map (fun i=>(i.zero,i.size,i.bytes))=some (some (.int .i64 0),1,8):=by kernel_rfl
def W6(aL:List Nat)(inn last len first k:Nat):List Value:=(List.range k).map fun i => .int .i64 (Q7 aL inn last len first i:Int)
theorem C62{a b:Nat}(ha:a<4294967296)(hb:b<4294967296):bits .and .u32 (a:Int) (b:Int)=((a &&& b:Nat):Int):=by
 have e:bits .and .u32 (a:Int) (b:Int)=IntKind.u32.wrap (((BitVec.ofInt 32 (a:Int)) &&& (BitVec.ofInt 32 (b:Int))).toNat:Int):=rfl;rw[e,W10,W10,BitVec.toNat_and,BitVec.toNat_ofNat,BitVec.toNat_ofNat,Nat.mod_eq_of_lt ha,Nat.mod_eq_of_lt hb,D15 (D52 ha)]
set_option maxRecDepth 100000 in
set_option maxHeartbeats 8000000 in
theorem E33 {aL:List Nat} {N:Nat} (hN:N<=6) (hL:NbL aL N) (hsym:∀ u w,(aL.getD u 0).testBit w=true->(aL.getD w 0).testBit u=true) {inn last first len:Nat} (hi:inn<2^N) (hla:last<2^N) (hf:first<N) (h1:1<=len) (hlen:len<=100)
  (hst:U5 aL inn last (len-1) &&& aL.getD first 0≠0) (w:World) (hg:GlW w):
  Calls Tryz.prog 37 (Z8 aL inn first last len).toArray w fun e W'=>∃ v,e = .returned v/\W'.ownsRow w.heap.size 3 1 v (len+1) (W6 aL inn last len first (len+1))/\Below w.heap.size w W':=by
 have hp64:2^N<=64:=Nat.pow_le_pow_right (n:=2) (by omega) hN
 have hcur:=J58 (aL:=aL) (inn:=inn) (last:=last) (N:=N) hN hL.lt hsym hi hla hf hst
 have hf100:first<100:=by omega
 refine callsIn_wide.1 (callsIn_of_wp_marks (n:=5) Tryz.func37 rfl trivial ?_ rfl)
 refine V64 hN hL hi hla hf100 h1 hlen w hg _ _ ?_
 rintro⟨tmps,defers⟩ w' B0 o0 S os cs hd hsz h2 h5 h11 cA cS hgl hbe hB hS
 dsimp only at hd hsz h2 h5 h11
 subst hd
 obtain⟨x0,x1,x2,x3,x4,x5,x6,x7,x8,x9,x10,x11,x12,x13,x14,x15,x16,x17,x18,x19,x20,x21,x22,x23,x24,x25,x26,x27,x28,x29,x30,x31,x32,x33,x34,x35,x36,x37,x38,x39,x40,x41,x42,x43,x44,x45,x46,x47,x48,x49,x50,x51,x52,x53,x54,x55,x56,x57,rfl⟩:=R70 tmps hsz
 have h2':x2 = .int .i64 (first:Int):=h2
 have h5':x5 = .pointer (some ⟨B0,o0,none⟩):=h5
 have h11':x11 = .slice (some ⟨S,os,none⟩) len cs:=h11
 subst h2' h5' h11'
 clear h2 h5 h11 hsz
 obtain⟨i0,hi0,hz0,hz1,hz2⟩:=info_parts B70
 have hmax:(1000:Nat)<=maxLen:=by decide
 gi_wp2
 refine⟨trivial,(Y59 Fence.wide 4 trivial rfl _ _ _ _).mono ?_⟩
 rintro e w'' ⟨rfl,rfl⟩
 gi_wp2
 have bO:Boxed (((w'.alloc (.cells #[.int .i64 (first:Int)] 3)).alloc (.cells #[.slice (some ⟨w'.heap.size,0,none⟩) 1 1] 27)).alloc (.cells #[.slice (some ⟨S,os,none⟩) len cs] 22)) (w'.heap.size+1) 27 (.slice (some ⟨w'.heap.size,0,none⟩) 1 1):=by
  have:=(Boxed.new (w'.alloc (.cells #[.int .i64 (first:Int)] 3)) 27 (.slice (some ⟨w'.heap.size,0,none⟩) 1 1)).alloc (.cells #[.slice (some ⟨S,os,none⟩) len cs] 22)
  simpa using this
 have bC:Boxed (((w'.alloc (.cells #[.int .i64 (first:Int)] 3)).alloc (.cells #[.slice (some ⟨w'.heap.size,0,none⟩) 1 1] 27)).alloc (.cells #[.slice (some ⟨S,os,none⟩) len cs] 22)) (w'.heap.size+2) 22 (.slice (some ⟨S,os,none⟩) len cs):=by
  have:=Boxed.new ((w'.alloc (.cells #[.int .i64 (first:Int)] 3)).alloc (.cells #[.slice (some ⟨w'.heap.size,0,none⟩) 1 1] 27)) 22 (.slice (some ⟨S,os,none⟩) len cs)
  simpa using this
 have row0:World.ownsRow (((w'.alloc (.cells #[.int .i64 (first:Int)] 3)).alloc (.cells #[.slice (some ⟨w'.heap.size,0,none⟩) 1 1] 27)).alloc (.cells #[.slice (some ⟨S,os,none⟩) len cs] 22)) w'.heap.size 3 1 (.slice (some ⟨w'.heap.size,0,none⟩) 1 1) 1 [.int .i64 (first:Int)]:=
  ((World.ownsRow_lit (base:=w'.heap.size) (e:=3) (size:=1) w' #[.int .i64 (first:Int)] 1 (Nat.le_refl _) (by decide) rfl).alloc _).alloc _
 have be0:Below w'.heap.size w' (((w'.alloc (.cells #[.int .i64 (first:Int)] 3)).alloc (.cells #[.slice (some ⟨w'.heap.size,0,none⟩) 1 1] 27)).alloc (.cells #[.slice (some ⟨S,os,none⟩) len cs] 22)):=
  (((Below.refl _ w').alloc (Nat.le_refl _) _).alloc (by simp) _).alloc (by simp;omega) _
 have hsz:(((w'.alloc (.cells #[.int .i64 (first:Int)] 3)).alloc (.cells #[.slice (some ⟨w'.heap.size,0,none⟩) 1 1] 27)).alloc (.cells #[.slice (some ⟨S,os,none⟩) len cs] 22)).heap.size=w'.heap.size+3:=by simp
 have step:∀ (k:Nat) (W w1:World) (v v':Value) (tmp:Obj),Boxed W (w'.heap.size+1) 27 v->W.ownsRow w'.heap.size 3 1 v (k+1) (W6 aL inn last len first (k+1))->Boxed W (w'.heap.size+2) 22 (.slice (some ⟨S,os,none⟩) len cs)->Below w'.heap.size w' W ->
   w1.ownsRow w'.heap.size 3 1 v' (k+1+1) (W6 aL inn last len first (k+1+1))->(W.alloc tmp).grownBy w1 v.ownBlock ->
   KeepsFrom (w'.heap.size+3) W (w1.setCell ⟨w'.heap.size+1,0,none⟩ v')/\(∃ v,Boxed (w1.setCell ⟨w'.heap.size+1,0,none⟩ v') (w'.heap.size+1) 27 v/\(w1.setCell ⟨w'.heap.size+1,0,none⟩ v').ownsRow w'.heap.size 3 1 v (k+1+1) (W6 aL inn last len first (k+1+1))/\True)/\Boxed (w1.setCell ⟨w'.heap.size+1,0,none⟩ v') (w'.heap.size+2) 22 (.slice (some ⟨S,os,none⟩) len cs)/\Below w'.heap.size w' (w1.setCell ⟨w'.heap.size+1,0,none⟩ v')/\Boxed w1 (w'.heap.size+1) 27 v:=by
  intro k W w1 v v' tmp hv hrow hC hB hown' hgrow
  obtain⟨hv1,hv2,hr2,hk2,hb2⟩:=hv.appended (by decide) hrow hB.size (by omega) hown' hgrow
  refine⟨hk2.from _,⟨_,hv2,hr2,trivial⟩,?_,hB.trans hb2,hv1⟩
  exact ((hC.alloc tmp).kept hgrow (hC.not_row (by decide) hrow)).kept (grownBy_setCell' w1 (w'.heap.size+1) v') (by simp)
 refine E32 (N:=len) (enc:=fun k => #[.int .i64 ((len-1-k:Nat):Int),.int .u32 (U5 aL inn last (len-1-k):Int)]) rfl (by omega) (gf:=93) (lb := #[.pointer (some ⟨w'.heap.size+2,0,none⟩)]) rfl trivial (enters_of Tryz.func93 (by kernel_rfl) rfl) (fun _=>rfl)
  (fun k W=>(∃ v,Boxed W (w'.heap.size+1) 27 v/\W.ownsRow w'.heap.size 3 1 v (k+1) (W6 aL inn last len first (k+1))/\True)/\Boxed W (w'.heap.size+2) 22 (.slice (some ⟨S,os,none⟩) len cs)/\Below w'.heap.size w' W)
  (OwnFrom.and (Own.from (holdsRow_own w'.heap.size (w'.heap.size+1) 27 3 1 (fun k=>k+1) (fun k=>W6 aL inn last len first (k+1)) (fun _ _=>True)) _) (OwnFrom.and ?ownC (ownFrom_below (Nat.le_refl _) (by rw[hsz];omega))))
  ?gen ⟨⟨_,bO,row0,trivial⟩,bC,be0⟩ (fun k=>{ tmps := #[x0,x1,.int .i64 (first:Int),x3,x4,.pointer (some ⟨B0,o0,none⟩),x6,x7,x8,x9,x10,.slice (some ⟨S,os,none⟩) len cs,.pointer (some ⟨w'.heap.size+1,0,none⟩),x13,.int .u32 (U5 aL inn last (len-1-k):Int),x15,x16,x17,x18,x19,x20,x21,x22,x23,x24,x25,x26,x27,x28,x29,x30,x31,x32,x33,x34,x35,.int .i64 (first:Int),.slice (some ⟨w'.heap.size,0,none⟩) 1 1,.slice (some ⟨S,os,none⟩) len cs,.func (.func 93) #[] #[.pointer (some ⟨w'.heap.size+2,0,none⟩)],.int .i64 ((len-1-k:Nat):Int),.int .u32 (U5 aL inn last (len-1-k):Int),x42,x43,x44,x45,x46,x47,x48,x49,x50,x51,x52,x53,x54,x55,x56,x57],defers:=[] }) ?assign ?body ?done
 case ownC=>
  intro s W W' row h hgr hr
  refine Boxed.kept h hgr fun e => ?_
  obtain⟨_,o,ho,hc⟩:=hr _ e.symm
  rw[show W.heap[_]? = _ from h] at ho
  cases ho
  cases hc
 case gen=>
  intro l J W hJ hY h0
  exact V49 Fence.wide 4 trivial rfl (by omega) l (w'.heap.size+2) 0 S os cs len (U5 aL inn last) hlen J (fun k W hj=>by
   obtain⟨_,hC,hB'⟩:=hJ k W hj
   exact⟨hC.cell,fun i hi=>(hB'.cell (p:=⟨S,os+i,none⟩) hS).trans (cS i hi)⟩) hY W h0
 case assign=>
  intro l k W K hK
  gi_wp2
  exact hK
 case body=>
  rintro l k W hk ⟨⟨v,hv,hrow,_⟩,hC,hB'⟩
  have gW:GlW W:=hgl.step fun x hx=>hB'.block _ (hgl x hx).1
  obtain⟨hck,hcne⟩:=hcur k hk
  obtain⟨x,gx,gx2,gxD⟩:=hL.at (u:=Q7 aL inn last len first k) (by omega)
  have nx:W.cell? ⟨B0,o0+Q7 aL inn last len first k,none⟩=some (.int .u32 (x:Int)):=(hB'.cell (p:=⟨B0,o0+Q7 aL inn last len first k,none⟩) hB).trans (cA _ _ gx)
  obtain⟨g,cap,rfl⟩:=ownsRow_succ hrow
  have hc:=hv.cell
  have hsW:=hB'.size
  have pk:W.cell? ⟨g,k,none⟩=some (.int .i64 (Q7 aL inn last len first k:Int)):=by
   have:=hrow.cellAt k (by simp[])
   simpa [W6] using this
  have hsl:=R42 (aL:=aL) hi hla (len-1-k)
  have hnext:Q7 aL inn last len first (k+1)=tz (U5 aL inn last (len-1-k) &&& x):=by rw[Q7,gxD]
  rw[gxD] at hcne
  have hband:=C62 (a:=U5 aL inn last (len-1-k)) (b:=x) (by omega) (by omega)
  generalize hs:U5 aL inn last (len-1-k)=s at *
  generalize hcu:Q7 aL inn last len first k=c at *
  have hx64:s &&& x<64:=by have:=W37 (b:=x) hsl;omega
  have htz:deB[tzi (s &&& x)]? = some (tz (s &&& x)):=G58 _ hx64 (by omega)
  have htz32:tz (s &&& x)<32:=by have:=(N43 (s &&& x) hx64 (by omega)).2;omega
  have ek:IntKind.i64.wrap (((k+1:Nat):Int)-1)=(k:Int):=by rw[Y23 (by omega) (by omega)];omega
  have ek2:((k+1:Nat):Int)-1=(k:Int):=by omega
  have c32:c<32:=by omega
  gi_wp2
  have hpn:W6 aL inn last len first (k+1+1)=W6 aL inn last len first (k+1)++[.int .i64 (tz (s &&& x):Int)]:=by
   unfold W6
   rw[J54,hnext]
  generalize tz (s &&& x)=tx at *
  refine⟨trivial,(CallsIn.inRound l (E70 (by omega) hx64 Fence.wide _ trivial rfl W tx (N65 gW htz) htz32)).mono ?_⟩
  rintro e W2 ⟨rfl,e2⟩
  rw[e2]
  gi_wp2_with (gi_at_builtin;refine wpListIn_append_own _ rfl _ _ 27 rfl w'.heap.size 3 i0 (.int .i64 0) 1 8 Tryz.underlying27 hi0 hz0 hz1 hz2 rfl (by decide) _ _ _ rfl (hrow.alloc _) ⟨W.heap.size,0,none⟩ 1 1 [.int .i64 (tx:Int)] rfl rfl (cell_one_new _ _ _) (by simp[Value.oneCell']) (by omega) (by omega) (by simp;omega) ?_;intro v' w1 hown0 hgrow _;have hown':w1.ownsRow w'.heap.size 3 1 v' (k+1+1) (W6 aL inn last len first (k+1+1)):=(by rw[hpn];exact hown0);obtain⟨g',cap',rfl⟩:=ownsRow_succ hown';obtain⟨q1,q2,q3,q4,q5⟩:=step k W w1 _ _ _ hv hrow hC hB' hown' hgrow;have hc1:=q5.cell;have hf1:=q5.frozen)
  obtain⟨v2,z1,z2,_⟩:=q2
  rw[hpn] at z2
  exact⟨v2,z1,z2⟩
 case done=>
  rintro D W hD ⟨⟨v,hv,hrow,_⟩,hC,hB'⟩ hK
  have hc:=hv.cell
  gi_wp2
  refine⟨by simp,.inl ⟨_,_,rfl,run_takeDeferred hK,?_⟩⟩
  have hr:=ownsRow_putObj hrow (.deferred none) hK rfl
  refine⟨_,results_tmp rfl _ _ _,v,rfl,⟨hr.1,hr.2.imp id fun⟨g,cap,cur,e,hb,rest⟩=>⟨g,cap,cur,e,Nat.le_trans hbe.size hb,rest⟩⟩,hbe.trans ((hB'.trans (belowK_b (w:=w') (Nat.le_refl _) W D _ _ (by rw[hsz] at hD;omega) hK rfl rfl)).mono hbe.size)⟩
theorem N40:∀ l:List Int,(U4 l).all M4=true
 | []=>rfl
 | x :: l=>N40 l
theorem C29:Go.Clo.Enters Tryz.prog 37:=⟨_,_,Tryz.func37,rfl,by kernel_rfl⟩
theorem U40{F:FM}{aL:List Nat}{inn first last len:Nat}{E:List Value}(h:VL F (Z8 aL inn first last len) E):E=Z8 aL inn first last len:=by
 cases h with
 | cons h0 h=>
 cases h with
 | cons h1 h=>
 cases h with
 | cons h2 h=>
 cases h with
 | cons h3 h=>
 cases h with
 | cons h4 h=>
 cases h
 cases h1;cases h2;cases h3;cases h4
 obtain⟨x',rfl,hx⟩:=h0.agg_inv;have:=J19 hx (J25 aL);obtain⟨l⟩:=x';simp only at this;subst this
 rfl
theorem C38(aL:List Nat)(inn last len first k:Nat):W6 aL inn last len first k=U4 (((List.range k).map (Q7 aL inn last len first)).map fun(x:Nat)=>(x:Int)):=by
 unfold W6 U4;rw[List.map_map,List.map_map];rfl
theorem E64{aL:List Nat}{N:Nat}(hN:N<=6)(hL:NbL aL N)(U:∀ u w,(aL.getD u 0).testBit w=true->(aL.getD w 0).testBit u=true){inn last first len:Nat}(hi:inn<2^N)(Z:last<2^N)(hf:first<N)(h1:1<=len)(O:len<=100)
  (E:U5 aL inn last (len-1) &&& aL.getD first 0≠0)(H:Y0)(nx:Nat):
  Q2 Tryz.prog 37 (Z8 aL inn first last len) H nx fun r H' nx'=>LsR ((List.range (len+1)).map (Q7 aL inn last len first)) r H' nx'/\D0 H nx H' nx':=by
 have V:(W6 aL inn last len first (len+1)).length=len+1:=by simp[W6]
 have hE:D0 H nx (Go.Clo.hs H nx (some (.cells (W6 aL inn last len first (len+1)) 1))) (nx+1):=(D0.refl H nx).new _ (Nat.le_refl _) (by omega);refine⟨.slice (some ⟨nx,0,none⟩) (len+1) (len+1),Go.Clo.hs H nx (some (.cells (W6 aL inn last len first (len+1)) 1)),nx+1,⟨C29,fun F W w hh hl => ?_⟩,⟨⟨some ⟨nx,0,none⟩,by simp,⟨fun h=>(by cases h),fun h=>(by have:=congrArg List.length h;simp at this)⟩,?_⟩,hE⟩⟩
 .have ea:=U40 hl
  subst ea;refine(E33 hN hL U hi Z hf h1 O E w hh.gl.1).mono fun e w' ⟨v,he,Q,hb⟩ => ?_
  rcases Q.2 with ⟨_,h0⟩ | ⟨g,cp,a1,rfl,hg,hc,h1,a0,h3,h4⟩
  .omega
  .obtain⟨F',J,E⟩:=N2.row (xs:=W6 aL inn last len first (len+1)) hh hb hg hc (by rw[V];exact h1) (by simpa using h3) (by simpa [W6] using h4) (Nat.le_trans a0 (by decide)) (by rw[C38];exact N40 _)
   rw[V] at J;exact⟨_,F',he,J,E⟩
 .intro i u hu
  refine⟨nx,0,W6 aL inn last len first (len+1),rfl,by omega,by rw[Q5,E0];rfl,?_⟩;rw[Nat.zero_add,C38];exact hu
end Go.Proofs.YtoiioigihocgbaaGreatDoor

namespace Go.Proofs.YtoiioigihocgbaaGreatDoor
open Go.RowKit Go.Shelf Go.Clo
def nbL:List Nat:=[4,4,3,0,0,0,0,0,0,0,0,0,0,0,0,0,0,0,0,0,0,0,0,0,0,0,0,0,0,0,0,0]
def V23(k:IntKind)(n:Nat):Value->Bool
 | .int k' (.ofNat m)=>eqK k k'&&Nat.beq m n
 | _=>false
theorem D62{a b:IntKind}(h:eqK a b=true):a=b:=by cases a<;>cases b<;>first | rfl | cases h
theorem C19{k:IntKind}{n:Nat}:∀ {v:Value},V23 k n v=true->v = .int k (n:Int)
 | .int k' (.ofNat m),h=>by
  simp only[V23,Bool.and_eq_true] at h;rw[<- D62 h.1,Nat.eq_of_beq_eq_true h.2];rfl
def R35(k:IntKind):List Nat->List Value->Bool
 | [],[]=>true
 | n :: ns,v :: vs=>V23 k n v&&R35 k ns vs
 | _,_=>false
theorem B40{k:IntKind}:∀ {ns:List Nat} {vs:List Value},R35 k ns vs=true->vs=ns.map fun(n:Nat)=>Value.int k (n:Int)
 | [],[],_=>rfl
 | n :: ns,v :: vs,h=>by
  simp only[R35,Bool.and_eq_true] at h;rw[List.map_cons,C19 h.1,<- B40 h.2]
def K33:List Value->Bool
 | [.agg ⟨l⟩,a,b,c,d]=>R35 .u32 nbL l&&(V23 .u32 4 a&&(V23 .i64 0 b&&(V23 .u32 2 c&&V23 .i64 2 d)))
 | _=>false
theorem Q56:∀{args:List Value},K33 args=true->args=Z8 nbL 4 0 2 2
 | [.agg ⟨l⟩,a,b,c,d],h=>by
  simp only[K33,Bool.and_eq_true] at h;obtain⟨h1,h2,h3,h4,h5⟩:=h;rw[B40 h1,C19 h2,C19 h3,C19 h4,C19 h5];rfl
def C35:List Value:=[.int .i64 0,.int .i64 2,.int .i64 1]
def U65(args:List Value)(H:Y0)(nx:Nat):Option (Value × Y0 × Nat):=
 cond (K33 args) (some (.slice (some ⟨nx,0,none⟩) 3 3,hs H nx (some (.cells C35 1)),nx+1)) none
def K64:Orc:=fun f=>cond (Nat.beq f 37) (some U65) none
theorem Y65:NbL nbL 3:=⟨rfl,by
 intro u x h;have hx:x ∈ nbL:=List.mem_of_getElem? h;have:∀ y ∈ nbL,y<2^3:=by decide
 exact this x hx⟩
theorem M69:∀ u w,(nbL.getD u 0).testBit w=true->(nbL.getD w 0).testBit u=true:=by
 intro u w h;have hu:u<32:=by
  refine Classical.byContradiction fun hn => ?_
  rw[List.getD_eq_getElem?_getD,List.getElem?_eq_none (by show 32<=u;omega)] at h;simp at h
 have hw:w<3:=by
  obtain⟨x,gx,J,E⟩:=Y65.at hu;rw[E] at h;exact R7 J h
 have key:∀ u,u<32->∀ w,w<3->(nbL.getD u 0).testBit w=true->(nbL.getD w 0).testBit u=true:=by decide
 exact key u hu w hw h
theorem U66:W6 nbL 4 2 2 0 3=C35:=by
 have h1:Q7 nbL 4 2 2 0 1=2:=by decide
 have h2:Q7 nbL 4 2 2 0 2=1:=by decide
 show [Value.int .i64 ((0:Nat):Int),.int .i64 (Q7 nbL 4 2 2 0 1:Int),.int .i64 (Q7 nbL 4 2 2 0 2:Int)]=C35;rw[h1,h2];rfl
theorem D67:B42 Tryz.prog K64:=by
 intro f o hf args H nx v H' nx' ho;unfold K64 at hf
 cases hb:Nat.beq f 37 with
 | false=>rw[hb] at hf;cases hf
 | true=>
  rw[hb] at hf
  cases hf
  have J:=Nat.eq_of_beq_eq_true hb;subst J;unfold U65 at ho
  cases hw:K33 args with
  | false=>rw[hw] at ho;cases ho
  | true=>
   rw[hw] at ho
   cases ho
   have ea:=Q56 hw;subst ea;refine⟨C29,fun F Q w hh hl => ?_⟩;have ea:=U40 hl;subst ea;refine(E33 (N:=3) (by omega) Y65 M69 (inn:=4) (last:=2) (first:=0) (len:=2) (by decide) (by decide) (by decide) (by decide) (by decide) (by decide) w hh.gl.1).mono fun e w' ⟨v,he,E,hb⟩ => ?_
   rw[show 2+1=3 from rfl,U66] at E;rcases E.2 with ⟨_,h0⟩ | ⟨g,cp,W,rfl,hg,hc,h1,U,h3,h4⟩
   .omega
   .obtain⟨F',O,V⟩:=N2.row (xs:=C35) hh hb hg hc h1 (by simpa using h3) (by simpa [C35] using h4) (Nat.le_trans U (by decide)) rfl
    exact⟨_,F',he,O,V⟩
set_option maxRecDepth 1000000 in
theorem R59:U46 Tryz.prog K64 100 8 []=some (.bool true):=by kernel_rfl
theorem X60(H:Y0)(nx:Nat):Q2 Tryz.prog 8 [] H nx fun v H' nx' => .bool true=v/\H=H'/\nx=nx':=B55 mixed J2 D67 R59 rfl rfl H nx
end Go.Proofs.YtoiioigihocgbaaGreatDoor

namespace Go.Proofs.YtoiioigihocgbaaGreatDoor
open Go.ChangeShapes Go.WideShapes Go.ChangeAt Go.RowKit Go.Joins Go.Deep Go.Clo
variable {W:World}
theorem own:ownKnob Tryz.prog.godebug=none:=by kernel_rfl
theorem V68:laidOutB Tryz.prog=true:=by kernel_rfl
def X16:List (String × DataW Unit):=Rows.dichotomyDecidesRow.laid
theorem G70:Tryz.prog.globalNamed (X16.map (·.1)).head! = some 0:=by kernel_rfl
theorem C44 (h:laidMetH Tryz.prog X16 W) (r n:Nat) (hr:deB[r]? = some n):W.cell? ⟨0,r,none⟩=some (.int .u8 (n:Int)):=by
 have hrl:r<32:=(List.getElem?_eq_some_iff.1 hr).1
 rw[MakeChecks.laidMetH_plain _ _ _ (by kernel_rfl)] at h
 obtain⟨ps,⟨g,t,cs,fuel,p,q,hg,ht,hv,hd,_,_⟩,_,_⟩:=h
 obtain rfl:=Option.some.inj (G70.symm.trans hg)
 obtain rfl:=Option.some.inj ((show (Tryz.prog.globals[0]?).map (·.type)=some 136 by kernel_rfl).symm.trans ht)
 obtain⟨xs,m,_,ex,_,hl,hel⟩:=DataW.trod_array Tryz.underlying136 hd
 have c5:Tryz.prog.cellsOf 5=1:=by kernel_rfl
 have hE:=hel r hrl
 rw[c5,Nat.mul_one,List.getElem?_eq_getElem (by omega)] at hE
 obtain⟨z,e1,e2,_⟩:=DataW.trod_int Tryz.underlying5 hE
 have e3:(xs.map (·.1))=deB.map fun (n:Nat) => .lit (.int .u8 (n:Int)):=(DataW.agg.inj (Prod.mk.inj ex).1).symm
 have e4:(xs.map (·.1))[r]? = (deB.map fun (n:Nat)=>(DataW.lit (.int .u8 (n:Int)):DataW Unit))[r]? := by rw[e3]
 rw[List.getElem?_map,List.getElem?_map,List.getElem?_eq_getElem (by omega:r<xs.length),hr,e2] at e4
 have hz:z=(n:Int):=by
  simpa only[Option.map_some,Option.some.injEq,DataW.lit.injEq,Lit.int.injEq,true_and] using e4
 rw[World.var?_cell hg hv r,<- hz]
 have:cs.toList[r]? = some (.int .u8 z):=by
  have h0:((cs.toList.drop r).take 1)[0]? = some (.int .u8 z):=by rw[e1];rfl
  simpa using h0
 simpa using this
theorem B48 (h:laidMetH Tryz.prog X16 W):GlW W:=fun x hx=>by
 rw[List.mem_singleton.1 hx]
 have h0:=C44 h 0 0 rfl
 constructor
 .unfold World.cell? at h0
  rcases Nat.lt_or_ge 0 W.heap.size with g | g
  .exact g
  .rw[Array.getElem?_eq_none g] at h0;cases h0
 .intro i v hv
  simp only[List.getElem?_map,Option.map_eq_some_iff] at hv
  obtain⟨n,hn,rfl⟩:=hv
  exact C44 h i n hn
section
variable {X:Type} {enc:TypeId × Value->X} {W:World} {b0 base:Nat} {spare:Nat->Bool} {held:Bool}
theorem N48{P:Program}{r:Reach}{t e:TypeId}{A:Option Addr}{len cap:Nat}(ht:P.underlying t=some (.slice e))(h:Cell.okWide P W r b0 t (.slice A len cap)):Cell.ok P W r b0 t (.slice A len cap):=by
 simp only[Cell.okWide,ht] at h;exact h
theorem Y49{α:Type}(f:α->Value)(xs:List α):(xs.flatMap fun a=>[f a])=xs.map f:=by
 induction xs with
 | nil=>rfl
 | cons a xs ih=>simp[ih]
end
theorem D64{X:Type}{enc:TypeId × Value->X}{fn:Func}{s:ChangeSpec}{W':World}{args:Array Value}{ds gs:List (DataW X)}{E p:List MemPlace}
  (hW:DataW.Whole enc Tryz.prog fn.params.toList s.vars false W args.toList ds gs E)(hv:s.vars=[])(Q:(s.fn X (ds++gs)).results=[.lit (.bool true)])(J:(s.fn X (ds++gs)).vars=[])
  (O:(s.fn X (ds++gs)).args=ds)(U:fn.resultTypes = #[4])(V:∀ t ∈ fn.params.toList,Tryz.prog.readableRec t=true/\t<Tryz.prog.types.size)(hb:Below W.heap.size W W')
  (hA:DataW.TrodAll enc Tryz.prog W 0 (fun _=>true) true fn.params.toList args.toList ds p)(hp:∀ x ∈ p,x ∈ E):
  s.post enc Tryz.prog fn false true false false W args (.bool true) W':=by
 refine J41 (pa:=p) (pv:=[]) hW hb (fun _ _ _ => ?_) ?_ ?_
 .rw[Q,U]
  exact trodAll_cons_mk (shut_bool Tryz.underlying4 _) trodAll_mk0
 .rw[O]
  exact N24 V68 hb _ _ _ _ V hA fun x hx=>hW.lt x (hp x hx)
 .rw[hv,J];rfl
theorem Q69 (os:Os):(World.laidAll Tryz.prog os X16).Shaped Tryz.prog:=World.shaped_of_ZipB (by kernel_rfl) (by kernel_rfl)
theorem met (os:Os) (args:Array Value):laidMetH Tryz.prog X16 ((World.laidAll Tryz.prog os X16).forCall (fun _ _=>0) ⟨#[],args,[]⟩).memory:=by
 rw[MakeChecks.laidMetH_plain _ _ _ (by kernel_rfl)];exact laidMet_laidAll _ (by kernel_rfl) (by kernel_rfl)
end Go.Proofs.YtoiioigihocgbaaGreatDoor

namespace Go.Proofs.YtoiioigihocgbaaGreatDoor
open Go.ChangeShapes Go.WideShapes Go.ChangeAt Go.RowKit Go.Joins Go.Deep Go.Clo
variable {n:Nat}
section
variable {X:Type} {enc:TypeId × Value->X} {W:World} {b0 base:Nat} {spare:Nat->Bool} {held:Bool}
theorem V67:Tryz.prog.cellTypes Tryz.prog.depth 24=some [3,22]:=by kernel_rfl
set_option maxRecDepth 100000 in
theorem V55{v:Value}{d:DataW X}{p:List MemPlace}(hv:Value.okWide Tryz.prog W .any b0 24 v)(h:DataW.Trod enc Tryz.prog W base spare held 24 v d p):
  ∃(N:Int) (A:Option Addr) (len cap n:Nat) (y:DataW X × List MemPlace),v = .agg #[.int .i64 N,.slice A len cap]/\(Lit.int .i64 N).wf=true/\Cell.ok Tryz.prog W .any b0 22 (.slice A len cap) /\
   DataW.trod enc Tryz.prog W base spare held n 22 [.slice A len cap]=some y:=by
 have E:=hv;obtain⟨v0,v1,y0,y1,n,rfl,rfl,rfl,h0,h1⟩:=open_agg2 Tryz.underlying24 (by kernel_rfl) (by kernel_rfl) hv h;obtain⟨N,e0,_,hN⟩:=DataW.trod_int Tryz.underlying3 h0;simp only[List.cons.injEq,and_true] at e0;subst e0;simp only[Value.okWide,Tryz.underlying24] at E;obtain⟨cs,e,_,ts,J,_,O⟩:=E
 cases e
 rw[V67] at J
 cases J
 obtain⟨u,hu,hc⟩:=O 1 v1 rfl
 cases hu
 obtain⟨A,len,cap,rfl⟩:∃ A len cap,v1 = .slice A len cap:=by
  simp only[Cell.okWide,Tryz.underlying22] at hc
  cases v1<;>simp_all [Cell.ok]
 exact⟨N,A,len,cap,n,y1,rfl,hN,N48 Tryz.underlying22 hc,h1⟩
theorem E62{cs:List Value}{y:DataW X × List MemPlace}(h:DataW.trod enc Tryz.prog W base spare held n 56 cs=some y):∃ a:Nat,[Value.int .u32 (a:Int)]=cs/\a<4294967296:=by
 obtain⟨z,rfl,_,hz⟩:=DataW.trod_int Tryz.underlying56 h;simp only[Lit.wf,Bool.and_eq_true,decide_eq_true_eq,show IntKind.u32.min=0 from rfl,show IntKind.u32.max=4294967295 from rfl] at hz;exact⟨z.toNat,by rw[Int.toNat_of_nonneg (by omega)],by omega⟩
set_option maxRecDepth 100000 in
theorem E52{F:FM}{H:Y0}{nx:Nat}(hi:In W F H nx){A:Option Addr}{len cap:Nat}{y:DataW X × List MemPlace}(E:Cell.ok Tryz.prog W .any b0 22 (.slice A len cap))(h:DataW.trod enc Tryz.prog W base spare held n 22 [.slice A len cap]=some y):
  ∃(F':FM) (H':Y0) (nx':Nat) (A':Option Addr) (es:List Nat),In W F' H' nx'/\F.le F'/\VR F' (.slice A' es.length cap) (.slice A len cap)/\C4 es/\Sl H' nx' A' (C0 es)/\D0 H nx H' nx'/\Has H' nx' A':=by
 obtain⟨F',H',nx',A',xs,h1,h2,h3,rfl,h5,h6,h7,_,h9⟩:=hi.sliceH (f:=fun a:Nat=>[Value.int .u32 (a:Int)]) (Pr:=fun a=>a<4294967296) (sz:=1) Tryz.underlying22 (by kernel_rfl) (fun _=>rfl) E h (fun n cs y h=>E62 h) (fun _=>rfl);rw[Y49] at h6;exact⟨F',H',nx',A',xs,h1,h2,h3,h5,h6,h7,h9⟩
end
end Go.Proofs.YtoiioigihocgbaaGreatDoor
