/-
THE STATEMENT DichotomyExcludes: for every input the law returns true,and each argument reads behind the call as it did (what the row lists of Go's tables is tied to the program's text). No condition.
-/
import Derived.Test.YtoiioigihocgbaaGreatDoorY1
import Derived.RangeFuncBox
import Derived.RangeFuncLeaves
import Derived.RangeFuncWrites
import Derived.RangeFuncCalls
import Derived.Shelf.Abstract
import Derived.WalkKit
import Derived.OwnWalkIn
import Derived.TacticsInMore
import Derived.LoopNIn
import Derived.LoopIn
import Derived.Maps.AppendAt
import Derived.Test.YtoiioigihocgbaaGreatDoorY5
import Derived.Test.YtoiioigihocgbaaGreatDoorRows
import Derived.ProofKit
import Derived.OpenShut
import Derived.Lib.SmallJoins
import Derived.Deep.Strs
import Derived.SizedLaws
import Derived.LaidMore
import Derived.Lay
import Derived.Stop.Joined
import Derived.Test.YtoiioigihocgbaaGreatDoorY6
import Derived.Test.YtoiioigihocgbaaGreatDoorTie
import Derived.Test.YtoiioigihocgbaaGreatDoorCards
import Derived.SevenTiedAt
set_option maxHeartbeats 8000000
set_option maxRecDepth 100000
set_option linter.all false
noncomputable section
open Array renaming getElem?_eq_none->fK
open BitVec renaming ofInt->cT,toNat_ofNat->eP
open Bool renaming and_eq_true->aG,eq_false_iff->bN,eq_iff_iff->eX,not_eq_true'->cJ,or_eq_true->cO
open Classical renaming byContradiction->aI
open Eq renaming symm->iD
open Go.IntKind renaming bits->dW,signed->eK,u32->eW,wrap->eY
open Go.OpenSpec renaming ofChange->gP
open Go.Proofs.Tryz renaming prog->gQ
open Go.Value renaming bool->dU,int->cD
open Go.World renaming putObj_heap_other->gF
open Int renaming toNat_natCast->gR
open List renaming all_eq_true->iE,any_eq_true->dY,cons_append->dL,getD_eq_getElem?_getD->aP,getElem?_eq_getElem->aE,getElem?_eq_none->aT,getElem?_eq_some_iff->aJ,getElem?_map->cP,getElem?_of_mem->cH,getElem?_set_ne->bL,getElem?_set_self->dG,length_cons->cV,length_map->gM,length_set->dO,mem_append->dN,mem_append_left->dX,mem_cons->aU,mem_map->gN,mem_of_getElem?->aH,mem_range->cW,mem_singleton->dJ,nil_append->eR,pairwise_iff_getElem->fD,range->aY,replicate->aF
open List.Nodup renaming length_le_of_subset->iB
open List.cons renaming injEq->fM
open Nat renaming beq->bR,eq_of_beq_eq_true->dI,eq_of_testBit_eq->bZ,le_refl->aD,le_trans->bK,lt_of_le_of_lt->iF,lt_of_lt_of_le->aO,lt_or_ge->aW,mod_eq_of_lt->bV,mul_one->eQ,pow_le_pow_right->aK,testBit_and->bI,testBit_two_pow->aR,testBit_two_pow_sub_one->dC,two_pow_pos->aQ,zero_add->cF,zero_testBit->jQ
open Option renaming isSome_none->gO,map_eq_some_iff->bU
open Option.some renaming inj->fA,injEq->aZ
namespace Go.Clo
section
open Go.RowKit
theorem E32 {P:Program} {F:Fence} {n:Nat} {g:Operand} {ps:Array Tmp} {assign body:Code} {Q:Exit->Act->World->Prop} {a:Act} {w:World} (hro:F.round=none) (h1:1<=n) {gf:Nat} {lb:Array Value}
  (hg:a.eval g = .func (.func gf) #[] lb) (hFg:F.fn gf) (eg:∀ args w,(callFunc gf args).run P w = .ok (.enter gf args) w)
  {N:Nat} {enc:Nat->Array Value} (hps:∀ k,(enc k).size=ps.size) (I:Nat->World->Prop) (hI:OwnFrom w.heap.size I)
  (hgen:∀ (l:Nat) (J:Nat->World->Prop) (W:World),(∀ k W,J k W->I k W) ->
   (∀ k W1,k<N->J k W1->YieldAt F (n-1-1) P l (enc k) W1 fun e W'=>e = .returned (.bool true)/\J (k+1) W')->J 0 W ->
   CallsIn F (n-1) P gf (#[.func (.yield l) #[] #[]]++lb) W fun e W'=>(∃ v,e = .returned v)/\J N W')
  (h0:I 0 w) (a₁:Nat->Act)
  (hassign:∀ (l k:Nat) (W:World) (K:Act->World->Prop),K (a₁ k) W ->
   assign.wpIn (F.inRound l) (n-1-1) P (Exit.then K (fun _ _ _=>False)) { tmps:=(ps.zip (enc k)).foldl (fun t (p,v)=>t.setIfInBounds p v) a.tmps,defers:=[] } W)
  (hbody:∀ (l k:Nat) (W:World),k<N->I k W->body.wpIn (F.inRound l) (n-1-1) P (fun e _ W'=>e = .normal/\KeepsFrom w.heap.size W W'/\I (k+1) W') (a₁ k) W)
  (hdone:∀ (D:Nat) (W:World),w.heap.size<=D->I N W->W.heap[D]? = some (.deferred (some []))->Q .normal { a with defers:={ target := .collected D,args := #[] } :: a.defers } W):
  (Code.rangeFunc g ps assign body).wpIn F n P Q a w:=by
 refine wpIn_rangeFunc fun fn hfn => ?_
 rw[hro]
 let L (st:LoopState):Obj := .loop { state:=st,pending:=none,fn,tmps:=a.tmps,params:=ps,assign,body,defers:=w.heap.size }
 let l:=w.heap.size+1
 let D:=w.heap.size
 have hA:(w.alloc (.deferred (some []))).heap.size=l:=by simp[l]
 have e1:((w.alloc (.deferred (some []))).alloc (L .ready)).heap[l]? = some (L .ready):=by
  have:=World.alloc_heap_new (w.alloc (.deferred (some []))) (L .ready)
  rwa [hA] at this
 have e2:((w.alloc (.deferred (some []))).alloc (L .ready)).heap[D]? = some (.deferred (some [])):=
  (Below.heap_alloc _ _ _ (by simp[D])).trans (World.alloc_heap_new w _)
 refine⟨l,[{ target := .collected D,args := #[] }],((w.alloc (.deferred (some []))).alloc (L .ready)),{ target := .fn (.func gf) lb,args := #[.func (.yield l) #[] #[]] },((w.alloc (.deferred (some []))).alloc (L .ready)),gf,#[.func (.yield l) #[] #[]]++lb,((w.alloc (.deferred (some []))).alloc (L .ready)),run_enterLoop_outer _ _ _ _ _,?_,?_,?_,fun _=>h1,?_⟩
 .simp only[resolve,hg]
  simp[go_sem]
 .intro f' hf'
  simp[Target.leads] at hf'
  subst hf'
  exact hFg
 .simp[invoke,go_sem,eg]
 .refine (hgen l (fun k W=>I k W/\W.heap[l]? = some (L .ready)/\W.heap[D]? = some (.deferred (some []))) _ (fun k W h=>h.1) ?_ ⟨hI.alloc _ (hI.alloc _ h0),e1,e2⟩).mono ?_
  .rintro k W hk ⟨hi,hl,hd⟩
   have hlt:l<W.heap.size:=(Array.getElem?_eq_some_iff.1 hl).1
   have hne:D≠l:=by simp[D,l]
   refine⟨fn,_,assign,body,run_yield (P:=P) (args:=enc k) hl (hps k),roundIn_of_wpIn hfn (hassign _ k W _ ⟨_,run_beginRound hl rfl,?_⟩)⟩
   have g1:(W.putObj l (L .busy)).heap[l]? = some (L .busy):=World.putObj_heap_same hlt
   have g2:(W.putObj l (L .busy)).heap[D]? = some (.deferred (some [])):=(World.putObj_heap_other hne).trans hd
   refine wpIn_mono (hbody _ k _ hk (hI.putObj _ hi (by simp[l]) hl rfl)) ?_
   rintro e a3 W3 ⟨rfl,hkeep,hi3⟩
   have k1:=hkeep.same _ _ (by simp[l]) g1 rfl
   have k2:=hkeep.same _ _ (Nat.le_refl _) g2 rfl
   refine⟨_,_,run_endRound (P:=P) none k1,rfl,hI.putObj _ hi3 (by simp[l]) k1 rfl,World.putObj_heap_same (Array.getElem?_eq_some_iff.1 k1).1,(World.putObj_heap_other hne).trans k2⟩
  .rintro e W2 ⟨⟨v,rfl⟩,hi,hl,hd⟩
   exact⟨none,_,run_endLoop (P:=P) hl (by simp),hdone _ _ (Nat.le_refl _) (hI.putObj _ hi (by simp[l]) hl rfl) ((World.putObj_heap_other (by simp[D,l])).trans hd)⟩
end
end Go.Clo
namespace Go.Proofs.YtoiioigihocgbaaGreatDoor
section
open Go.RowKit Go.Shelf Go.Clo
attribute [local go_sem] Oper.semAt_some
theorem V49(F:Fence)(n:Nat)(h7:F.fn 93)(a1:F.round=none)(hn:1<=n)(l Bs Bo b off cap len:Nat)(st:Nat->Nat)(a3:len<=100)(J:Nat->World->Prop)(hJ:∀ k W,J k W->W.cell? ⟨Bs,Bo,none⟩=some (.slice (some ⟨b,off,none⟩) len cap)/\∀ i,i<len->W.cell? ⟨b,off+i,none⟩=some (O9 (st i:Int)))(hY:∀ k W1,k<len->J k W1->YieldAt F (n-1) gQ l #[O8 ((len-1-k:Nat):Int),O9 (st (len-1-k):Int)] W1 fun e W'=>e = .returned (.bool true)/\J (k+1) W')(W:World)(h0:J 0 W):
  CallsIn F n gQ 93 #[.func (.yield l) #[] #[],.pointer (some ⟨Bs,Bo,none⟩)] W fun e W'=>(∃ v,e = .returned v)/\J len W':=by
 refine callsIn_of_wp Tryz.func93 rfl h7 ?_ a1;simp only[Tryz.ntmps93,List.size_toArray,cV,List.length_nil,Nat.reduceAdd,Nat.reduceSub,Array.replicate_succ,Array.replicate_zero,List.push_toArray,List.append_toArray,eR,dL];obtain⟨a7,a9⟩:=hJ 0 W h0;have U:IntKind.i64.wrap ((len:Int)-1)=(len:Int)-1:=Y23 O0 O0
 gi_wp2
 gi_loopw [3] (fun i wr=>∃ k:Nat,k<=len/\i=O8 ((len:Int)-1-(k:Int))/\J k wr)
  (fun i _=>(intOf i+1).toNat)
 case atStart=>exact⟨0,O0,by first | (simp[]) | skip,h0⟩
 case round=>
  obtain⟨k,hk,rfl,O⟩:=hrel;obtain⟨a4,V⟩:=hJ k wr O
  by_cases a0:k<len
  .obtain⟨fn,tmps,E,body,Q,hR⟩:=hY k wr a0 O
   obtain⟨j,hj⟩:∃ j:Nat,j=len-1-k:=⟨_,rfl⟩
   have ej:(len:Int)-1-(k:Int)=(j:Int):=O0;have Z:j<len:=O0;rw[<- hj] at Q;rw[ej];have hy:Sem.run gQ (Instr.yield l #[cD IntKind.i64 (j:Int),cD eW (st j:Int)]) wr=Result.ok (Next.round l fn tmps E body) wr:=Q;have a5:=V j Z;have a8:(j:Int) ≥ 0:=O0;have a6:j+k+1=len:=O0;clear hj ej
   gi_wp2
   refine hR.mono ?_;rintro e W3 ⟨rfl,a2⟩
   gi_wp2
   go_roundw
   case rel=>exact⟨k+1,O0,by simp;omega,a2⟩
   case measure=>simp[intOf]
  .obtain rfl:k=len:=O0
   have e1:(k:Int)-1-(k:Int) = -1:=O0;rw[e1]
   gi_wp2
   go_end0
   exact⟨⟨_,rfl⟩,O⟩
end
end Go.Proofs.YtoiioigihocgbaaGreatDoor
namespace Go.Clo
theorem J54(aL:List Nat)(inn last len first k:Nat):(aY (k+1+1)).map (fun i=>cD .i64 (Q7 aL inn last len first i:Int))=(aY (k+1)).map (fun i=>cD .i64 (Q7 aL inn last len first i:Int))++[O8 (Q7 aL inn last len first (k+1):Int)]:=by
 rw[List.range_succ (n:=k+1),List.map_append];rfl
end Go.Clo
namespace Go.Proofs.YtoiioigihocgbaaGreatDoor
section
open Go.RowKit Go.Shelf Go.Clo
attribute [local go_sem] Oper.semAt_some
theorem Y59(F:Fence)(n:Nat)(h:F.fn 72)(E:F.round=none)(A:Option Addr)(m c:Nat)(w:World):CallsIn F n gQ 72 #[.slice A m c] w fun e w'=>e = .returned (.func (.func 93) #[] #[.pointer (some ⟨w.heap.size,0,none⟩)])/\w'=w.alloc (.cells #[.slice A m c] 22):=by
 refine callsIn_of_wp Tryz.func72 rfl h ?_ E;simp only[Tryz.ntmps72,List.size_toArray,cV,List.length_nil,Nat.reduceAdd,Nat.reduceSub,Array.replicate_succ,Array.replicate_zero,List.push_toArray,List.append_toArray,eR,dL]
 gi_wp2
 go_ret
 exact⟨rfl,rfl⟩
theorem B70:(gQ.info? 3).map (fun i=>(i.zero,i.size,i.bytes))=some (some (O8 0),1,8):=by kernel_rfl
def W6(aL:List Nat)(inn last len first k:Nat):List Value:=(aY k).map fun i => .int .i64 (Q7 aL inn last len first i:Int)
theorem C62{a b:Nat}(ha:a<4294967296)(hb:b<4294967296):bits .and .u32 (a:Int) (b:Int)=((a &&& b:Nat):Int):=by
 have e:bits .and .u32 (a:Int) (b:Int)=eW.wrap (((cT 32 (a:Int)) &&& (cT 32 (b:Int))).toNat:Int):=rfl;rw[e,W10,W10,BitVec.toNat_and,eP,eP,bV ha,bV hb,D15 (D52 ha)]
theorem E33 {aL:List Nat} {N:Nat} (hN:N<=6) (hL:NbL aL N) (hsym:∀ u w,(aL.getD u 0).testBit w=true->(aL.getD w 0).testBit u=true) {inn last first len:Nat} (hi:inn<2^N) (hla:last<2^N) (hf:first<N) (h1:1<=len) (hlen:len<=100)
  (hst:U5 aL inn last (len-1) &&& aL.getD first 0≠0) (w:World) (hg:GlW w):
  Calls Tryz.prog 37 (Z8 aL inn first last len).toArray w fun e W'=>∃ v,e = .returned v/\W'.ownsRow w.heap.size 3 1 v (len+1) (W6 aL inn last len first (len+1))/\Below w.heap.size w W':=by
 have hp64:2^N<=64:=Nat.pow_le_pow_right (n:=2) (by omega) hN
 have hcur:=J58 (aL:=aL) (inn:=inn) (last:=last) (N:=N) hN hL.lt hsym hi hla hf hst
 have hf100:first<100:=by omega
 refine callsIn_wide.1 (callsIn_of_wp_marks (n:=5) Tryz.func37 rfl trivial ?_ rfl)
 refine V64 hN hL hi hla hf100 h1 hlen w hg _ _ ?_
 rintro⟨tmps,defers⟩ w' B0 o0 S os cs hd hsz h2 h5 h11 cA cS hgl hbe hB hS
 dsimp only at hd hsz h2 h5 h11
 subst hd
 obtain⟨x0,x1,x2,x3,x4,x5,x6,x7,x8,x9,x10,x11,x12,x13,x14,x15,x16,x17,x18,x19,x20,x21,x22,x23,x24,x25,x26,x27,x28,x29,x30,x31,x32,x33,x34,x35,x36,x37,x38,x39,x40,x41,x42,x43,x44,x45,x46,x47,x48,x49,x50,x51,x52,x53,x54,x55,x56,x57,rfl⟩:=R70 tmps hsz
 have h2':x2 = .int .i64 (first:Int):=h2
 have h5':x5 = .pointer (some ⟨B0,o0,none⟩):=h5
 have h11':x11 = .slice (some ⟨S,os,none⟩) len cs:=h11
 subst h2' h5' h11'
 clear h2 h5 h11 hsz
 obtain⟨i0,hi0,hz0,hz1,hz2⟩:=info_parts B70
 have hmax:(1000:Nat)<=maxLen:=by decide
 gi_wp2
 refine⟨trivial,(Y59 Fence.wide 4 trivial rfl _ _ _ _).mono ?_⟩
 rintro e w'' ⟨rfl,rfl⟩
 gi_wp2
 have bO:Boxed (((w'.alloc (.cells #[.int .i64 (first:Int)] 3)).alloc (.cells #[.slice (some ⟨w'.heap.size,0,none⟩) 1 1] 27)).alloc (.cells #[.slice (some ⟨S,os,none⟩) len cs] 22)) (w'.heap.size+1) 27 (.slice (some ⟨w'.heap.size,0,none⟩) 1 1):=by
  have:=(Boxed.new (w'.alloc (.cells #[.int .i64 (first:Int)] 3)) 27 (.slice (some ⟨w'.heap.size,0,none⟩) 1 1)).alloc (.cells #[.slice (some ⟨S,os,none⟩) len cs] 22)
  simpa using this
 have bC:Boxed (((w'.alloc (.cells #[.int .i64 (first:Int)] 3)).alloc (.cells #[.slice (some ⟨w'.heap.size,0,none⟩) 1 1] 27)).alloc (.cells #[.slice (some ⟨S,os,none⟩) len cs] 22)) (w'.heap.size+2) 22 (.slice (some ⟨S,os,none⟩) len cs):=by
  have:=Boxed.new ((w'.alloc (.cells #[.int .i64 (first:Int)] 3)).alloc (.cells #[.slice (some ⟨w'.heap.size,0,none⟩) 1 1] 27)) 22 (.slice (some ⟨S,os,none⟩) len cs)
  simpa using this
 have row0:World.ownsRow (((w'.alloc (.cells #[.int .i64 (first:Int)] 3)).alloc (.cells #[.slice (some ⟨w'.heap.size,0,none⟩) 1 1] 27)).alloc (.cells #[.slice (some ⟨S,os,none⟩) len cs] 22)) w'.heap.size 3 1 (.slice (some ⟨w'.heap.size,0,none⟩) 1 1) 1 [.int .i64 (first:Int)]:=
  ((World.ownsRow_lit (base:=w'.heap.size) (e:=3) (size:=1) w' #[.int .i64 (first:Int)] 1 (Nat.le_refl _) (by decide) rfl).alloc _).alloc _
 have be0:Below w'.heap.size w' (((w'.alloc (.cells #[.int .i64 (first:Int)] 3)).alloc (.cells #[.slice (some ⟨w'.heap.size,0,none⟩) 1 1] 27)).alloc (.cells #[.slice (some ⟨S,os,none⟩) len cs] 22)):=
  (((Below.refl _ w').alloc (Nat.le_refl _) _).alloc (by simp) _).alloc (by simp;omega) _
 have hsz:(((w'.alloc (.cells #[.int .i64 (first:Int)] 3)).alloc (.cells #[.slice (some ⟨w'.heap.size,0,none⟩) 1 1] 27)).alloc (.cells #[.slice (some ⟨S,os,none⟩) len cs] 22)).heap.size=w'.heap.size+3:=by simp
 have step:∀ (k:Nat) (W w1:World) (v v':Value) (tmp:Obj),Boxed W (w'.heap.size+1) 27 v->W.ownsRow w'.heap.size 3 1 v (k+1) (W6 aL inn last len first (k+1))->Boxed W (w'.heap.size+2) 22 (.slice (some ⟨S,os,none⟩) len cs)->Below w'.heap.size w' W ->
   w1.ownsRow w'.heap.size 3 1 v' (k+1+1) (W6 aL inn last len first (k+1+1))->(W.alloc tmp).grownBy w1 v.ownBlock ->
   KeepsFrom (w'.heap.size+3) W (w1.setCell ⟨w'.heap.size+1,0,none⟩ v')/\(∃ v,Boxed (w1.setCell ⟨w'.heap.size+1,0,none⟩ v') (w'.heap.size+1) 27 v/\(w1.setCell ⟨w'.heap.size+1,0,none⟩ v').ownsRow w'.heap.size 3 1 v (k+1+1) (W6 aL inn last len first (k+1+1))/\True)/\Boxed (w1.setCell ⟨w'.heap.size+1,0,none⟩ v') (w'.heap.size+2) 22 (.slice (some ⟨S,os,none⟩) len cs)/\Below w'.heap.size w' (w1.setCell ⟨w'.heap.size+1,0,none⟩ v')/\Boxed w1 (w'.heap.size+1) 27 v:=by
  intro k W w1 v v' tmp hv hrow hC hB hown' hgrow
  obtain⟨hv1,hv2,hr2,hk2,hb2⟩:=hv.appended (by decide) hrow hB.size (by omega) hown' hgrow
  refine⟨hk2.from _,⟨_,hv2,hr2,trivial⟩,?_,hB.trans hb2,hv1⟩
  exact ((hC.alloc tmp).kept hgrow (hC.not_row (by decide) hrow)).kept (grownBy_setCell' w1 (w'.heap.size+1) v') (by simp)
 refine E32 (N:=len) (enc:=fun k => #[.int .i64 ((len-1-k:Nat):Int),.int .u32 (U5 aL inn last (len-1-k):Int)]) rfl (by omega) (gf:=93) (lb := #[.pointer (some ⟨w'.heap.size+2,0,none⟩)]) rfl trivial (enters_of Tryz.func93 (by kernel_rfl) rfl) (fun _=>rfl)
  (fun k W=>(∃ v,Boxed W (w'.heap.size+1) 27 v/\W.ownsRow w'.heap.size 3 1 v (k+1) (W6 aL inn last len first (k+1))/\True)/\Boxed W (w'.heap.size+2) 22 (.slice (some ⟨S,os,none⟩) len cs)/\Below w'.heap.size w' W)
  (OwnFrom.and (Own.from (holdsRow_own w'.heap.size (w'.heap.size+1) 27 3 1 (fun k=>k+1) (fun k=>W6 aL inn last len first (k+1)) (fun _ _=>True)) _) (OwnFrom.and ?ownC (ownFrom_below (Nat.le_refl _) (by rw[hsz];omega))))
  ?gen ⟨⟨_,bO,row0,trivial⟩,bC,be0⟩ (fun k=>{ tmps := #[x0,x1,.int .i64 (first:Int),x3,x4,.pointer (some ⟨B0,o0,none⟩),x6,x7,x8,x9,x10,.slice (some ⟨S,os,none⟩) len cs,.pointer (some ⟨w'.heap.size+1,0,none⟩),x13,.int .u32 (U5 aL inn last (len-1-k):Int),x15,x16,x17,x18,x19,x20,x21,x22,x23,x24,x25,x26,x27,x28,x29,x30,x31,x32,x33,x34,x35,.int .i64 (first:Int),.slice (some ⟨w'.heap.size,0,none⟩) 1 1,.slice (some ⟨S,os,none⟩) len cs,.func (.func 93) #[] #[.pointer (some ⟨w'.heap.size+2,0,none⟩)],.int .i64 ((len-1-k:Nat):Int),.int .u32 (U5 aL inn last (len-1-k):Int),x42,x43,x44,x45,x46,x47,x48,x49,x50,x51,x52,x53,x54,x55,x56,x57],defers:=[] }) ?assign ?body ?done
 case ownC=>
  intro s W W' row h hgr hr
  refine Boxed.kept h hgr fun e => ?_
  obtain⟨_,o,ho,hc⟩:=hr _ e.symm
  rw[show W.heap[_]? = _ from h] at ho
  cases ho
  cases hc
 case gen=>
  intro l J W hJ hY h0
  exact V49 Fence.wide 4 trivial rfl (by omega) l (w'.heap.size+2) 0 S os cs len (U5 aL inn last) hlen J (fun k W hj=>by
   obtain⟨_,hC,hB'⟩:=hJ k W hj
   exact⟨hC.cell,fun i hi=>(hB'.cell (p:=⟨S,os+i,none⟩) hS).trans (cS i hi)⟩) hY W h0
 case assign=>
  intro l k W K hK
  gi_wp2
  exact hK
 case body=>
  rintro l k W hk ⟨⟨v,hv,hrow,_⟩,hC,hB'⟩
  have gW:GlW W:=hgl.step fun x hx=>hB'.block _ (hgl x hx).1
  obtain⟨hck,hcne⟩:=hcur k hk
  obtain⟨x,gx,gx2,gxD⟩:=hL.at (u:=Q7 aL inn last len first k) (by omega)
  have nx:W.cell? ⟨B0,o0+Q7 aL inn last len first k,none⟩=some (.int .u32 (x:Int)):=(hB'.cell (p:=⟨B0,o0+Q7 aL inn last len first k,none⟩) hB).trans (cA _ _ gx)
  obtain⟨g,cap,rfl⟩:=ownsRow_succ hrow
  have hc:=hv.cell
  have hsW:=hB'.size
  have pk:W.cell? ⟨g,k,none⟩=some (.int .i64 (Q7 aL inn last len first k:Int)):=by
   have:=hrow.cellAt k (by simp[])
   simpa [W6] using this
  have hsl:=R42 (aL:=aL) hi hla (len-1-k)
  have hnext:Q7 aL inn last len first (k+1)=tz (U5 aL inn last (len-1-k) &&& x):=by rw[Q7,gxD]
  rw[gxD] at hcne
  have hband:=C62 (a:=U5 aL inn last (len-1-k)) (b:=x) (by omega) (by omega)
  generalize hs:U5 aL inn last (len-1-k)=s at *
  generalize hcu:Q7 aL inn last len first k=c at *
  have hx64:s &&& x<64:=by have:=W37 (b:=x) hsl;omega
  have htz:deB[tzi (s &&& x)]? = some (tz (s &&& x)):=G58 _ hx64 (by omega)
  have htz32:tz (s &&& x)<32:=by have:=(N43 (s &&& x) hx64 (by omega)).2;omega
  have ek:IntKind.i64.wrap (((k+1:Nat):Int)-1)=(k:Int):=by rw[Y23 (by omega) (by omega)];omega
  have ek2:((k+1:Nat):Int)-1=(k:Int):=by omega
  have c32:c<32:=by omega
  gi_wp2
  have hpn:W6 aL inn last len first (k+1+1)=W6 aL inn last len first (k+1)++[.int .i64 (tz (s &&& x):Int)]:=by
   unfold W6
   rw[J54,hnext]
  generalize tz (s &&& x)=tx at *
  refine⟨trivial,(CallsIn.inRound l (E70 (by omega) hx64 Fence.wide _ trivial rfl W tx (N65 gW htz) htz32)).mono ?_⟩
  rintro e W2 ⟨rfl,e2⟩
  rw[e2]
  gi_wp2_with (gi_at_builtin;refine wpListIn_append_own _ rfl _ _ 27 rfl w'.heap.size 3 i0 (.int .i64 0) 1 8 Tryz.underlying27 hi0 hz0 hz1 hz2 rfl (by decide) _ _ _ rfl (hrow.alloc _) ⟨W.heap.size,0,none⟩ 1 1 [.int .i64 (tx:Int)] rfl rfl (cell_one_new _ _ _) (by simp[Value.oneCell']) (by omega) (by omega) (by simp;omega) ?_;intro v' w1 hown0 hgrow _;have hown':w1.ownsRow w'.heap.size 3 1 v' (k+1+1) (W6 aL inn last len first (k+1+1)):=(by rw[hpn];exact hown0);obtain⟨g',cap',rfl⟩:=ownsRow_succ hown';obtain⟨q1,q2,q3,q4,q5⟩:=step k W w1 _ _ _ hv hrow hC hB' hown' hgrow;have hc1:=q5.cell;have hf1:=q5.frozen)
  obtain⟨v2,z1,z2,_⟩:=q2
  rw[hpn] at z2
  exact⟨v2,z1,z2⟩
 case done=>
  rintro D W hD ⟨⟨v,hv,hrow,_⟩,hC,hB'⟩ hK
  have hc:=hv.cell
  gi_wp2
  refine⟨by simp,.inl ⟨_,_,rfl,run_takeDeferred hK,?_⟩⟩
  have hr:=ownsRow_putObj hrow (.deferred none) hK rfl
  refine⟨_,results_tmp rfl _ _ _,v,rfl,⟨hr.1,hr.2.imp id fun⟨g,cap,cur,e,hb,rest⟩=>⟨g,cap,cur,e,Nat.le_trans hbe.size hb,rest⟩⟩,hbe.trans ((hB'.trans (belowK_b (w:=w') (Nat.le_refl _) W D _ _ (by rw[hsz] at hD;omega) hK rfl rfl)).mono hbe.size)⟩
theorem N40:∀ l:List Int,(U4 l).all M4=true
 | []=>rfl
 | x :: l=>N40 l
theorem C29:Go.Clo.Enters gQ 37:=⟨_,_,Tryz.func37,rfl,by kernel_rfl⟩
theorem U40{F:FM}{aL:List Nat}{inn first last len:Nat}{E:List Value}(h:VL F (Z8 aL inn first last len) E):E=Z8 aL inn first last len:=by
 cases h with
 | cons h0 h=>
 cases h with
 | cons h1 h=>
 cases h with
 | cons h2 h=>
 cases h with
 | cons h3 h=>
 cases h with
 | cons h4 h=>
 cases h
 cases h1;cases h2;cases h3;cases h4
 obtain⟨x',rfl,hx⟩:=h0.agg_inv;have:=J19 hx (J25 aL);obtain⟨l⟩:=x';simp only at this;subst this
 rfl
theorem C38(aL:List Nat)(inn last len first k:Nat):W6 aL inn last len first k=U4 (((aY k).map (Q7 aL inn last len first)).map fun(x:Nat)=>(x:Int)):=by
 unfold W6 U4;rw[List.map_map,List.map_map];rfl
theorem E64{aL:List Nat}{N:Nat}(hN:N<=6)(hL:NbL aL N)(J:∀ u w,(aL.getD u 0).testBit w=true->(aL.getD w 0).testBit u=true){inn last first len:Nat}(hi:inn<2^N)(Z:last<2^N)(hf:first<N)(h1:1<=len)(U:len<=100)(E:U5 aL inn last (len-1) &&& aL.getD first 0≠0)(H:Y0)(nx:Nat):
  Q2 gQ 37 (Z8 aL inn first last len) H nx fun r H' nx'=>LsR ((aY (len+1)).map (Q7 aL inn last len first)) r H' nx'/\D0 H nx H' nx':=by
 have Q:(W6 aL inn last len first (len+1)).length=len+1:=by simp[W6]
 have hE:D0 H nx (Go.Clo.hs H nx (some (.cells (W6 aL inn last len first (len+1)) 1))) (nx+1):=(D0.refl H nx).nw _;refine⟨.slice (some ⟨nx,0,none⟩) (len+1) (len+1),Go.Clo.hs H nx (some (.cells (W6 aL inn last len first (len+1)) 1)),nx+1,⟨C29,fun F W w hh hl => ?_⟩,⟨⟨some ⟨nx,0,none⟩,O2,⟨fun h=>(by cases h),fun h=>(by have:=congrArg List.length h;simp at this)⟩,?_⟩,hE⟩⟩
 .have ea:=U40 hl
  subst ea;refine(E33 hN hL J hi Z hf h1 U E w hh.gl.1).mono fun e w' ⟨v,he,V,hb⟩ => ?_
  rcases V.2 with ⟨_,h0⟩ | ⟨g,cp,a1,rfl,hg,hc,h1,a0,h3,h4⟩
  .omega
  .obtain⟨F',O,E⟩:=N2.row (xs:=W6 aL inn last len first (len+1)) hh hb hg hc (by rw[Q];exact h1) (by simpa using h3) (by simpa [W6] using h4) (bK a0 (by decide)) (by rw[C38];exact N40 _)
   rw[Q] at O;exact⟨_,F',he,O,E⟩
 .intro i u hu
  refine⟨nx,0,W6 aL inn last len first (len+1),rfl,O0,by rw[Q5,Z11];rfl,?_⟩;rw[cF,C38];exact hu
end
section
open Go.RowKit Go.Shelf Go.Clo
def nbL:List Nat:=[4,4,3,0,0,0,0,0,0,0,0,0,0,0,0,0,0,0,0,0,0,0,0,0,0,0,0,0,0,0,0,0]
def V23(k:IntKind)(n:Nat):Value->Bool
 | .int k' (.ofNat m)=>eqK k k'&&bR m n
 | _=>false
theorem D62{a b:IntKind}(h:eqK a b=true):a=b:=by cases a<;>cases b<;>first | rfl | cases h
theorem C19{k:IntKind}{n:Nat}:∀ {v:Value},V23 k n v=true->v = .int k (n:Int)
 | .int k' (.ofNat m),h=>by
  simp only[V23,aG] at h;rw[<- D62 h.1,dI h.2];rfl
def R35(k:IntKind):List Nat->List Value->Bool
 | [],[]=>true
 | n :: ns,v :: vs=>V23 k n v&&R35 k ns vs
 | _,_=>false
theorem B40{k:IntKind}:∀ {ns:List Nat} {vs:List Value},R35 k ns vs=true->vs=ns.map fun(n:Nat)=>cD k (n:Int)
 | [],[],_=>rfl
 | n :: ns,v :: vs,h=>by
  simp only[R35,aG] at h;rw[List.map_cons,C19 h.1,<- B40 h.2]
def K33:List Value->Bool
 | [.agg ⟨l⟩,a,b,c,d]=>R35 .u32 nbL l&&(V23 .u32 4 a&&(V23 .i64 0 b&&(V23 .u32 2 c&&V23 .i64 2 d)))
 | _=>false
theorem Q56:∀ {args:List Value},K33 args=true->args=Z8 nbL 4 0 2 2
 | [.agg ⟨l⟩,a,b,c,d],h=>by
  simp only[K33,aG] at h;obtain⟨h1,h2,h3,h4,h5⟩:=h;rw[B40 h1,C19 h2,C19 h3,C19 h4,C19 h5];rfl
def C35:List Value:=[.int .i64 0,.int .i64 2,.int .i64 1]
def U65(args:List Value)(H:Y0)(nx:Nat):Option (Value × Y0 × Nat):=
 cond (K33 args) (some (.slice (some ⟨nx,0,none⟩) 3 3,hs H nx (some (.cells C35 1)),nx+1)) none
def K64:Orc:=fun f=>cond (bR f 37) (some U65) none
theorem Y65:NbL nbL 3:=⟨rfl,by
 intro u x h;have hx:x ∈ nbL:=aH h;have:∀ y ∈ nbL,y<2^3:=by decide
 exact this x hx⟩
theorem M69:∀ u w,(nbL.getD u 0).testBit w=true->(nbL.getD w 0).testBit u=true:=by
 intro u w h;have hu:u<32:=by
  refine aI fun hn => ?_
  rw[aP,aT (by show 32<=u;omega)] at h;simp at h
 have hw:w<3:=by
  obtain⟨x,gx,E,J⟩:=Y65.at hu;rw[J] at h;exact R7 E h
 have key:∀ u,u<32->∀ w,w<3->(nbL.getD u 0).testBit w=true->(nbL.getD w 0).testBit u=true:=by decide
 exact key u hu w hw h
theorem U66:W6 nbL 4 2 2 0 3=C35:=by
 have h1:Q7 nbL 4 2 2 0 1=2:=by decide
 have h2:Q7 nbL 4 2 2 0 2=1:=by decide
 show [cD .i64 ((0:Nat):Int),O8 (Q7 nbL 4 2 2 0 1:Int),O8 (Q7 nbL 4 2 2 0 2:Int)]=C35;rw[h1,h2];rfl
theorem D67:B42 gQ K64:=by
 intro f o hf args H nx v H' nx' ho;unfold K64 at hf
 cases hb:bR f 37 with
 | false=>rw[hb] at hf;cases hf
 | true=>
  rw[hb] at hf
  cases hf
  have J:=dI hb;subst J;unfold U65 at ho
  cases hw:K33 args with
  | false=>rw[hw] at ho;cases ho
  | true=>
   rw[hw] at ho
   cases ho
   have ea:=Q56 hw;subst ea;refine⟨C29,fun F O w hh hl => ?_⟩;have ea:=U40 hl;subst ea;refine(E33 (N:=3) O0 Y65 M69 (inn:=4) (last:=2) (first:=0) (len:=2) (by decide) (by decide) (by decide) (by decide) (by decide) (by decide) w hh.gl.1).mono fun e w' ⟨v,he,E,hb⟩ => ?_
   rw[show 2+1=3 from rfl,U66] at E;rcases E.2 with ⟨_,h0⟩ | ⟨g,cp,W,rfl,hg,hc,h1,U,h3,h4⟩
   .omega
   .obtain⟨F',Q,V⟩:=N2.row (xs:=C35) hh hb hg hc h1 (by simpa using h3) (by simpa [C35] using h4) (bK U (by decide)) rfl
    exact⟨_,F',he,Q,V⟩
theorem R59:U46 gQ K64 100 8 []=some (.bool true):=by kernel_rfl
theorem X60(H:Y0)(nx:Nat):Q2 gQ 8 [] H nx fun v H' nx' => .bool true=v/\H=H'/\nx=nx':=B55 mixed J2 D67 R59 rfl rfl H nx
end
section
open Go.ChangeShapes Go.WideShapes Go.ChangeAt Go.RowKit Go.Joins Go.Deep Go.Clo
variable {A:Option Addr} {P:Program} {W:World} {cap len:Nat} {e t:TypeId} {r:Reach}
theorem own:ownKnob gQ.godebug=none:=by kernel_rfl
theorem V68:laidOutB gQ=true:=by kernel_rfl
def X16:List (String × DataW Unit):=Rows.dichotomyDecidesRow.laid
theorem G70:gQ.globalNamed (X16.map (·.1)).head! = some 0:=by kernel_rfl
theorem C44(h:laidMetH gQ X16 W)(r n:Nat)(hr:deB[r]? = some n):W.cell? ⟨0,r,none⟩=some (.int .u8 (n:Int)):=by
 have J:r<32:=(aJ.1 hr).1;rw[MakeChecks.laidMetH_plain _ _ _ (by kernel_rfl)] at h;obtain⟨ps,⟨g,t,cs,O,p,q,hg,ht,hv,hd,_,_⟩,_,_⟩:=h;obtain rfl:=fA (G70.symm.trans hg);obtain rfl:=fA ((show(gQ.globals[0]?).map (·.type)=some 136 by kernel_rfl).symm.trans ht);obtain⟨xs,m,_,ex,_,hl,E⟩:=DataW.trod_array Tryz.underlying136 hd;have c5:gQ.cellsOf 5=1:=by kernel_rfl
 have hE:=E r J;rw[c5,eQ,aE O0] at hE;obtain⟨z,e1,e2,_⟩:=DataW.trod_int Tryz.underlying5 hE;have e3:(xs.map (·.1))=deB.map fun(n:Nat) => .lit (.int .u8 (n:Int)):=(DataW.agg.inj (Prod.mk.inj ex).1).symm
 have e4:(xs.map (·.1))[r]? = (deB.map fun(n:Nat)=>(DataW.lit (.int .u8 (n:Int)):DataW Unit))[r]? := by rw[e3]
 rw[cP,cP,aE (by omega:r<xs.length),hr,e2] at e4;have hz:z=(n:Int):=by
  simpa only[Option.map_some,aZ,DataW.lit.injEq,Lit.int.injEq,true_and] using e4
 rw[World.var?_cell hg hv r,<- hz];have:cs.toList[r]? = some (.int .u8 z):=by
  have h0:((cs.toList.drop r).take 1)[0]? = some (.int .u8 z):=by rw[e1];rfl
  simpa using h0
 simpa using this
theorem B48(h:laidMetH gQ X16 W):GlW W:=fun x hx=>by
 rw[dJ.1 hx];have h0:=C44 h 0 0 rfl
 constructor
 .unfold World.cell? at h0
  rcases aW 0 W.heap.size with g | g
  .exact g
  .rw[fK g] at h0;cases h0
 .intro i v hv
  simp only[cP,bU] at hv;obtain⟨n,hn,rfl⟩:=hv;exact C44 h i n hn
section
variable {X:Type} {enc:TypeId × Value->X} {W:World} {b0 base:Nat} {spare:Nat->Bool} {held:Bool}
theorem N48(ht:P.underlying t=some (.slice e))(h:Cell.okWide P W r b0 t (.slice A len cap)):Cell.ok P W r b0 t (.slice A len cap):=by
 simp only[Cell.okWide,ht] at h;exact h
theorem D51(ht:P.underlying t=some (.slice e))(h:Value.okWide P W r b0 t (.slice A len cap)):Cell.ok P W r b0 t (.slice A len cap):=by
 simp only[Value.okWide,ht] at h;exact N48 ht h
theorem Y49{α:Type}(f:α->Value)(xs:List α):(xs.flatMap fun a=>[f a])=xs.map f:=by
 induction xs with
 | nil=>rfl
 | cons a xs ih=>simp[ih]
theorem B64{F:FM}{H:Y0}{nx:Nat}(hi:In W F H nx){n:Nat}{y:DataW X × List MemPlace}(E:Cell.ok gQ W .any b0 27 (.slice A len cap))(h:DataW.trod enc gQ W base spare held n 27 [.slice A len cap]=some y):
  ∃(F':FM) (H':Y0) (nx':Nat) (A':Option Addr) (l:List Int),In W F' H' nx'/\F.le F'/\VR F' (.slice A' l.length cap) (.slice A len cap)/\l.length=len/\Sl H' nx' A' (U4 l)/\D0 H nx H' nx'/\Has H' nx' A':=by
 obtain⟨F',H',nx',A',xs,h1,h2,h3,rfl,h5,h6,h7,_,h9⟩:=hi.sliceH (f:=fun a:Int=>[cD .i64 a]) (Pr:=fun _=>True) (sz:=1) Tryz.underlying27 (by kernel_rfl) (fun _=>rfl) E h (fun n cs y h=>by
  obtain⟨s,rfl,_,_⟩:=DataW.trod_int Tryz.underlying3 h;exact⟨s,rfl,trivial⟩) (fun _=>rfl)
 rw[Y49] at h6;exact⟨F',H',nx',A',xs,h1,h2,h3,rfl,h6,h7,h9⟩
end
theorem D64{X:Type}{enc:TypeId × Value->X}{fn:Func}{s:ChangeSpec}{W':World}{args:Array Value}{ds gs:List (DataW X)}{E p:List MemPlace}(hW:DataW.Whole enc gQ fn.params.toList s.vars false W args.toList ds gs E)(hv:s.vars=[])(Q:(s.fn X (ds++gs)).results=[.lit (.bool true)])(J:(s.fn X (ds++gs)).vars=[])(O:(s.fn X (ds++gs)).args=ds)(U:fn.resultTypes = #[4])(V:∀ t ∈ fn.params.toList,gQ.readableRec t=true/\t<gQ.types.size)(hb:Below W.heap.size W W')(hA:DataW.TrodAll enc gQ W 0 (fun _=>true) true fn.params.toList args.toList ds p)(hp:∀ x ∈ p,x ∈ E):
  s.post enc gQ fn false true false false W args (.bool true) W':=by
 refine J41 (pa:=p) (pv:=[]) hW hb (fun _ _ _ => ?_) ?_ ?_
 .rw[Q,U]
  exact trodAll_cons_mk (shut_bool Tryz.underlying4 _) trodAll_mk0
 .rw[O]
  exact N24 V68 hb _ _ _ _ V hA fun x hx=>hW.lt x (hp x hx)
 .rw[hv,J];rfl
theorem Q69(os:Os):(World.laidAll gQ os X16).Shaped gQ:=World.shaped_of_ZipB (by kernel_rfl) (by kernel_rfl)
theorem met(os:Os)(args:Array Value):laidMetH gQ X16 ((World.laidAll gQ os X16).forCall (fun _ _=>0) ⟨#[],args,[]⟩).memory:=by
 rw[MakeChecks.laidMetH_plain _ _ _ (by kernel_rfl)];exact laidMet_laidAll _ (by kernel_rfl) (by kernel_rfl)
end
section
open Go.ChangeShapes Go.WideShapes Go.ChangeAt Go.RowKit Go.Joins Go.Deep Go.Clo
variable {n:Nat}
section
variable {X:Type} {enc:TypeId × Value->X} {W:World} {b0 base:Nat} {spare:Nat->Bool} {held:Bool}
theorem V67:gQ.cellTypes gQ.depth 24=some [3,22]:=by kernel_rfl
theorem V55{v:Value}{d:DataW X}{p:List MemPlace}(hv:Value.okWide gQ W .any b0 24 v)(h:DataW.Trod enc gQ W base spare held 24 v d p):
  ∃(N:Int) (A:Option Addr) (len cap n:Nat) (y:DataW X × List MemPlace),v = .agg #[O8 N,.slice A len cap]/\(Lit.int .i64 N).wf=true/\Cell.ok gQ W .any b0 22 (.slice A len cap) /\
   DataW.trod enc gQ W base spare held n 22 [.slice A len cap]=some y:=by
 have O:=hv;obtain⟨v0,v1,y0,y1,n,rfl,rfl,rfl,h0,h1⟩:=open_agg2 Tryz.underlying24 (by kernel_rfl) (by kernel_rfl) hv h;obtain⟨N,e0,_,hN⟩:=DataW.trod_int Tryz.underlying3 h0;simp only[fM,and_true] at e0;subst e0;simp only[Value.okWide,Tryz.underlying24] at O;obtain⟨cs,e,_,ts,E,_,J⟩:=O
 cases e
 rw[V67] at E
 cases E
 obtain⟨u,hu,hc⟩:=J 1 v1 rfl
 cases hu
 obtain⟨A,len,cap,rfl⟩:∃ A len cap,v1 = .slice A len cap:=by
  simp only[Cell.okWide,Tryz.underlying22] at hc
  cases v1<;>simp_all [Cell.ok]
 exact⟨N,A,len,cap,n,y1,rfl,hN,N48 Tryz.underlying22 hc,h1⟩
theorem E62{cs:List Value}{y:DataW X × List MemPlace}(h:DataW.trod enc gQ W base spare held n 56 cs=some y):∃ a:Nat,[cD .u32 (a:Int)]=cs/\a<4294967296:=by
 obtain⟨z,rfl,_,hz⟩:=DataW.trod_int Tryz.underlying56 h;simp only[Lit.wf,aG,decide_eq_true_eq,show eW.min=0 from rfl,show eW.max=4294967295 from rfl] at hz;exact⟨z.toNat,by rw[Int.toNat_of_nonneg O0],O0⟩
theorem E52{F:FM}{H:Y0}{nx:Nat}(hi:In W F H nx){A:Option Addr}{len cap:Nat}{y:DataW X × List MemPlace}(E:Cell.ok gQ W .any b0 22 (.slice A len cap))(h:DataW.trod enc gQ W base spare held n 22 [.slice A len cap]=some y):
  ∃(F':FM) (H':Y0) (nx':Nat) (A':Option Addr) (es:List Nat),In W F' H' nx'/\F.le F'/\VR F' (.slice A' es.length cap) (.slice A len cap)/\U14 es/\Sl H' nx' A' (K12 es)/\D0 H nx H' nx'/\Has H' nx' A':=by
 obtain⟨F',H',nx',A',xs,h1,h2,h3,rfl,h5,h6,h7,_,h9⟩:=hi.sliceH (f:=fun a:Nat=>[cD .u32 (a:Int)]) (Pr:=fun a=>a<4294967296) (sz:=1) Tryz.underlying22 (by kernel_rfl) (fun _=>rfl) E h (fun n cs y h=>E62 h) (fun _=>rfl);rw[Y49] at h6;exact⟨F',H',nx',A',xs,h1,h2,h3,h5,h6,h7,h9⟩
end
end
end Go.Proofs.YtoiioigihocgbaaGreatDoor
namespace Go.Clo
def mpF(e:Nat->Nat)(n:Nat):Option Value:=if e n=0 then none else some (.int .u32 (e n:Int))
theorem Q61(i:Nat)(s:Nat × (Nat->Nat)):shN i none s=s:=rfl
end Go.Clo
namespace Go.Proofs.YtoiioigihocgbaaGreatDoor
open Go.Clo
theorem C68{n:Nat}(hn:n<=32)(H:Y0)(nx:Nat):Q2 gQ 35 [O8 (n:Int)] H nx (Z56 (O9 ((2^n-1:Nat):Int)) H nx):=by
 refine spec35 ?_;unfold F35;simp only[W1,M26 hn,Y5];exact⟨rfl,rfl,rfl⟩
section
variable {aL:List Nat} {N:Nat} (hN:N<=6) (hL:NbL aL N)
include hN hL
theorem K45{inn f:Nat}(hi:inn<2^N)(hf:f<=N)(H:Y0)(nx:Nat):
  Q2 gQ 36 [.agg ⟨K12 aL⟩,O9 (inn:Int),O8 (f:Int)] H nx fun r H' nx'=>(∃ q,r = .tuple ⟨[O8 ((J4 aL N inn f f).1:Int),.map (some q)]⟩/\D4 H' q (mpF (J4 aL N inn f f).2)/\q<nx')/\D0 H nx H' nx':=by
 have b3:2^N<=64:=aK (n:=2) O0 hN;have ak:0<2^N:=aQ N;have bc:2^f<=2^N:=aK (n:=2) O0 hf;have bo:0<2^f:=aQ f;have ap:=M44 hN hL;have b8:inn<4294967296:=O0;refine spec36 ?_;unfold F36;have g1:J0 (hs (hs H nx (O7 (K12 aL))) (nx+1) (some (.map [] 0))) nx=O7 (K12 aL):=by rw[gN _,Z11]
 have m1:D4 (hs (hs H nx (O7 (K12 aL))) (nx+1) (some (.map [] 0))) (nx+1) (fun _=>none):=D4.nil (Z11 _ _ _);have ae:D0 H nx (hs (hs H nx (O7 (K12 aL))) (nx+1) (some (.map [] 0))) (nx+1+1):=((D0.refl H nx).nw _ (m:=nx+1)).nw _;simp only[W0,Q0.val,W5 aL,E66];generalize hs (hs H nx (O7 (K12 aL))) (nx+1) (some (.map [] 0))=H1 at *
 refine B1 (m:=f) (fun m L' H' nx'=>∃ i:Nat,m+i=f/\L'=[O8 ((J4 aL N inn f i).1:Int),O8 (i:Int)]/\D4 H' (nx+1) (mpF (J4 aL N inn f i).2)/\KB (nx+1) H1 (nx+1+1) H' nx') ?_
  ⟨0,O0,rfl,m1,⟨aD _,fun _ _ _=>rfl⟩⟩
 rintro m ih L1 H2 n2 ⟨i,hm,rfl,hM,hK⟩ al
 by_cases bk:i<f
 case neg=>
  obtain rfl:i=f:=O0;have a5:¬ (i:Int)<(i:Int):=O0;simp only[W0,a5];have:=hK.le;exact⟨⟨nx+1,rfl,hM,O0⟩,⟨by have:=ae.le;omega,fun j hj=>by rw[hK.get j O0 O0];exact ae.get j hj⟩⟩
 have a5:(i:Int)<(f:Int):=O0;have g2:=(hK.get nx O0 O0).trans g1;have bf:=hK.le;obtain⟨x,gx,aw,ad⟩:=hL.at (u:=i) O0;have gx:=Q3 gx;have bh:i<32:=O0;have bg:x<4294967296:=O0;have az:2^f-1<4294967296:=O0;have n1:Z2 (2^f-1) x<4294967296:=U10 az;have pi:2^i<4294967296:=by have:=R27 (show i<N by omega);omega
 have a4:N14 aL f i=Z2 (Z2 (2^f-1) x) (2^i):=by unfold N14;rw[ad]
 have an:N14 aL f i<2^N:=by rw[a4];exact Z6 (Z6 O0)
 have next:J4 aL N inn f (i+1)=shN i (shG aL inn (N14 aL f i) (J4 aL N inn f i).1 N 0 (x &&& inn) 2) (J4 aL N inn f i):=by rw[J4,ad]
 generalize J4 aL N inn f i=s at *
 obtain⟨len,ends⟩:=s;dsimp only at next hM ⊢;simp(config:={ maxSteps:=2000000 }) (disch:=omega)only[W0,a5];refine N5 (fun L' H' nx'=>L'=[O8 ((J4 aL N inn f (i+1)).1:Int)]/\D4 H' (nx+1) (mpF (J4 aL N inn f (i+1)).2)/\KB (nx+1) H1 (nx+1+1) H' nx') ?_ ?_
 case refine_2=>
  rintro L H3 n3 ⟨rfl,Z,U⟩;exact al (m-1) _ _ _ O0 ⟨i+1,O0,O2,Z,U⟩
 intro jj a2;refine R0 (C68 (n:=f) O0 _ _) ?_;rintro _ _ _ ⟨rfl,rfl,rfl⟩;simp(config:={ maxSteps:=2000000 }) (disch:=omega)only[W0,g2,gx];rw[<- a4];generalize N14 aL f i=far at *
 generalize hR:shG aL inn far len N 0 (x &&& inn) 2=R at *
 have ax:KB (nx+1) H1 (nx+1+1) H2 (n2+10):=⟨O0,hK.get⟩
 refine B1 (m:=N) (fun k L' H' nx'=>∃(c b st:Nat),L'=[O8 (len:Int),O9 (c:Int),O9 (b:Int),O8 (st:Int)]/\c<2^N/\b<2^N/\N<=k+(V5 N c).length/\(∀ w,b.testBit w=true->c.testBit w=false)/\shG aL inn far len k c b st=R/\k+st=N+2/\D4 H' (nx+1) (mpF ends)/\KB (nx+1) H1 (nx+1+1) H' nx') ?_
  ⟨0,x &&& inn,2,rfl,ak,W37 aw,O0,O2,hR,rfl,hM,ax⟩
 rintro k bx L1 H3 n3 ⟨c,b,st,rfl,hc,hb,bu,hd,hG,b5,Z,U⟩ ag;have bw:c<4294967296:=O0;have ac:b<4294967296:=O0;have b4:=U.le;have g3:=(U.get nx O0 O0).trans g1;have z1:decide ((len:Int)=0)=decide (len=0):=by congr 1;apply propext;omega
 have z2:decide ((st:Int)<=(len:Int))=decide (st<=len):=by congr 1;apply propext;omega
 have z3:decide ((st:Int)<(len:Int))=decide (st<len):=by congr 1;apply propext;omega
 have z4:decide ((b:Int)≠0)=decide (b≠0):=by congr 1;apply propext;omega
 refine N5 (fun L' H' nx'=>L'=[.bool (decide (b≠0/\(len=0\/st<=len)))]/\H3=H'/\n3=nx') ?_ ?_
 .intro j2 a8
  by_cases q0:b≠0
  .by_cases q1:len=0
   .simp only[W0,z4,decide_eq_true q0,z1,decide_eq_true q1]
    exact a8 _ _ _ ⟨by simp[q0,q1],rfl,rfl⟩
   .simp only[W0,z4,decide_eq_true q0,z1,decide_eq_false q1,z2]
    exact a8 _ _ _ ⟨by simp[q0,q1],rfl,rfl⟩
  .simp only[W0,z4,decide_eq_false q0]
   exact a8 _ _ _ ⟨by simp[q0],rfl,rfl⟩
 rintro L1 _ _ ⟨rfl,rfl,rfl⟩
 by_cases a6:b≠0/\(len=0\/st<=len)
 case neg=>
  simp only[W0,decide_eq_false a6];have ai:R=none:=by
   cases k with
   | zero=>exact hG.symm
   | succ k=>
    rw[shG,if_pos (by
     by_cases q0:b=0
     .exact .inl q0
     .right
      refine aI fun hh=>a6 ⟨q0,?_⟩
      by_cases q1:len=0
      .exact .inl q1
      .exact .inr O0)] at hG
    exact hG.symm
  rw[ai,Q61] at next;rw[next] at a2;exact a2 _ _ _ ⟨rfl,Z,U⟩
 obtain⟨a0,aa⟩:=a6;obtain⟨k',rfl⟩:∃ k',k=k'+1:=by
  cases k with
  | zero=>exact absurd (X20 hb hd (by have:=Q15 N c;omega)) a0
  | succ k=>exact⟨k,rfl⟩
 rw[shG,if_neg (by
  rintro (h | h)
  .exact a0 h
  .omega)] at hG
 have ao:=Z14 (b:=b) hL.lt 32;have V:Q4 aL b 32<4294967296:=O0;have ay:c ||| b<2^N:=Z26 hc hb;have au:c ||| b<4294967296:=O0;have hg:=R25 hb a0 hd;have av:far<4294967296:=O0;simp(disch:=omega)only[W0,decide_eq_true (⟨a0,aa⟩:b≠0/\(len=0\/st<=len)),g3,M18 ap];refine R0 (Z35 hN hL ac H3 n3) ?_;rintro _ H4 n4 ⟨rfl,a7⟩;have a9:=Z.ext (nx:=n3) O0 a7;have ba:=a7.le;have Q:KB (nx+1) H1 (nx+1+1) H4 n4:=⟨O0,fun j hj J=>by rw[a7.gt j];exact U.get j hj J⟩
 have bt:Q4 aL b 32 &&& far<4294967296:=D52 V;have bd:Q4 aL b 32 &&& inn<4294967296:=D52 V;have z5:decide (((Q4 aL b 32 &&& far:Nat):Int)≠0)=decide (Q4 aL b 32 &&& far≠0):=by congr 1;apply propext;omega
 by_cases E:Q4 aL b 32 &&& far≠0
 case neg=>
  rw[if_neg E] at hG;simp(disch:=omega)only[W0,z5,decide_eq_false E];have aj:Z2 (Q4 aL b 32 &&& inn) (c ||| b)<2^N:=Z6 (W37 ao);refine ag k' _ _ _ O0 ⟨c ||| b,_,st+1,O2,ay,aj,O0,fun w hw => ?_,hG,O0,a9,Q⟩;rw[N1,aG] at hw;simpa using hw.2
 rw[if_pos E] at hG;rw[<- hG] at next;simp(disch:=omega)only[W0,z5,decide_eq_true E];generalize Q4 aL b 32 &&& far=last at *
 have next:J4 aL N inn f (i+1)=(st,fun y=>if y=i then last else if len=0\/st<len then 0 else ends y):=next;rw[next] at a2;have ew:∀ {H5:Y0} {n5:Nat} {M:Nat->Option Value},D4 H5 (nx+1) M->KB (nx+1) H1 (nx+1+1) H5 n5->(∀ y,mpF (fun y=>if y=i then last else if len=0\/st<len then 0 else ends y) y=if y=i then some (O9 (last:Int)) else M y) ->
   W56 (.int .i64) (.map (some (nx+1))) (O8 (i:Int)) (O9 (last:Int)) H5 n5 fun bv aq ab=>jj [O8 (st:Int)] aq ab:=fun {H5 n5 M} O W he=>by
  refine O.put i _ fun es cl ah => ?_
  exact a2 _ _ _ ⟨rfl,ah.congr he,⟨W.le,fun j hj J=>by rw[Z1 _ J];exact W.get j hj J⟩⟩
 by_cases a3:len=0\/st<len
 .refine N5 (fun L' H' nx'=>L'=[O8 (st:Int)]/\D4 H' (nx+1) (fun _=>none)/\KB (nx+1) H1 (nx+1+1) H' nx') ?_ ?_
  .intro j3 a1
   rw[N13];have clr:∀ k:Y0->Prop,(∀ c,D4 (Go.Clo.hs H4 (nx+1) (some (.map [] c))) (nx+1) (fun _=>none)->k (Go.Clo.hs H4 (nx+1) (some (.map [] c))))->M41 (.map (some (nx+1))) H4 k:=fun k hk=>a9.clr hk
   by_cases q1:len=0
   .simp only[W0,decide_eq_true q1]
    refine clr _ fun cl O => ?_
    exact a1 _ _ _ ⟨rfl,O,⟨Q.le,fun j hj J=>by rw[Z1 _ J];exact Q.get j hj J⟩⟩
   .have q2:st<len:=O0
    simp only[W0,decide_eq_false q1,z3,decide_eq_true q2];refine clr _ fun cl O => ?_
    exact a1 _ _ _ ⟨rfl,O,⟨Q.le,fun j hj J=>by rw[Z1 _ J];exact Q.get j hj J⟩⟩
  rintro L1 H5 n5 ⟨rfl,O,W⟩;simp only[W0];refine ew O W fun y => ?_
  unfold mpF
  by_cases hy:y=i
  .simp only[hy,if_true];rw[if_neg E]
  .simp only[hy,if_false,a3,if_true]
 .refine N5 (fun L' H' nx'=>L'=[O8 (st:Int)]/\H4=H'/\n4=nx') ?_ ?_
  .intro j3 a1
   rw[N13];have q1:¬ len=0:=fun h=>a3 (.inl h)
   have q2:¬ st<len:=fun h=>a3 (.inr h)
   have q3:len=st:=O0;simp only[W0,decide_eq_false q1,z3,decide_eq_false q2];exact a1 _ _ _ ⟨by rw[q3],rfl,rfl⟩
  rintro L1 _ _ ⟨rfl,rfl,rfl⟩;simp only[W0];refine ew a9 Q fun y => ?_
  unfold mpF
  by_cases hy:y=i
  .simp only[hy,if_true];rw[if_neg E]
  .simp only[hy,if_false,a3]
end
end Go.Proofs.YtoiioigihocgbaaGreatDoor
namespace Go.Clo
theorem K60{aL:List Nat}{inn far J N:Nat}(hf:far<2^N):∀(k E b st:Nat) {r:Nat × Nat},shG aL inn far J k E b st=some r->r.2<2^N/\r.1<=st+k
 | 0,_,_,_,r,h=>by cases h
 | k+1,E,b,st,r,h=>by
  unfold shG at h
  split at h
  .cases h
  .split at h
   .cases h
    exact⟨iF Nat.and_le_right hf,by show st<=_;omega⟩
   .obtain⟨h1,h2⟩:=K60 hf k _ _ _ h
    exact⟨h1,O0⟩
end Go.Clo
namespace Go.Proofs.YtoiioigihocgbaaGreatDoor
open Go.Clo
theorem W61{H:Y0}{q:Nat}{e:Nat->Nat}(h:D4 H q (mpF e))(n:Nat)(k:VP):wLk (.int .i64) (O9 0) (.map (some q)) (O8 (n:Int)) false H k=k (O9 (e n:Int)):=by
 by_cases he:e n=0
 .rw[h.lkN' (n:=n) (by unfold mpF;rw[if_pos he]),he];rfl
 .rw[h.lkS' (n:=n) (v:=O9 (e n:Int)) (by unfold mpF;rw[if_neg he])]
theorem W68{N f:Nat}(hN:N<=6)(hf:f<=N)(A:Option Addr)(es:List Nat)(cap:Nat)(a9:∀ e ∈ es,e<2^N)(aw:es.length<=8)(H:Y0)(nx:Nat)(hS:Sl H nx A (K12 es)):
  Q2 gQ 14 [gv (N:Int) A es.length cap,O8 (f:Int)] H nx fun r H' nx'=>(∃ v,r = .tuple ⟨[v,.bool (K24 (B2 es N) N f).isSome]⟩/\LsR ((K24 (B2 es N) N f).getD []) v H' nx')/\D0 H nx H' nx':=by
 have an:2^N<=64:=aK (n:=2) O0 hN;have ax:0<2^N:=aQ N;have aq:2^f<=2^N:=aK (n:=2) O0 hf;have az:0<2^f:=aQ f;have a4:U14 es:=fun e he=>by have:=a9 e he;omega
 have ad:N3 N es=0:=V11 O0 O0 fun i e he=>a9 e (aH he)
 have ae:Q6 (N:Int) (f:Int) es=0:=by
  unfold Q6;rw[ad];simp;omega
 refine spec14 ?_;unfold F14;have a8:D0 H nx (hs H nx (O7 [O8 N,.slice A es.length cap])) (nx+1):=(D0.refl H nx).nw _;have k1:J0 (hs H nx (O7 [O8 N,.slice A es.length cap])) nx=O7 [O8 N,.slice A es.length cap]:=Z11 _ _ _;simp only[W0,Z0,Q0.val,C13];generalize hs H nx (O7 [O8 N,.slice A es.length cap])=K at *
 refine R0 (G56 N f A es cap _ _ (hS.ext a8) a4) ?_;rintro _ H2 nx2 ⟨rfl,Q⟩;have d1:decide (Q6 N f es≠0)=false:=by simp[ae]
 have g2:=(Q.gt nx).trans k1;have au:=Q.le;simp only[W0,d1,g2,C13];refine R0 (Z71 O0 A es cap _ _ (hS.ext (a8.trans Q)) a9 O0 ad) ?_;rintro _ H3 E ⟨rfl,a3⟩;have g3:=(a3.gt nx).trans g2;have ao:=a3.le;have e1:(K12 (B2 es N)).length=32:=by rw[E1];exact N9 es N
 have e2:(K12 (aF 32 0)).length=32:=by rw[E1];simp
 have e3:=G24 (c:=K12 (aF 32 0)) (vs:=K12 (B2 es N)) (by rw[e1,e2]);have e4:=W5 (B2 es N);rw[Q27];have aa:D0 H3 E (hs (hs H3 E (O7 (K12 (aF 32 0)))) E (O7 (K12 (B2 es N)))) (E+1):=((D0.refl _ _).nw _ (m:=E+1)).h0;have Z:J0 (hs (hs H3 E (O7 (K12 (aF 32 0)))) E (O7 (K12 (B2 es N)))) E=O7 (K12 (B2 es N)):=Z11 _ _ _;have ai:J0 (hs (hs H3 E (O7 (K12 (aF 32 0)))) E (O7 (K12 (B2 es N)))) nx=O7 [O8 N,.slice A es.length cap]:=(aa.gt nx).trans g3;simp only[W0,e1,e2,e3,e4,ai];generalize hs (hs H3 E (O7 (K12 (aF 32 0)))) E (O7 (K12 (B2 es N)))=H4 at *
 have V:=((a8.trans Q).trans a3).trans aa;have hL:=R60 es N;have U:=M37 (es:=es) (N:=N) O0;generalize B2 es N=aL at *
 have aj:∀ u w,(aL.getD u 0).testBit w=true->w<32:=fun u w h=>by
  cases hg:aL[u]? with
  | none=>rw[aP,hg] at h;simp at h
  | some x=>
   rw[aP,hg] at h;have:=R7 (hL.lt u x hg) h;omega
 refine R0 (C59 (n:=N) O0 _ _) ?_;rintro _ _ _ ⟨rfl,rfl,rfl⟩;refine R0 (C59 (n:=f) O0 _ _) ?_;rintro _ _ _ ⟨rfl,rfl,rfl⟩;have a1:2^N-1<4294967296:=O0;have a2:2^f-1<4294967296:=O0;have W:K10 N f<2^N:=Z6 O0;simp(disch:=omega)only[W0,Z,M18 e1];rw[show Z2 (2^N-1) (2^f-1)=K10 N f from rfl];unfold K24;generalize K10 N f=inn at *
 refine R0 (K45 hN hL W hf _ _) ?_;rintro _ H5 ab ⟨⟨q,rfl,hM,hq⟩,O⟩;have ac:=fun x=>E47 (aL:=aL) (N:=N) (inn:=inn) (f:=f) f x
 have al:=(O.gt E).trans Z;have ap:=O.le;generalize J4 aL N inn f f=s at *
 obtain⟨len,ends⟩:=s;dsimp only at ac hM ⊢;simp only[W0];refine B1 (m:=f) (fun m L' H' nx'=>∃ i:Nat,m+i=f/\L'=[O8 (i:Int)]/\(∀ u,u<i->ends u=0)/\H5=H'/\ab=nx') ?_ ⟨0,O0,rfl,fun u h=>O0,rfl,rfl⟩;rintro m ih L1 _ _ ⟨i,hm,rfl,a0,rfl,rfl⟩ ah
 by_cases ag:i<f
 case neg=>
  obtain rfl:i=f:=O0;have J:¬ (i:Int)<(i:Int):=O0;simp only[W0,J];rw[D58 (fun u hu=>by simp[a0 u hu])];exact⟨⟨_,rfl,C66 _ _⟩,V.trans O⟩
 have J:(i:Int)<(f:Int):=O0;have z1:decide ((ends i:Int)≠0)=decide (ends i≠0):=by congr 1;apply propext;omega
 by_cases he:ends i≠0
 case neg=>
  simp(disch:=omega)only[W0,J,W61 hM,z1,decide_eq_false he];refine ah (m-1) _ _ _ O0 ⟨i+1,O0,O2,fun u hu => ?_,rfl,rfl⟩
  by_cases e:u=i
  .subst e;exact aI fun h=>he h
  .exact a0 u O0
 rw[J55 (v:=i) (fun u hu=>by simp[a0 u hu]) ag (by simpa using he)];simp only[W0,J,W61 hM,z1,decide_eq_true he,al,M18 e1];obtain⟨_,ay,a7⟩:=ac i he;have a5:N14 aL f i<2^N:=Z6 (Z6 O0);obtain⟨l1,l2⟩:=K60 a5 N 0 _ 2 a7;obtain⟨l3,_⟩:=K15 (b0:=aL.getD i 0 &&& inn) N 0 _ 2 (fun w hw=>hw) (aD _) a7;have a6:=G55 (st:=0) U aj a7;dsimp only at l1 l2 l3 a6;rw[Nat.and_comm] at a6;refine R0 (E64 hN hL U W l1 O0 O0 O0 a6 H5 ab) ?_;rintro v H6 av ⟨hv,ak⟩;exact⟨⟨v,rfl,hv⟩,(V.trans O).trans ak⟩
section
variable {H:Y0}
theorem X109(N free:Int)(A:Option Addr)(es:List Nat)(cap:Nat)(H:Y0)(nx:Nat)(hS:Sl H nx A (K12 es))(U:U14 es):
  Q2 gQ 74 [gv N A es.length cap,O8 free] H nx fun r H' nx'=>r = .bool (decide (Q6 N free es=0))/\D0 H nx H' nx':=by
 refine spec74 ?_;unfold F74;have Q:D0 H nx (hs H nx (O7 [O8 N,.slice A es.length cap])) (nx+1):=(D0.refl H nx).nw _;simp only[W0,Z0,Q0.val,C13];refine R0 (N11 N A es cap _ _ (hS.ext Q) U) ?_;rintro _ H2 nx2 ⟨rfl,O⟩;have E:=Q.trans O;have J:=O.gt nx;rw[Z11] at J
 by_cases h0:N3 N es=0
 .have d1:decide (N3 N es=0)=true:=by simp[h0]
  have hF:Q6 N free es=if free<0\/N<free then 3 else 0:=by rw[Q6,if_neg (by simp[h0])]
  by_cases h1:free ≥ 0
  .by_cases h2:free<=N
   .have e:decide (Q6 N free es=0)=true:=by rw[hF,if_neg O0];simp
    simp only[W0,d1,h1,h2,J,e];exact E
   .have e:decide (Q6 N free es=0)=false:=by rw[hF,if_pos O0];simp
    simp only[W0,d1,h1,h2,J,e];exact E
  .have e:decide (Q6 N free es=0)=false:=by rw[hF,if_pos O0];simp
   simp only[W0,d1,h1,J,e];exact E
 .have d1:decide (N3 N es=0)=false:=by simp[h0]
  have e:decide (Q6 N free es=0)=false:=by rw[Q6,if_pos h0];simp[h0]
  simp only[W0,d1,e];exact E
def TT(es:List Nat)(a b c:Nat):Prop:=adj es a b=false/\adj es a c=true/\adj es b c=true
def TrR(es:List Nat)(f:Nat):Option (Nat × Nat × Nat)->Prop
 | none=>∀ a b c,a<b->b<c->c<f->¬ TT es a b c
 | some (a,b,c)=>a<b/\b<c/\c<f/\TT es a b c/\(∀ a' b' c',a'<b'->b'<c'->c'<f->TT es a' b' c'->a<a'\/(a=a'/\(b<b'\/(b=b'/\c<=c'))))
theorem V101{q4 q5:Nat}{x y z:Int}{c4 c5:List Value}{s4 s5:Nat}{m:Nat}(g4:J0 H q4=some (.cells c4 s4))(h4:c4.length=3)(g5:J0 H q5=some (.cells c5 s5))(h5:c5.length=1)(l4:q4<m)(l5:q5<m)(E:q4≠q5):
  Q2 gQ 39 [.agg ⟨[O8 x,O8 y,O8 z]⟩,.pointer (some ⟨q4,0,none⟩),.pointer (some ⟨q5,0,none⟩)] H m fun r H' m'=>
   r = .bool false/\J0 H' q4=some (.cells [O8 x,O8 y,O8 z] s4)/\J0 H' q5=some (.cells [.bool true] s5)/\m<=m'/\∀ i,i<m->i≠q4->i≠q5->J0 H' i=J0 H i:=by
 refine spec39 ?_;unfold F39;have p4:B12 c4 0 [O8 x,O8 y,O8 z]=[O8 x,O8 y,O8 z]:=G24 (by rw[h4];rfl);have p5:B12 c5 0 [.bool true]=[.bool true]:=G24 (by rw[h5];rfl);have n1:q5≠q4:=fun e=>E e.symm
 have n2:q4≠m:=O0;have n3:q5≠m:=O0;simp(disch:=omega)only[W0,Z0,Q0.val,Nat.reduceAdd,Y12,g4,g5,p4,p5,h4,h5];refine⟨O0,fun i hi e4 e5 => ?_⟩;rw[Z1 _ e5,Z1 _ e4,gN _]
theorem Y102{N f:Nat}(hN:N<=6)(hf:f<=N)(A:Option Addr)(es:List Nat)(cap:Nat)(a5:∀ e ∈ es,e<2^N)(bu:es.length<=8){q4 q5:Nat}{m:Nat}(hS:Sl H m A (K12 es))(g4:J0 H q4=some (.cells [.int .i64 0,.int .i64 0,.int .i64 0] 0))(g5:J0 H q5=some (.cells [.bool false] 0))(l4:q4<m)(l5:q5<m)(ay:q4≠q5):
  Q2 gQ 38 [gv (N:Int) A es.length cap,.int .i64 (f:Int),.func (.func 39) ⟨[]⟩ ⟨[.pointer (some ⟨q4,0,none⟩),.pointer (some ⟨q5,0,none⟩)]⟩] H m fun r H' m'=>
   m<=m'/\(∀ i,i<m->i≠q4->i≠q5->J0 H' i=J0 H i) /\
   ((TrR es f none/\J0 H' q4=some (.cells [.int .i64 0,.int .i64 0,.int .i64 0] 0)/\J0 H' q5=some (.cells [.bool false] 0)) \/
    ∃ a b c:Nat,TrR es f (some (a,b,c))/\J0 H' q4=some (.cells [.int .i64 (a:Int),.int .i64 (b:Int),.int .i64 (c:Int)] 0)/\J0 H' q5=some (.cells [.bool true] 0)):=by
 have b5:2^N<=64:=aK (n:=2) O0 hN;have a4:U14 es:=fun e he=>by have:=a5 e he;omega
 have ap:N3 N es=0:=V11 O0 O0 fun i e he=>a5 e (aH he)
 have aq:Q6 (N:Int) (f:Int) es=0:=by
  unfold Q6;rw[ap];simp;omega
 refine spec38 ?_;unfold F38;have ag:D0 H m (hs H m (some (.cells [.int .i64 N,.slice A es.length cap] 0))) (m+1):=(D0.refl H m).new _ (aD _) O0;have k1:J0 (hs H m (some (.cells [.int .i64 N,.slice A es.length cap] 0))) m=some (.cells [.int .i64 N,.slice A es.length cap] 0):=Z11 _ _ _;simp(disch:=first | omega | assumption | exact G0 O1 | exact U10 O1 | exact X0 O0 | fail   )only[W0,Z0,Q0.val,C13];generalize hs H m (some (.cells [.int .i64 N,.slice A es.length cap] 0))=K at *
 refine R0 (X109 N f A es cap _ _ (hS.ext ag) a4) ?_;rintro _ H2 n2 ⟨rfl,a7⟩;have d1:decide (Q6 N f es=0)=true:=by simp[aq]
 have k2:=(a7.get m O0).trans k1;have bf:=a7.le;simp(disch:=first | omega | assumption | exact G0 O1 | exact U10 O1 | exact X0 O0 | fail   )only[W0,d1,M27 (n:=f) O0,C23];have ad:D0 H2 n2 (hs H2 n2 (some (.cells (K12 (aF f 0)) 0))) (n2+1):=(D0.refl _ _).new _ (aD _) O0;have gn:J0 (hs H2 n2 (some (.cells (K12 (aF f 0)) 0))) n2=some (.cells (K12 (aF f 0)) 0):=Z11 _ _ _;generalize hs H2 n2 (some (.cells (K12 (aF f 0)) 0))=H3 at *
 have ah:=(ag.trans a7).trans ad;have k3:=(ad.get m O0).trans k2;refine B1 (m:=f) (fun q L' H' nx'=>∃(v:Nat) (ns:List Nat),q+v=f/\L'=[.int .i64 (v:Int)]/\ns.length=f/\(∀ j,j<v->ns[j]? = some (Q1 (adj es j) N))/\J0 H' n2=some (.cells (K12 ns) 0)/\J0 H' m=some (.cells [.int .i64 N,.slice A es.length cap] 0)/\D0 H m H' nx'/\n2+1<=nx') ?_
  ⟨0,_,O0,rfl,O2,fun j h=>O0,gn,k3,ah,aD _⟩
 rintro q bg L1 H4 n4 ⟨v,ns,hq,rfl,b3,a1,a3,k4,e4,bw⟩ ak
 by_cases hv:v<f
 .have a2:(v:Int)<(f:Int):=O0
  simp(disch:=first | omega | assumption | exact G0 O1 | exact U10 O1 | exact X0 O0 | fail  )only[W0,a2,k4,C13];refine R0 (U61 O0 (show v<N by omega) A es cap _ _ (hS.ext e4) a5 O0 ap) ?_;rintro _ H5 n5 ⟨rfl,h5⟩;have b4:=(h5.get n2 O0).trans a3;have k5:=(h5.get m O0).trans k4;have ba:=h5.le;have av:v+1<=(K12 ns).length:=by rw[E1];omega
  have ae:B12 (K12 ns) v [.int .u32 (Q1 (adj es v) N:Int)]=K12 (ns.set v (Q1 (adj es v) N)):=V10 O0;simp(disch:=first | omega | assumption | exact G0 O1 | exact U10 O1 | exact X0 O0 | fail   )only[W0,b4,av,ae];refine ak (q-1) _ _ _ O0 ⟨v+1,ns.set v (Q1 (adj es v) N),O0,O2,by rw[dO];exact b3,fun j hj => ?_,Z11 _ _ _,by rw[Z1 _ O0];exact k5,(e4.trans h5).hs O0,O0⟩
  by_cases e:j=v
  .subst e;rw[dG O0]
  .rw[bL (fun h=>e h.symm)];exact a1 j O0
 obtain rfl:v=f:=O0;have a2:¬ (v:Int)<(v:Int):=O0;simp(disch:=first | omega | assumption | exact G0 O1 | exact U10 O1 | exact X0 O0 | fail   )only[W0,a2];have a8:∀ a b,a<v->b<v->(Q1 (adj es a) N).testBit b=adj es a b:=fun a b ha hb=>by
  rw[E26];simp;intro h;omega
 have aj:∀ a,Q1 (adj es a) N<4294967296:=fun a=>R19 O0 _
 have Z:m<=n4/\(∀ i,i<m->i≠q4->i≠q5->J0 H4 i=J0 H i):=⟨e4.le,fun i hi _ _=>e4.get i hi⟩
 have a9:=(e4.get q4 l4).trans g4;have ai:=(e4.get q5 l5).trans g5;refine B1 (m:=v) (fun q L' H' nx'=>∃ a:Nat,q+a=v/\L'=[.int .i64 (a:Int)]/\(∀ x y z,x<a->x<y->y<z->z<v->¬ TT es x y z)/\H4=H'/\n4<=nx') ?_ ⟨0,O0,rfl,fun x y z h=>O0,rfl,aD _⟩;rintro q1 bv L1 _ n6 ⟨a,bt,rfl,hA,rfl,ax⟩ aa
 by_cases ha:a<v
 case neg=>
  have a6:¬ (a:Int)<(v:Int):=O0;simp(disch:=first | omega | assumption | exact G0 O1 | exact U10 O1 | exact X0 O0 | fail   )only[W0,a6];refine⟨O0,Z.2,.inl ⟨fun x y z h1 h2 h3=>hA x y z O0 h1 h2 h3,a9,ai⟩⟩
 have a6:(a:Int)<(v:Int):=O0;simp(disch:=first | omega | assumption | exact G0 O1 | exact U10 O1 | exact X0 O0 | fail  )only[W0,a6];refine B1 (m:=v) (fun q L' H' nx'=>∃ b:Nat,q+b=v+a+1/\a<b/\L'=[.int .i64 (b:Int)]/\(∀ y z,y<b->a<y->y<z->z<v->¬ TT es a y z)/\H4=H'/\n4<=nx') ?_ ⟨a+1,O0,O0,O2,fun y z h=>O0,rfl,ax⟩;rintro q2 bk L1 _ n7 ⟨b,bx,au,rfl,hB,rfl,an⟩ a0
 by_cases hb:b<v
 case neg=>
  have Q:¬ (b:Int)<(v:Int):=O0;simp(disch:=first | omega | assumption | exact G0 O1 | exact U10 O1 | exact X0 O0 | fail   )only[W0,Q];refine aa (q1-1) _ _ _ O0 ⟨a+1,O0,O2,fun x y z h1 h2 h3 h4 => ?_,rfl,an⟩
  by_cases e:x=a
  .subst e;exact hB y z O0 h2 h3 h4
  .exact hA x y z O0 h2 h3 h4
 have Q:(b:Int)<(v:Int):=O0;have na:=Q3 (a1 a ha);have nb:=Q3 (a1 b hb);have az:=aj a;have c4:=aj b;have b8:b<32:=O0;have U:=a8 a b ha hb;have O:(∀ z,b<z->z<v->¬ TT es a b z)->∀ y z,y<b+1->a<y->y<z->z<v->¬ TT es a y z:=fun h y z h1 h2 h3 h4=>by
  by_cases e:y=b
  .subst e;exact h z h3 h4
  .exact hB y z O0 h2 h3 h4
 cases E:adj es a b with
 | true=>
  rw[E] at U;simp(disch:=try exact O4)only[W0,Q,N13,a3,na,U];exact a0 (q2-1) _ _ _ O0 ⟨b+1,O0,O0,O2,O (fun z _ _ h=>by rw[h.1] at E;cases E),rfl,an⟩
 | false=>
  rw[E] at U;have bd:Q1 (adj es a) N &&& Q1 (adj es b) N<4294967296:=D52 az;simp(disch:=try exact O4)only[W0,Q,N13,a3,na,nb,U];refine B1 (m:=v) (fun q L' H' nx'=>∃ c:Nat,q+c=v+b+1/\b<c/\L'=[.int .i64 (c:Int)]/\(∀ z,z<c->b<z->¬ TT es a b z)/\H4=H'/\n4<=nx') ?_ ⟨b+1,O0,O0,O2,fun z h=>O0,rfl,O0⟩;rintro q3 bz L1 _ n8 ⟨c,bh,aw,rfl,hC,rfl,ab⟩ al
  by_cases hc:c<v
  case neg=>
   have W:¬ (c:Int)<(v:Int):=O0;simp(disch:=first | omega | assumption | exact G0 O1 | exact U10 O1 | exact X0 O0 | fail   )only[W0,W];exact a0 (q2-1) _ _ _ O0 ⟨b+1,O0,O0,O2,O (fun z h1 h2=>hC z O0 h1),rfl,ab⟩
  have W:(c:Int)<(v:Int):=O0;have c3:c<32:=O0;have bc:(Q1 (adj es a) N &&& Q1 (adj es b) N).testBit c=(adj es a c&&adj es b c):=by rw[bI,a8 a c ha hc,a8 b c hb hc]
  have V:∀ k,U11 [.int .i64 0,.int .i64 0,.int .i64 0] [(0,1),(1,1),(2,1)] [(0,.int .i64 (a:Int)),(1,.int .i64 (b:Int)),(2,.int .i64 (c:Int))] k=k (.agg ⟨[.int .i64 (a:Int),.int .i64 (b:Int),.int .i64 (c:Int)]⟩):=fun k=>rfl
  cases J:adj es a c&&adj es b c with
  | false=>
   rw[J] at bc;simp(disch:=try exact O4)only[W0,W,bc];refine al (q3-1) _ _ _ O0 ⟨c+1,O0,O0,O2,fun z h1 h2 => ?_,rfl,ab⟩
   by_cases e:z=c
   .subst e;intro h;rw[h.2.1,h.2.2] at J;cases J
   .exact hC z O0 h2
  | true=>
   rw[J] at bc;simp(disch:=try exact O4)only[W0,W,bc,V];refine V22 (V101 (x:=a) (y:=b) (z:=c) a9 rfl ai rfl O0 O0 ay) ?_;rintro _ H9 n9 ⟨rfl,r4,r5,r6,r7⟩;simp(disch:=first | omega | assumption | exact G0 O1 | exact U10 O1 | exact X0 O0 | fail   )only[W0];rw[aG] at J;refine⟨O0,fun i hi ao ac=>by rw[r7 i O0 ao ac];exact Z.2 i hi ao ac,.inr ⟨a,b,c,⟨au,aw,hc,⟨E,J.1,J.2⟩,fun x y z h1 h2 h3 h4 => ?_⟩,r4,r5⟩⟩;refine aI fun bo => ?_
   by_cases e1:x<a
   .exact hA x y z e1 h1 h2 h3 h4
   obtain rfl:x=a:=O0
   by_cases e2:y<b
   .exact hB y z e2 h1 h2 h3 h4
   obtain rfl:y=b:=O0;exact hC z O0 h2 h4
def trV:Option (Nat × Nat × Nat)->Value
 | none => .tuple ⟨[.agg ⟨[.int .i64 0,.int .i64 0,.int .i64 0]⟩,.bool false]⟩
 | some (a,b,c) => .tuple ⟨[.agg ⟨[.int .i64 (a:Int),.int .i64 (b:Int),.int .i64 (c:Int)]⟩,.bool true]⟩
theorem X87{N f:Nat}(hN:N<=6)(hf:f<=N)(A:Option Addr)(es:List Nat)(cap:Nat)(U:∀ e ∈ es,e<2^N)(Q:es.length<=8)(H:Y0)(nx:Nat)(hS:Sl H nx A (K12 es)):
  Q2 gQ 15 [gv (N:Int) A es.length cap,O8 (f:Int)] H nx fun r H' nx'=>(∃ o,TrR es f o/\r=trV o)/\D0 H nx H' nx':=by
 refine spec15 ?_;unfold F15;have V:∀ a b:Value,B12 [a] 0 [b]=[b]:=fun _ _=>rfl
 simp(disch:=omega)only[W0,Z0,Q0.val,V];generalize hK:hs (hs (hs (hs (hs H nx (O7 [O8 (N:Int),.slice A es.length cap])) (nx+1) (O7 [O8 0,O8 0,O8 0])) (nx+1+1) (O7 [O8 0,O8 0,O8 0])) (nx+1+1+1) (O7 [.bool false])) (nx+1+1+1) (O7 [.bool false])=K;have hE:D0 H nx K (nx+1+1+1+1):=by rw[<- hK];exact(((((D0.sf:D0 H nx H (nx+1+1+1+1)).h0).h0).h0).h0).h0
 have k2:J0 K nx=O7 [O8 (N:Int),.slice A es.length cap]:=by rw[<- hK,gN _,gN _,gN _,gN _,Z11]
 have k3:J0 K (nx+1)=O7 [O8 0,O8 0,O8 0]:=by rw[<- hK,gN _,gN _,gN _,Z11]
 have k4:J0 K (nx+1+1)=O7 [O8 0,O8 0,O8 0]:=by rw[<- hK,gN _,gN _,Z11]
 have k5:J0 K (nx+1+1+1)=O7 [.bool false]:=by rw[<- hK,Z11]
 clear hK
 try simp only[C13]
 refine R0 (Y102 hN hf A es cap U Q (hS.ext hE) k4 k5 O0 O0 O0) ?_;rintro r H6 n6 ⟨W,O,E⟩;have j3:=(O (nx+1) O0 O0 O0).trans k3;have J:D0 H nx H6 n6:=⟨O0,fun i hi=>by rw[O i O0 O0 O0];exact hE.get i hi⟩
 rcases E with ⟨ht,r4,r5⟩ | ⟨a,b,c,ht,r4,r5⟩
 .simp(disch:=omega)only[W0,Z0,Nat.reduceAdd,r4,r5,j3,Y12,D7]
  exact⟨⟨none,ht,rfl⟩,(J.more O0).h0⟩
 .simp(disch:=omega)only[W0,Z0,Nat.reduceAdd,r4,r5,j3,Y12,D7]
  exact⟨⟨some (a,b,c),ht,rfl⟩,(J.more O0).h0⟩
end
def K36(N free:Int)(es:List Nat):Prop:=es.length<=8/\(N<=6\/32<N)/\(0<=free->free<=N->N<=32->N-free<=4)
theorem J67(N free:Int)(A:Option Addr)(es:List Nat)(cap:Nat)(H:Y0)(nx:Nat):
  Q2 gQ 9 [gv N A es.length cap,O8 free] H nx fun r H' nx'=>(∃ c:Bool,r = .bool c/\(c=true->K36 N free es))/\D0 H nx H' nx':=by
 refine spec9 ?_;unfold F9;have J:D0 H nx (hs H nx (O7 [O8 N,.slice A es.length cap])) (nx+1):=(D0.refl H nx).nw _
 by_cases h1:(es.length:Int)<=8
 case neg=>
  simp only[W0,Z0,Q0.val,h1];exact⟨⟨false,rfl,fun h=>(by cases h)⟩,J⟩
 have E:∀ c:Bool,(c=true->(N<=6\/32<N)/\(0<=free->free<=N->N<=32->N-free<=4))->(∃ c':Bool,dU c = .bool c'/\(c'=true->K36 N free es))/\D0 H nx (hs H nx (O7 [O8 N,.slice A es.length cap])) (nx+1):=
  fun c hc=>⟨⟨c,rfl,fun h=>⟨O0,hc h⟩⟩,J⟩
 have hw:0<=free->free<=N->N<=32->IntKind.i64.wrap (N-free)=N-free:=fun a b c=>Y23 O0 O0
 by_cases h4:IntKind.i64.wrap (N-free)<=4
 .by_cases h2:N<=6
  .simp only[W0,Z0,Q0.val,h1,h2,R11,h4]
   exact E _ fun _=>⟨.inl h2,fun a b c=>by rw[hw a b c] at h4;exact h4⟩
  .by_cases h3:32<N
   .simp only[W0,Z0,Q0.val,h1,h2,h3,R11,h4]
    exact E _ fun _=>⟨.inr h3,fun a b c=>O0⟩
   .simp only[W0,Z0,Q0.val,h1,h2,h3]
    exact⟨⟨false,rfl,fun h=>(by cases h)⟩,J⟩
 .have hf:∀ c:Bool,c=decide (free<0)->c=true->(0<=free->free<=N->N<=32->N-free<=4):=fun c hc h a=>by
   rw[hc] at h;simp at h;omega
  by_cases h2:N<=6
  .simp only[W0,Z0,Q0.val,h1,h2,R11,h4]
   exact E _ fun h=>⟨.inl h2,hf _ rfl h⟩
  .by_cases h3:32<N
   .simp only[W0,Z0,Q0.val,h1,h2,h3,R11,h4]
    exact E _ fun h=>⟨.inr h3,hf _ rfl h⟩
   .simp only[W0,Z0,Q0.val,h1,h2,h3]
    exact⟨⟨false,rfl,fun h=>(by cases h)⟩,J⟩
theorem G87{v:Value}{l:List Nat}{H:Y0}{nx:Nat}(h:LsR l v H nx)(hl:l.length<=1000):Q2 gQ 26 [v] H nx fun r H' nx'=>LsR l r H' nx'/\D0 H nx H' nx':=by
 obtain⟨A,rfl,E,hS⟩:=h;refine spec26 ?_;unfold F26;simp only[W1];rw[G21]
 cases A with
 | none=>
  have J:=E.1 rfl;subst J;simp only[W0,Q0.val,Option.isNone];exact⟨C66 _ _,D0.refl _ _⟩
 | some a=>
  have O:l≠[]:=fun e=>by have:=E.2 e;cases this
  have Q:=List.length_pos_iff.2 O;simp only[W0,Q0.val,Option.isNone,U21];have hX:D0 H nx (hs H nx (O7 [])) (nx+1):=(D0.refl H nx).nw _;refine R20 (lo:=nx) (H0:=H) (l:=U4 (l.map fun(x:Nat)=>(x:Int))) (Z11 _ _ _) (aD _) O0 (B68 (hS.ext hX) (by rw[J6];omega) O0) (K13 _) O0 O0 hX ?_;intro v1 H1 W _ U V;obtain⟨P,rfl,hP,_⟩:=U.sl;rw[J6];refine⟨⟨P,rfl,⟨fun e => ?_,fun e=>absurd e O⟩,hP⟩,V⟩;subst e;obtain⟨b,o,row,e,_⟩:=hP.open (i:=0) (by rw[J6];exact Q)
  cases e
def W14(es:List Nat)(N:Nat):Bool:=(aY N).all fun v=>R10 es (2^v)
theorem W49{N:Nat}(hN:N<=6)(A:Option Addr)(es:List Nat)(cap:Nat)(Q:U14 es)(a0:es.length<=8)(H:Y0)(nx:Nat)(hS:Sl H nx A (K12 es)):
  Q2 gQ 28 [gv (N:Int) A es.length cap] H nx fun r H' nx'=>r = .bool (W14 es N)/\D0 H nx H' nx':=by
 refine spec28 ?_;unfold F28;have J:D0 H nx (hs H nx (O7 [O8 N,.slice A es.length cap])) (nx+1):=(D0.refl H nx).nw _;have k1:J0 (hs H nx (O7 [O8 N,.slice A es.length cap])) nx=O7 [O8 N,.slice A es.length cap]:=Z11 _ _ _;simp only[W0,Z0,Q0.val];generalize hs H nx (O7 [O8 N,.slice A es.length cap])=K at *
 refine B1 (m:=N) (fun m L H' nx'=>∃ i:Nat,m+i=N/\L=[O8 (i:Int)]/\(∀ v,v<i->R10 es (2^v)=true)/\K=H'/\nx+1=nx') ?_ ⟨0,O0,rfl,fun v h=>O0,rfl,rfl⟩;rintro m ih L _ _ ⟨i,hm,rfl,O,rfl,rfl⟩ U
 by_cases hi:i<N
 .have E:(i:Int)<(N:Int):=O0
  have V:2^i<4294967296:=by
   have:2^i<=2^6:=aK O0 O0;omega
  have Z:i<32:=O0;have W:i<18446744073709551616:=O0;simp(disch:=omega)only[W0,k1,E,Z10 W];refine R0 (B45 V A es cap _ _ (hS.ext J) Q O0) ?_;rintro _ _ _ ⟨rfl,rfl,rfl⟩;have hz:(R10 es (2^i) || decide (2^i=0))=R10 es (2^i):=by
   have:0<2^i:=aQ i;have e:decide (2^i=0)=false:=O2;rw[e,Bool.or_false]
  rw[hz]
  cases hb:R10 es (2^i) with
  | false=>
   simp only[W0];refine⟨?_,J⟩;have:W14 es N=false:=by
    rw[bN];intro h;have:=iE.1 h i (by simpa using hi);rw[hb] at this;cases this
   rw[this]
  | true=>
   simp only[W0];refine U (m-1) _ _ _ O0 ⟨i+1,O0,O2,fun v hv => ?_,rfl,rfl⟩
   by_cases e:v=i
   .subst e;exact hb
   .exact O v O0
 .have E:¬ (i:Int)<(N:Int):=O0
  simp only[W0,k1,E];refine⟨?_,J⟩;have:W14 es N=true:=iE.2 fun v hv=>O v (by have:=cW.1 hv;omega)
  rw[this]
def C5(N free:Int)(es:List Nat):Int:=if Q6 N free es≠0 then Q6 N free es else if W14 es N.toNat=true then 0 else 9
theorem C58{N free:Int}(A:Option Addr)(es:List Nat)(cap:Nat)(Q:U14 es)(hF:K36 N free es)(H:Y0)(nx:Nat)(hS:Sl H nx A (K12 es)):
  Q2 gQ 11 [gv N A es.length cap,O8 free] H nx fun r H' nx'=>r=O8 (C5 N free es)/\D0 H nx H' nx':=by
 refine spec11 ?_;unfold F11;have U:D0 H nx (hs H nx (O7 [O8 N,.slice A es.length cap])) (nx+1):=(D0.refl H nx).nw _;have k1:J0 (hs H nx (O7 [O8 N,.slice A es.length cap])) nx=O7 [O8 N,.slice A es.length cap]:=Z11 _ _ _;simp only[W0,Z0,Q0.val,C13];generalize hs H nx (O7 [O8 N,.slice A es.length cap])=K at *
 refine R0 (N11 N A es cap _ _ (hS.ext U) Q) ?_;rintro _ H2 nx2 ⟨rfl,J⟩;have k2:=(J.gt nx).trans k1;have E:=U.trans J
 by_cases hg:N3 N es≠0
 .have d1:decide (N3 N es≠0)=true:=by simp[hg]
  simp only[W0,d1];refine⟨?_,E⟩;have hf:Q6 N free es=N3 N es:=by unfold Q6;rw[if_pos hg]
  unfold C5;rw[hf,if_pos hg]
 have V:N3 N es=0:=aI hg;have d1:decide (N3 N es≠0)=false:=by simp[V]
 have hf:Q6 N free es=if free<0\/N<free then 3 else 0:=by unfold Q6;rw[if_neg hg]
 have c1:decide (free > N)=decide (N<free):=rfl;simp only[W0,d1];refine N5 (fun L' H' nx'=>L'=[.bool (decide (free<0\/N<free))]/\H2=H'/\nx2=nx') ?_ ?_
 .intro j hj
  by_cases q0:free<0
  .simp only[W0,decide_eq_true q0]
   exact hj _ _ _ ⟨by simp[q0],rfl,rfl⟩
  .simp only[W0,decide_eq_false q0,k2]
   exact hj _ _ _ ⟨by simp[q0],rfl,rfl⟩
 rintro L _ _ ⟨rfl,rfl,rfl⟩
 by_cases hr:free<0\/N<free
 .simp only[W0,decide_eq_true hr]
  refine⟨?_,E⟩;rw[if_pos hr] at hf;unfold C5;rw[hf];rfl
 rw[if_neg hr] at hf;obtain⟨n,f,rfl,rfl,_,_,_,a0⟩:=U27 hf;have W:n<=6:=by have:=hF.2.1;omega
 simp only[W0,decide_eq_false hr,k2,C13];refine R0 (W49 W A es cap Q hF.1 _ _ (hS.ext E)) ?_;rintro _ H3 Z ⟨rfl,O⟩;have hw:C5 n f es=if W14 es n=true then 0 else 9:=by
  unfold C5;rw[hf,if_neg O2]
  rfl
 rw[hw]
 cases W14 es n with
 | true=>
  simp only[W0];exact E.trans O
 | false=>
  simp only[W0];exact E.trans O
theorem M67{N:Nat}{es:List Nat}(E:∀ e ∈ es,e<2^N):W14 es N=true<->orF es es.length=2^N-1:=by
 have hb:∀ v,R10 es (2^v)=true<->∃ e ∈ es,e.testBit v=true:=fun v=>by
  unfold R10;rw[dY]
  constructor
  .rintro⟨e,h1,h2⟩
   refine⟨e,h1,?_⟩;have h3:=of_decide_eq_true h2;have h4:=N1 (2^v) e v;rw[h3,jQ,Nat.testBit_two_pow_self] at h4;simpa using h4.symm
  .rintro⟨e,h1,h2⟩
   refine⟨e,h1,decide_eq_true ?_⟩;apply bZ;intro w;rw[N1,aR,jQ]
   by_cases hw:v=w
   .subst hw;simp[h2]
   .simp[hw]
 unfold W14;rw[iE]
 constructor
 .intro h
  apply bZ;intro w;rw[dC]
  by_cases hw:w<N
  .rw[decide_eq_true hw]
   exact X37.2 ((hb w).1 (h w (by simpa using hw)))
  .rw[decide_eq_false hw,bN]
   intro hh;obtain⟨e,h1,h2⟩:=X37.1 hh;exact hw (R7 (E e h1) h2)
 .intro h v hv
  rw[hb];exact X37.1 (by rw[h,dC];simpa using hv)
end Go.Proofs.YtoiioigihocgbaaGreatDoor
namespace Go.Clo
theorem G40{a:Nat}(h:1<=a)(ha:a<4294967296)(k:VP):D10 .sub (O9 (a:Int)) (O9 1) k=k (O9 ((a-1:Nat):Int)):=by
 rw[R11];have e:eW.wrap ((a:Int)-1)=((a-1:Nat):Int):=by
  simp only[eY,eK,dW];simp;omega
 rw[e]
end Go.Clo
namespace Go.Proofs.YtoiioigihocgbaaGreatDoor
open Go.Clo
theorem Y36{N free:Int}(A:Option Addr)(es:List Nat)(cap:Nat)(ab:U14 es)(hF:K36 N free es)(H:Y0)(nx:Nat)(hS:Sl H nx A (K12 es)):
  Q2 gQ 25 [gv N A es.length cap,O8 free] H nx fun r H' nx'=>r=O8 (C5 N free es)/\D0 H nx H' nx':=by
 refine spec25 ?_;unfold F25;have a7:D0 H nx (hs H nx (O7 [O8 N,.slice A es.length cap])) (nx+1):=(D0.refl H nx).nw _;have k1:J0 (hs H nx (O7 [O8 N,.slice A es.length cap])) nx=O7 [O8 N,.slice A es.length cap]:=Z11 _ _ _;simp only[W0,Z0,Q0.val,C13];generalize hs H nx (O7 [O8 N,.slice A es.length cap])=K at *
 refine R0 (N11 N A es cap _ _ (hS.ext a7) ab) ?_;rintro _ H2 nx2 ⟨rfl,a3⟩;have k2:=(a3.gt nx).trans k1;have E:=a7.trans a3;have bf:=a3.le
 by_cases hg:N3 N es≠0
 .have d1:decide (N3 N es≠0)=true:=by simp[hg]
  simp only[W0,d1];refine⟨?_,E⟩;have hf:Q6 N free es=N3 N es:=by unfold Q6;rw[if_pos hg]
  unfold C5;rw[hf,if_pos hg]
 have an:N3 N es=0:=aI hg;have d1:decide (N3 N es≠0)=false:=by simp[an]
 have hf:Q6 N free es=if free<0\/N<free then 3 else 0:=by unfold Q6;rw[if_neg hg]
 simp only[W0,d1];refine N5 (fun L' H' nx'=>L'=[.bool (decide (free<0\/N<free))]/\H2=H'/\nx2=nx') ?_ ?_
 .intro j hj
  by_cases q0:free<0
  .simp only[W0,decide_eq_true q0]
   exact hj _ _ _ ⟨by simp[q0],rfl,rfl⟩
  .simp only[W0,decide_eq_false q0,k2]
   exact hj _ _ _ ⟨by simp[q0],rfl,rfl⟩
 rintro L _ _ ⟨rfl,rfl,rfl⟩
 by_cases hr:free<0\/N<free
 .simp only[W0,decide_eq_true hr]
  refine⟨?_,E⟩;rw[if_pos hr] at hf;unfold C5;rw[hf];rfl
 rw[if_neg hr] at hf;obtain⟨n,f,rfl,rfl,_,ax,_,V⟩:=U27 hf;have W:n<=6:=by have:=hF.2.1;omega
 have ai:=hF.1;have b4:2^n<=64:=aK (n:=2) O0 W;have bt:0<2^n:=aQ n;have ba:2^f<=2^n:=aK (n:=2) O0 ax;have bv:0<2^f:=aQ f;have hw:C5 n f es=if W14 es n=true then 0 else 9:=by
  unfold C5;rw[hf,if_neg O2]
  rfl
 have aa:=M67 V;simp(disch:=omega)only[W0,decide_eq_false hr,k2];have a0:=R58 V;refine B1 (m:=es.length) (fun m L H' nx'=>∃ i:Nat,m+i=es.length/\L=[O9 (orF es i:Int),O8 (i:Int)]/\H2=H'/\nx2=nx') ?_ ⟨0,O0,rfl,rfl,rfl⟩;rintro m2 bk L2 _ _ ⟨i2,bw,rfl,rfl,rfl⟩ a8
 by_cases aw:i2<es.length
 .have J:(i2:Int)<(es.length:Int):=O0
  obtain⟨e,he⟩:∃ e,es[i2]? = some e:=⟨_,aE aw⟩
  obtain⟨B,o,row,rfl,ay,Q,O⟩:=(hS.ext E).open (i:=i2) (by rw[E1];omega);have q0:=O _ _ (Q3 he);have bd:=ab.get he;have h1:=a0 i2 O0;have b8:orF es i2<4294967296:=O0;simp(disch:=omega)only[W0,J,X3 Q,q0];exact a8 (m2-1) _ _ _ O0 ⟨i2+1,O0,by rw[C47 he];simp,rfl,rfl⟩
 have J:¬ (i2:Int)<(es.length:Int):=O0;obtain rfl:i2=es.length:=O0;have bc:=a0 es.length (aD _);have c4:n<32:=O0;have c3:f<32:=O0;have a9:2^n<4294967296:=O0;have ag:2^f<4294967296:=O0;have s1:=fun k=>G40 (a:=2^n) O0 a9 k
 have s2:=fun k=>G40 (a:=2^f) O0 ag k
 have z1:decide ((orF es es.length:Int)≠((2^n-1:Nat):Int))=decide (orF es es.length≠2^n-1):=by congr 1;apply propext;omega
 by_cases Z:orF es es.length≠2^n-1
 .have a4:W14 es n=false:=by rw[bN];exact fun h=>Z (aa.1 h)
  simp(disch:=omega)only[W0,J,k2,s1,z1,decide_eq_true Z];rw[hw,a4];exact⟨rfl,E⟩
 have a4:W14 es n=true:=aa.2 (aI Z);have b3:2^n-1<4294967296:=O0;have ah:Z2 (2^n-1) (2^f-1)<4294967296:=U10 b3;simp(config:={ maxSteps:=2000000 }) (disch:=omega)only[W0,J,k2,s1,z1,decide_eq_false Z,s2,C13];refine R0 (Q49 (hS.ext (E.more (show nx2<=nx2+9 by omega))) W V ai ah) ?_;rintro _ H6 n6 ⟨⟨B6,rfl,aq,a6⟩,a2⟩;have bh:=a2.le;have bu:=K46 es (Z2 (2^n-1) (2^f-1));have ac:=U67 (s:=Z2 (2^n-1) (2^f-1)) V;generalize D14 es (Z2 (2^n-1) (2^f-1))=il at *
 have k6:=(a2.gt nx).trans k2;simp(config:={ maxSteps:=2000000 })only[W0,Z0,Nat.reduceAdd,gv,G26,C13];have av:D0 H6 (nx2+7) (hs (hs H6 (nx2+7) (O7 [O8 0,O6])) (nx2+7) (O7 [O8 (n:Int),.slice B6 il.length il.length])) n6:=((D0.sf:D0 H6 (nx2+7) H6 n6).h0).h0;have au:Sl (hs (hs H6 (nx2+7) (O7 [O8 0,O6])) (nx2+7) (O7 [O8 (n:Int),.slice B6 il.length il.length])) n6 B6 (K12 il):=fun i u hu=>by
  obtain⟨b,o,row,rfl,h2,h3,h4⟩:=aq i u hu;have:=a6 b o none rfl;refine⟨b,o,row,rfl,h2,?_,h4⟩;unfold Q5;rw[gN _,gN _];exact h3
 generalize hs (hs H6 (nx2+7) (O7 [O8 0,O6])) (nx2+7) (O7 [O8 (n:Int),.slice B6 il.length il.length])=H8 at *
 have ae:D0 H nx H8 n6:=⟨O0,fun i hi=>by rw[av.gt i,a2.gt i];exact E.get i hi⟩
 refine R0 (U41 (cap:=il.length) au W ac O0) ?_;rintro _ H9 n9 ⟨⟨B9,rfl,ak⟩,ao⟩;obtain⟨aj,_,_⟩:=M56 (es:=il) W;have c6:(D19 il n).length<=n:=E40 _ _ _ _;generalize D19 il n=cs at *
 simp only[W0];refine B1 (m:=cs.length) (fun m L H' nx'=>∃ i:Nat,m+i=cs.length/\L=[O8 (i:Int)]/\D0 H9 n9 H' nx') ?_ ⟨0,O0,rfl,D0.refl _ _⟩;rintro m ih L bz bx ⟨i,hm,rfl,U⟩ ap
 by_cases hi:i<cs.length
 .have a1:(i:Int)<(cs.length:Int):=O0
  obtain⟨c,hc⟩:∃ c,cs[i]? = some c:=⟨_,aE hi⟩
  obtain⟨B,o,row,rfl,ay,Q,O⟩:=(ak.ext U).open (i:=i) (by rw[E1];omega);have q0:=O _ _ (Q3 hc);obtain⟨cv,_,az⟩:=aj c (aH hc);have ad:c<64:=by have:=az.lt;omega
  have bg:E9 c<=6:=Q15 _ _;simp(disch:=omega)only[W0,a1,X3 Q,q0];refine R0 (R44 ad _ _) ?_;rintro _ bo b5 ⟨rfl,a5⟩;have al:¬ (E9 c:Int) > 8:=O0;simp only[W0,al];exact ap (m-1) _ _ _ O0 ⟨i+1,O0,O2,U.trans a5⟩
 .have a1:¬ (i:Int)<(cs.length:Int):=O0
  simp only[W0,a1];rw[hw,a4];exact⟨rfl,(ae.trans ao).trans U⟩
open Go.Inv
theorem Q48{N free:Int}{es:List Nat}(h:C5 N free es=0):∃ n f:Nat,N=n/\free=f/\n<=32/\f<=n/\(∀ e ∈ es,e<2^n)/\∀ v,v<n->Q21 es v:=by
 have E:Q6 N free es=0:=by
  unfold C5 at h
  split at h
  .rename_i h1;exact absurd h h1
  .rename_i h1;exact aI h1
 obtain⟨n,f,rfl,rfl,O,Q,_,U⟩:=U27 E;have eN:((n:Nat):Int).toNat=n:=O0;have J:W14 es n=true:=by
  unfold C5 at h;rw[E,if_neg O2,eN] at h
  cases hc:W14 es n with
  | true=>rfl
  | false=>rw[hc] at h;simp at h
 refine⟨n,f,rfl,rfl,O,Q,U,fun v hv => ?_⟩;unfold W14 at J;rw[iE] at J;obtain⟨e,h1,h2⟩:=K58.1 (J v (cW.2 hv));exact⟨e,h1,h2 v (by rw[Nat.testBit_two_pow_self])⟩
end Go.Proofs.YtoiioigihocgbaaGreatDoor
namespace Go.Clo
theorem V111(b:Nat)(k:VP):D90 (.pointer (some ⟨b,0,none⟩)) 3 1 none none none k=k (.slice (some ⟨b,0,none⟩) 3 3):=by
 have e:B26 (some ⟨b,0,none⟩) 3 3 1 none none none false=some (.slice (some ⟨b,0,none⟩) 3 3):=rfl;unfold D90;simp only[e,E7]
theorem bV0(k:VP):U11 [O8 0,O6,O6] [(0,1),(1,1),(2,1)] [] k=k (.agg ⟨[O8 0,O6,O6]⟩):=V14 _ _
theorem bV2(x:Int)(A:Option Addr)(n c:Nat)(k:VP):U11 [O8 0,O6,O6] [(0,1),(1,1),(2,1)] [(0,O8 x),(2,.slice A n c)] k=k (.agg ⟨[O8 x,O6,.slice A n c]⟩):=V14 _ _
theorem bV1(x:Int)(A:Option Addr)(n c:Nat)(k:VP):U11 [O8 0,O6,O6] [(0,1),(1,1),(2,1)] [(0,O8 x),(1,.slice A n c)] k=k (.agg ⟨[O8 x,.slice A n c,O6]⟩):=V14 _ _
theorem LsR.sub{l:List Nat}{v:Value}{H:Y0}{nx:Nat}{H':Y0}(h:LsR l v H nx)(e:Sub H nx H'):LsR l v H' nx:=by
 obtain⟨A,h1,h2,h3⟩:=h;exact⟨A,h1,h2,h3.sub' e⟩
theorem E67{H:Y0}{q n:Nat}{b:Option V3}:Sub (D6 H [q]) n (hs H q b):=V74 (H':=hs H q b) (qs':=[]) (fun i _ hi=>Z1 _ (by simpa using hi)) (fun q hq=>by simp at hq)
theorem Sl.er1{H:Y0}{nx:Nat}{A:Option Addr}{l:List Value}{H':Y0}{nx' q:Nat}(h:Sl H nx A l)(e:D0 H nx H' nx')(hq:nx<=q):Sl (D6 H' [q]) nx' A l:=fun i v hv=>by
 obtain⟨b,o,row,e1,h2,h3,h4⟩:=h i v hv;refine⟨b,o,row,e1,aO h2 e.le,?_,h4⟩;unfold Q5;rw[Q50 O5,e.get b h2];exact h3
end Go.Clo
namespace Go.Proofs.YtoiioigihocgbaaGreatDoor
open Go.Clo
def LsI(l:List Int)(v:Value)(H:Y0)(nx:Nat):Prop:=∃ A,v = .slice A l.length l.length/\Sl H nx A (U4 l)/\Has H nx A
theorem V91(H:Y0)(nx:Nat):LsI [] O6 H nx:=⟨none,rfl,Sl.nil _ _ _,.inl rfl⟩
theorem _root_.Go.Clo.Has.sub{H:Y0}{nx:Nat}{A:Option Addr}{H':Y0}(h:Has H nx A)(e:Sub H nx H'):Has H' nx A:=by
 rcases h with h | ⟨b,o,row,h1,h2,h3⟩
 .exact .inl h
 .refine .inr ⟨b,o,row,h1,h2,?_⟩
  unfold Q5 at h3 ⊢
  cases hb:J0 H b with
  | none=>rw[hb] at h3;cases h3
  | some x=>rw[e b x h2 hb];rw[hb] at h3;exact h3
def C56(es:List Nat)(N f:Nat)(E:Int)(p:List Int)(w:List Nat):Prop:=
 (Z74 es (B2 es N) N≠[]/\E=1/\p=[]/\w=Z74 es (B2 es N) N) \/
 (Z74 es (B2 es N) N=[]/\K24 (B2 es N) N f=some w/\E=2/\p=[]) \/
 (Z74 es (B2 es N) N=[]/\K24 (B2 es N) N f=none/\E=3/\p=[]/\∃ a b c,TrR es f (some (a,b,c))/\w=[a,b,c]) \/
 (Z74 es (B2 es N) N=[]/\K24 (B2 es N) N f=none/\E=0/\TrR es f none/\p=R82 es N f/\w=[])
theorem G94{es:List Nat}{N:Nat}(hN:N<=6)(E:∀ e ∈ es,e<2^N):(Z74 es (B2 es N) N).length<=100:=by
 have J:=(U93 (aL:=B2 es N) (N:=N) (fun u w within=>D81 hN (R60 es N)) N).1;have h1:(scF (B2 es N) N).length<=11:=by
  unfold scF
  split
  .simp
  .have:=Z90 (aL:=B2 es N) (N:=N) (L:=cyV (B2 es N) N N) N
   omega
 have h2:∀ most,(D83 es (B2 es N) N most).length<=N:=fun most=>K95 (K88 E (aQ N))
 have key:∀ cy cq:List Nat,cy.length<=100->cq.length<=100->(X90 cy cq).length<=100:=fun cy cq a b=>by
  unfold X90
  split
  .exact a
  .split
   .exact b
   .exact a
 exact key _ _ O0 (bK (h2 _) O0)
theorem K92{aL:List Nat}{N f:Nat}(hf:f<=N)(hN:N<=6){l:List Nat}(h:K24 aL N f=some l):l.length<=100:=by
 unfold K24 at h
 split at h
 .cases h
 .rename_i x hx
  cases h
  have h1:=List.find?_some hx;obtain⟨Q,U,J⟩:=E47 (aL:=aL) (N:=N) (inn:=K10 N f) (f:=f) f x (by simpa using h1);have E:N14 aL f x<2^N:=by
   have O:2^f<=2^N:=aK (n:=2) O0 hf;have:=aQ f;exact Z6 (Z6 O0)
  obtain⟨_,l2⟩:=K60 E N 0 _ 2 J;simp only[gM,List.length_range];dsimp only at l2;omega
def R66(es:List Nat)(N free:Int)(r:Value)(H:Y0)(nx:Nat):Prop:=
 (C5 N free es≠0/\r = .tuple ⟨[.agg ⟨[.int .i64 0,.slice none 0 0,.slice none 0 0]⟩,.int .i64 (C5 N free es)]⟩) \/
 (C5 N free es=0/\∃ E p w pv wv,r = .tuple ⟨[.agg ⟨[.int .i64 E,pv,wv]⟩,.int .i64 0]⟩/\C56 es N.toNat free.toNat E p w/\LsI p pv H nx/\LsR w wv H nx)
theorem Y99{N free:Int}(A:Option Addr)(es:List Nat)(cap:Nat)(av:U14 es)(hF:K36 N free es)(H:Y0)(nx:Nat)(hS:Sl H nx A (K12 es)):
  Q2 gQ 10 [gv N A es.length cap,O8 free] H nx fun r H' nx'=>R66 es N free r H' nx'/\D0 H nx H' nx':=by
 refine spec10 ?_;unfold F10;simp(disch:=try exact O3)only[W0,Z0,Q0.val,C13];generalize hK:hs (hs H nx (O7 [O8 N,.slice A es.length cap])) (nx+1) (O7 [O8 0,O6,O6])=K;have k1:J0 K nx=O7 [O8 N,.slice A es.length cap]:=by rw[<- hK,gN _,Z11]
 have v1:J0 K (nx+1)=O7 [O8 0,O6,O6]:=by rw[<- hK,Z11]
 have ay:D0 H nx K (nx+1+1):=by
  rw[<- hK];exact(((D0.refl H nx).nw _:D0 H nx _ (nx+1)).nw _)
 clear hK;refine R0 (Y36 A es cap av hF K _ (hS.ext ay)) ?_;rintro _ H3 bx ⟨rfl,ab⟩;have k3:=(ab.gt nx).trans k1;have v3:=(ab.gt (nx+1)).trans v1;have a5:=ay.trans ab;have bu:=ab.le
 by_cases hw:C5 N free es≠0
 .have d1:decide (C5 N free es≠0)=true:=by simp[hw]
  simp(disch:=try exact O3)only[W0,Z0,Nat.reduceAdd,d1,bV0,v3,D7,Y12];exact⟨.inl ⟨hw,rfl⟩,a5.h0⟩
 have V:C5 N free es=0:=aI hw;have ai:Q6 N free es=0:=by
  unfold C5 at V
  split at V
  .rename_i h;exact absurd V h
  .rename_i h;exact aI h
 obtain⟨n,f,rfl,rfl,_,ah,_,a2⟩:=U27 ai;have a3:n<=6:=by have:=hF.2.1;omega
 have ac:=hF.1;have eN:((n:Nat):Int).toNat=n:=O0;have eF:((f:Nat):Int).toNat=f:=O0;have bt:W14 es n=true:=by
  unfold C5 at V;rw[ai,if_neg O2,eN] at V
  cases hc:W14 es n with
  | true=>rfl
  | false=>rw[hc] at V;simp at V
 have bc:=(M67 a2).1 bt;have d1:decide (C5 n f es≠0)=false:=by simp[V]
 have c3:=G94 a3 a2;have aa:∀ {aj:Int} {p:List Int} {w:List Nat} {pv wv:Value} {H':Y0} {n':Nat},C56 es n f aj p w->LsI p pv H' n'->LsR w wv H' n'->R66 es n f (.tuple ⟨[.agg ⟨[O8 aj,pv,wv]⟩,O8 0]⟩) H' n':=fun h1 h2 h3=>
  .inr ⟨V,_,_,_,_,_,rfl,by rw[eN,eF];exact h1,h2,h3⟩
 simp(disch:=try exact O3)only[W0,d1,k3,C13];refine X65 (qs:=[nx+1]) (fun q hq=>by have:q=nx+1:=(by simpa using hq);omega) (G79 a3 A es cap a2 ac _ _ (hS.er1 a5 O0)) (fun _ _ _ h=>h.2) ?_;rintro _ H5 n5 H0 ⟨⟨v5,rfl,au⟩,bz⟩ ae ba _;have au:=au.sub ba;have k5:=(ae.gt nx).trans k3;have w5:=(ae.gt (nx+1)).trans v3;have a4:=a5.trans ae;have bv:=ae.le
 by_cases ho:Z74 es (B2 es n) n≠[]
 .simp(disch:=try exact O3)only[W0,decide_eq_true ho]
  refine X65 (qs:=[nx+1]) (fun q hq=>by have:q=nx+1:=(by simpa using hq);omega) (G87 au O0) (fun _ _ _ h=>h.2) ?_;rintro r6 H6 n6 aw ⟨J,ao⟩ O Z _;have J:=J.sub Z;have w6:=(O.gt (nx+1)).trans w5;have a9:=O.le;have a8:=fun b=>J.sub (E67 (H:=H6) (q:=nx+1) (n:=n6) (b:=b))
  obtain⟨C,rfl,_⟩:=J;have Q:=a4.trans O;simp(disch:=try exact O3)only[W0,Z0,Nat.reduceAdd,bV2,w6,D7,Y12];exact⟨aa (.inl ⟨ho,rfl,rfl,rfl⟩) (V91 _ _) (a8 _),Q.h0⟩
 have ap:Z74 es (B2 es n) n=[]:=aI ho;simp(disch:=try exact O3)only[W0,decide_eq_false ho,k5,C13];refine X65 (qs:=[nx+1]) (fun q hq=>by have:q=nx+1:=(by simpa using hq);omega) (W68 a3 ah A es cap a2 ac _ _ (hS.er1 a4 O0)) (fun _ _ _ h=>h.2) ?_;rintro _ H8 n8 c4 ⟨⟨v8,rfl,ag⟩,c7⟩ ad b5 _;have ag:=ag.sub b5;have k8:=(ad.gt nx).trans k5;have w8:=(ad.gt (nx+1)).trans w5;have a6:=a4.trans ad;have bw:=ad.le
 cases hp:K24 (B2 es n) n f with
 | some l=>
  rw[hp] at ag;have b8:=K92 ah a3 hp;simp(disch:=try exact O3)only[W0,Option.isSome_some];refine X65 (qs:=[nx+1]) (fun q hq=>by have:q=nx+1:=(by simpa using hq);omega) (G87 (l:=l) ag O0) (fun _ _ _ h=>h.2) ?_;rintro r6 H6 n6 aw ⟨J,ao⟩ O Z _;have J:=J.sub Z;have w6:=(O.gt (nx+1)).trans w8;have a9:=O.le;have a8:=fun b=>J.sub (E67 (H:=H6) (q:=nx+1) (n:=n6) (b:=b))
  obtain⟨C,rfl,_⟩:=J;have Q:=a6.trans O;simp(disch:=try exact O3)only[W0,Z0,Nat.reduceAdd,bV2,w6,D7,Y12];exact⟨aa (.inr (.inl ⟨ap,hp,rfl,rfl⟩)) (V91 _ _) (a8 _),Q.h0⟩
 | none=>
 simp(disch:=try exact O3)only[W0,gO,k8,C13];refine R0 (X87 a3 ah A es cap a2 ac _ _ (hS.ext a6)) ?_;rintro _ a0 E ⟨⟨o,b3,rfl⟩,a1⟩;have az:=(a1.gt nx).trans k8;have b4:=(a1.gt (nx+1)).trans w8;have a7:=a6.trans a1;have bf:=a1.le
 cases o with
 | some t=>
  obtain⟨a,b,c⟩:=t;have U:D0 a0 E (hs (hs a0 E (O7 [O8 0,O8 0,O8 0])) E (O7 [O8 (a:Int),O8 (b:Int),O8 (c:Int)])) (E+1):=((D0.refl _ _).nw _ (m:=E+1)).h0;have bh:J0 (hs (hs a0 E (O7 [O8 0,O8 0,O8 0])) E (O7 [O8 (a:Int),O8 (b:Int),O8 (c:Int)])) E=O7 [O8 (a:Int),O8 (b:Int),O8 (c:Int)]:=Z11 _ _ _;simp(disch:=try exact O3)only[W0,Z0,Nat.reduceAdd,trV,D7,V111];generalize hs (hs a0 E (O7 [O8 0,O8 0,O8 0])) E (O7 [O8 (a:Int),O8 (b:Int),O8 (c:Int)])=H13 at *
  have an:=(U.gt (nx+1)).trans b4;have W:=a7.trans U;have bg:LsR [a,b,c] (.slice (some ⟨E,0,none⟩) 3 3) (D6 H13 [nx+1]) (E+1):=⟨some ⟨E,0,none⟩,rfl,O2,fun i u hu=>⟨E,0,_,rfl,O0,by unfold Q5;rw[Q50 O5,bh];rfl,by rw[cF];exact hu⟩⟩
  refine X65 (qs:=[nx+1]) (fun q hq=>by have:q=nx+1:=(by simpa using hq);omega) (G87 bg O2) (fun _ _ _ h=>h.2) ?_;rintro r6 H6 n6 aw ⟨J,ao⟩ O Z _;have J:=J.sub Z;have w6:=(O.gt (nx+1)).trans an;have a9:=O.le;have a8:=fun b=>J.sub (E67 (H:=H6) (q:=nx+1) (n:=n6) (b:=b))
  obtain⟨C,rfl,_⟩:=J;have Q:=W.trans O;simp(disch:=try exact O3)only[W0,Z0,Nat.reduceAdd,bV2,w6,D7,Y12];exact⟨aa (.inr (.inr (.inl ⟨ap,hp,rfl,rfl,a,b,c,b3,rfl⟩))) (V91 _ _) (a8 _),Q.h0⟩
 | none=>
 have U:D0 a0 E (hs (hs a0 E (O7 [O8 0,O8 0,O8 0])) E (O7 [O8 0,O8 0,O8 0])) (E+1):=((D0.refl _ _).nw _ (m:=E+1)).h0;have bk:=(U.gt nx).trans az;simp(disch:=try exact O3)only[W0,Z0,Nat.reduceAdd,trV,D7,az,C13];generalize hs (hs a0 E (O7 [O8 0,O8 0,O8 0])) E (O7 [O8 0,O8 0,O8 0])=H13 at *
 have an:=(U.gt (nx+1)).trans b4;have W:=a7.trans U;refine X65 (qs:=[nx+1]) (fun q hq=>by have:q=nx+1:=(by simpa using hq);omega) (M96 (hS.er1 W O0) a3 ah a2 ac) (fun _ _ _ h=>h.1) ?_;rintro r6 H6 n6 aw ⟨ao,J⟩ O Z _;rcases J with ⟨bd,_⟩ | ⟨_,B,w,rfl,hB,bo,al⟩
 .exact absurd bc bd
 obtain⟨c6,rfl,aq⟩:=bo.num;have hB:=hB.sub' Z;have al:=al.sub Z;have w6:=(O.gt (nx+1)).trans an;have a9:=O.le;have Q:=W.trans O;have d0:decide ((0:Int)≠0)=false:=by decide
 simp(config:={ maxSteps:=2000000 }) (disch:=try exact O3)only[W0,Z0,Nat.reduceAdd,aq.three,aq.one,G24 (show c6.length=[dU false,O6,O6].length from aq.three),d0,bV1,w6,D7,Y12];have ak:∀ X,Sub (D6 H6 [nx+1]) n6 (Go.Clo.hs (Go.Clo.hs (Go.Clo.hs H6 n6 (O7 [.bool false,O6,O6])) n6 (O7 c6)) (nx+1) X):=fun X i b hi hb=>by
  have ax:i≠nx+1:=by
   rintro rfl;rw[U73 O2] at hb
   cases hb
  rw[Q50 (by simpa using ax)] at hb;rw[Z1 _ ax,gN _,gN _];exact hb
 refine⟨aa (.inr (.inr (.inr ⟨ap,hp,rfl,b3,rfl,rfl⟩))) ⟨B,rfl,?_,?_⟩ (C66 _ _),((Q.more (show n6<=n6+1 by omega)).h0).h0 |>.h0⟩
 .exact(hB.sub' (ak _)).ext (D0.sf)
 .exact(al.sub (ak _)).ext (D0.sf)
open Go.Inv
section
variable {a b c f n:Nat} {es w:List Nat} {kind:Int} {p:List Int}
theorem X67:TT es a b c<->N10 es a c/\N10 es b c/\¬ N10 es a b:=by
 unfold TT;rw[M43,M43,<- M43 (a:=a) (b:=b),Bool.not_eq_true];exact⟨fun h=>⟨h.2.1,h.2.2,h.1⟩,fun h=>⟨h.2.2,h.1,h.2.1⟩⟩
theorem D68(h:TrR es f none):¬ R52 es f:=fun⟨a,b,c,h1,h2,h3,h4⟩=>h a b c h1 h2 h3 (X67.2 h4)
theorem E68(h:TrR es f (some (a,b,c))):R52 es f:=⟨a,b,c,h.1,h.2.1,h.2.2.1,X67.1 h.2.2.2.1⟩
theorem R67{es:List Nat}(hn:n<=6)(hf:f<=n)(E:∀ e ∈ es,e<2^n)(h:C56 es n f kind p w):
  (¬ PE es/\kind=1)\/(PE es/\U25 (N10 es) n f []/\kind=2)\/(PE es/\¬ U25 (N10 es) n f []/\R52 es f/\kind=3)\/(U78 es n f/\kind=0):=by
 have J:∀ v,(Z7 es).testBit v=true<->Q21 es v:=fun v=>by rw[V107,dY];exact Iff.rfl
 have hP:=J73 hn E J;have hF:=W67 (es:=es) hn hf;have no:K24 (B2 es n) n f=none->¬ U25 (N10 es) n f []:=fun h2 g=>by have:=hF.2 g;rw[h2] at this;cases this
 rcases h with ⟨h1,rfl,_⟩ | ⟨h1,h2,rfl,_⟩ | ⟨h1,h2,rfl,_,a,b,c,ht,_⟩ | ⟨h1,h2,rfl,ht,_⟩
 .exact .inl ⟨fun g=>h1 (hP.2 g),rfl⟩
 .exact .inr (.inl ⟨hP.1 h1,hF.1 (by rw[h2];rfl),rfl⟩)
 .exact .inr (.inr (.inl ⟨hP.1 h1,no h2,E68 ht,rfl⟩))
 .exact .inr (.inr (.inr ⟨⟨hP.1 h1,no h2,D68 ht⟩,rfl⟩))
theorem N58{es:List Nat}(hn:n<=6)(hf:f<=n)(E:∀ e ∈ es,e<2^n)(h:C56 es n f kind p w):
  (kind=1<->¬ PE es)/\(kind=2<->PE es/\U25 (N10 es) n f [])/\(kind=0<->U78 es n f):=by
 rcases R67 hn hf E h with ⟨h1,rfl⟩ | ⟨h1,h2,rfl⟩ | ⟨h1,h2,h3,rfl⟩ | ⟨h1,rfl⟩
 .exact⟨⟨fun _=>h1,fun _=>rfl⟩,⟨fun g=>O0,fun g=>absurd g.1 h1⟩,⟨fun g=>O0,fun g=>absurd g.1 h1⟩⟩
 .exact⟨⟨fun g=>O0,fun g=>absurd h1 g⟩,⟨fun _=>⟨h1,h2⟩,fun _=>rfl⟩,⟨fun g=>O0,fun g=>absurd h2 g.2.1⟩⟩
 .exact⟨⟨fun g=>O0,fun g=>absurd h1 g⟩,⟨fun g=>O0,fun g=>absurd g.2 h2⟩,⟨fun g=>O0,fun g=>absurd h3 g.2.2⟩⟩
 .exact⟨⟨fun g=>O0,fun g=>absurd h1.1 g⟩,⟨fun g=>O0,fun g=>absurd g.2 h1.2.1⟩,⟨fun _=>h1,fun _=>rfl⟩⟩
end
section
variable {a b f i m n:Nat} {es w:List Nat} {l:List Int}
def toI(w:List Nat):List Int:=w.map fun(x:Nat)=>(x:Int)
theorem M24(w:List Nat):(toI w).length=w.length:=gM _
theorem V18{x:Nat}(h:w[i]? = some x):vAt (toI w) i=x:=N87 (by unfold toI;simp_all)
theorem V116{w:List Nat}(h1:w.Nodup)(h2:∀ x ∈ w,x<n):lOK (toI w) n:=by
 refine⟨fun x hx => ?_,List.Pairwise.map _ (fun a b E J=>E O0) h1⟩;obtain⟨y,hy,rfl⟩:=gN.1 hx;have:=h2 y hy;omega
theorem B112(h:lOK l n):∃ w:List Nat,l=toI w/\w.Nodup/\∀ x ∈ w,x<n:=by
 have e:toI (l.map Int.toNat)=l:=by
  unfold toI;rw[List.map_map]
  conv=>rhs;rw[<- List.map_id l]
  refine List.map_congr_left fun x hx => ?_
  have:=h.1 x hx
  grind
 refine⟨l.map Int.toNat,e.symm,?_,fun x hx => ?_⟩
 .have h3:=h.2
  rw[<- e] at h3;exact List.Pairwise.of_map _ (fun a b J E=>J (by rw[E])) h3
 .obtain⟨y,hy,rfl⟩:=gN.1 hx
  have:=h.1 y hy;omega
theorem K51{P:Nat->Nat->Bool}:K17 P n=true<->∀ a,a<n->∀ b,b<a->P a b=true:=by
 unfold K17
 simp_all
theorem U31(h:i<w.length):∃ x,w[i]? = some x:=⟨_,aE h⟩
theorem K117{w:List Nat}{q:Nat}(h:∀ x ∈ w,x<n):(B36 (toI w) n).testBit q=true<->q ∈ w:=by
 unfold B36;rw[E26,aG,decide_eq_true_eq,decide_eq_true_eq]
 constructor
 .rintro⟨_,g⟩
  obtain⟨y,hy,e⟩:=gN.1 g;rwa [show q=y by omega]
 .intro g
  exact⟨h q g,gN.2 ⟨q,g,rfl⟩⟩
theorem K122(h:BadQ es n w):obR es n (toI w)=true:=by
 have hp:(decide (3<=(toI w).length)&&K17 (G12 es (toI w)) (toI w).length)=true:=by
  rw[aG,decide_eq_true_eq,K51,M24];refine⟨h.len,fun a ha b hb => ?_⟩;obtain⟨x,hx⟩:=U31 ha;obtain⟨y,hy⟩:=U31 (w:=w) (show b<w.length by omega);unfold G12;rw[V18 hx,V18 hy,M43];refine h.adj x (aH hx) y (aH hy) fun e => ?_
  subst e;have:=G63 h.nd hx hy;omega
 unfold obR;rw[if_pos (V116 h.nd h.lt),if_pos hp,cJ,bN];intro g;obtain⟨e,he,hq⟩:=K58.1 g;obtain⟨q,J,E⟩:=h.unc e he;rw[hq q ((K117 h.lt).2 J)] at E
 cases E
theorem V122(h:BadC (N10 es) n w):obR es n (toI w)=true:=by
 have hl:=h.len;have E:∀ a b x y,b<a->w[a]? = some x->w[b]? = some y->(G12 es (toI w) a b=true<->a=b+1\/(b=0/\a+1=w.length)):=fun a b x y J hx hy=>by
  unfold G12;rw[V18 hx,V18 hy,M43,<- h.adj b a y x J hy hx];exact⟨fun g=>g.symm,fun g=>g.symm⟩
 have hp:¬ (decide (3<=(toI w).length)&&K17 (G12 es (toI w)) (toI w).length)=true:=by
  rw[aG,decide_eq_true_eq,K51,M24];rintro⟨_,g⟩;obtain⟨x,hx⟩:=U31 (w:=w) (show 2<w.length by omega);obtain⟨y,hy⟩:=U31 (w:=w) (show 0<w.length by omega);have:=(E 2 0 x y O0 hx hy).1 (g 2 O0 0 O0);omega
 unfold obR;rw[if_pos (V116 h.nd h.lt),if_neg hp,aG,decide_eq_true_eq,K51,M24];refine⟨hl,fun a ha b hb => ?_⟩;obtain⟨x,hx⟩:=U31 ha
 grind[N18]
theorem K123(a0:∀ v,Q21 es v->v<n)(h:obR es n l=true):¬ PE es:=by
 intro a1;obtain⟨hC,hF⟩:=(V78 a0).1 a1;unfold obR at h
 by_cases ho:lOK l n
 case neg=>rw[if_neg ho] at h;cases h
 rw[if_pos ho] at h;obtain⟨w,rfl,Z,a3⟩:=B112 ho;rw[M24] at h
 by_cases hp:(decide (3<=w.length)&&K17 (G12 es (toI w)) w.length)=true
 .rw[if_pos hp,cJ,bN] at h
  rw[aG,decide_eq_true_eq,K51] at hp;obtain⟨h3,hp⟩:=hp;have J:∀ a ∈ w,∀ b ∈ w,a≠b->N10 es a b:=fun a ha b hb O=>by
   obtain⟨i,hi⟩:=cH ha;obtain⟨j,hj⟩:=cH hb;have a4:=(aJ.1 hi).1;have U:=(aJ.1 hj).1;rcases Nat.lt_trichotomy i j with g | g | g
   .have:=hp j U i g
    unfold G12 at this;rw[V18 hj,V18 hi,M43] at this;exact this.symm
   .simp_all
   grind[G12,V18,M43]
  obtain⟨x0,Q⟩:=U31 (w:=w) (show 0<w.length by omega);obtain⟨x1,W⟩:=U31 (w:=w) (show 1<w.length by omega);obtain⟨e,he,hq⟩:=hF (fun q=>q ∈ w) ⟨x0,aH Q⟩ (fun q hq=>by
   by_cases e:q=x0
   .subst e
    exact(J q hq x1 (aH W) fun e=>by grind[G63]).cov
   .exact(J q hq x0 (aH Q) e).cov) (fun a b ha hb O=>J a ha b hb O)
  grind[K58,K117]
 .rw[if_neg hp,aG,decide_eq_true_eq,K51] at h
  obtain⟨h4,h⟩:=h;have E:∀ a b x y,b<a->w[a]? = some x->w[b]? = some y->(N10 es y x<->a=b+1\/(b=0/\a+1=w.length)):=fun a b x y V hx hy=>by
   have:=h a (aJ.1 hx).1 b V;unfold G12 N18 at this;rw[beq_iff_eq,eX,V18 hx,V18 hy,M43,cO,aG,decide_eq_true_eq,decide_eq_true_eq,decide_eq_true_eq] at this
   constructor
   .intro g
    exact(this.1 g.symm).imp iD id
   .intro g
    exact(this.2 (g.imp iD id)).symm
  have get:∀ i,i<w.length->∃ x,w[i]? = some x:=fun i hi=>U31 hi
  obtain⟨v,hv⟩:=get 0 O0;obtain⟨u,hu⟩:=get 1 O0;obtain⟨x,hx⟩:=get (w.length-1) O0;have hD:∀ i,i<w.length->w[i]? = some (w.getD i 0):=fun i hi=>by simp_all
  refine hC v u x ((E 1 0 u v O0 hu hv).2 (.inl rfl)) ((E _ 0 x v O0 hx hv).2 (.inr ⟨rfl,O0⟩)) (fun e=>by subst e;have:=G63 Z hu hx;omega) (fun g=>by
   grind) ?_
  refine Wf.rch (j:=w.length-2) O0 ⟨fun i=>w.getD (i+1) 0,?_,?_,fun i hi => ?_,fun i h0 hi => ?_⟩
  .simp_all
  .grind
  .exact(E (i+1+1) (i+1) _ _ O0 (hD _ O0) (hD _ O0)).2 (.inl rfl)
  .by_cases e:i+1=w.length-1
   .simp_all
   .left
    have a2:=hD (i+1) O0
    grind[G63]
theorem R116{w:List Nat}(h1:w.Nodup)(h2:∀ x ∈ w,x<n):Q36 es n f (toI w)=true<->D48 (N10 es) n f w:=by
 have hq:∀ i x,w[i]? = some x->(X61 es f (toI w) i=true<->(x<f<->i=0\/i+1=w.length)/\∀ j y,j<i->w[j]? = some y->(N10 es y x<->j+1=i)):=fun i x hx=>by
  unfold X61;rw[aG,beq_iff_eq,eX,cO,decide_eq_true_eq,decide_eq_true_eq,decide_eq_true_eq,V18 hx,M24,iE];have J:=(aJ.1 hx).1
  constructor
  .rintro⟨g1,g2⟩
   refine⟨g1.symm,fun j y hj hy => ?_⟩;have:=g2 j (cW.2 hj);unfold G12 at this;rw[beq_iff_eq,eX,V18 hx,V18 hy,M43,decide_eq_true_eq] at this;exact⟨fun a=>this.1 a.symm,fun e=>(this.2 e).symm⟩
  .rintro⟨g1,g2⟩
   refine⟨g1.symm,fun j hj => ?_⟩;have hj:=cW.1 hj;obtain⟨y,hy⟩:=U31 (w:=w) (show j<w.length by omega);unfold G12;rw[beq_iff_eq,eX,V18 hx,V18 hy,M43,decide_eq_true_eq];have:=g2 j y hj hy;exact⟨fun a=>this.1 a.symm,fun e=>(this.2 e).symm⟩
 unfold Q36;rw[M24]
 constructor
 .intro h
  split at h
  .rename_i hc
   rw[iE] at h;have hh:∀ i x,w[i]? = some x->_:=fun i x hx=>(hq i x hx).1 (h i (cW.2 (aJ.1 hx).1))
   refine⟨hc.1,fun i j x y E hx hy=>⟨fun e => ?_,(hh j y hy).2 i x E hx⟩,fun i x hx=>h2 x (aH hx),fun i x hx=>(hh i x hx).1⟩
   grind[G63]
  .cases h
 .intro h
  rw[if_pos ⟨h.len,V116 h1 h2⟩,iE];intro i hi;have hi:=cW.1 hi;obtain⟨x,hx⟩:=U31 hi;exact(hq i x hx).2 ⟨h.ends i x hx,fun j y hj hy=>(h.ch j i y x hj hy hx).2⟩
theorem R120(h:Q36 es n f l=true):U25 (N10 es) n f []:=by
 grind[lOK,Q36,B112,V45,R116]
theorem D118{A:Nat->Nat->Prop}(h:D48 A n f w):w.Nodup:=by
 rw[List.Nodup,fD];intro i j hi hj E;exact(h.ch i j _ _ E (aE hi) (aE hj)).1
theorem W122:m &&& (2^a ||| 2^b)=2^a ||| 2^b<->m.testBit a=true/\m.testBit b=true:=by
 have hb:∀ i,(2^a ||| 2^b).testBit i=true<->i=a\/i=b:=fun i=>by
  grind
 constructor
 .intro h
  have:∀ i,i=a\/i=b->m.testBit i=true:=fun i hi=>by
   have g:=(hb i).2 hi
   grind
  simp_all
 .rintro⟨h1,h2⟩
  refine bZ fun i => ?_
  grind
theorem C120:m &&& (2^a ||| 2^b)=0<->m.testBit a=false/\m.testBit b=false:=by
 have hb:∀ i,(2^a ||| 2^b).testBit i=true<->i=a\/i=b:=fun i=>by
  grind
 constructor
 .intro h
  have:∀ i,i=a\/i=b->m.testBit i=false:=fun i hi=>bN.2 fun g=>by
   have:(m &&& (2^a ||| 2^b)).testBit i=true:=by grind
   simp_all
  simp_all
 .rintro⟨h1,h2⟩
  refine bZ fun i => ?_
  grind
theorem E116{c:Nat}(hf:f<=n):E48 es n f a b c=true<->a<b/\b<c/\c<f/\N10 es a c/\N10 es b c/\¬ N10 es a b:=by
 unfold E48;rw[gR,gR,gR]
 by_cases h:(0:Int)<=(a:Int)/\(a:Int)<b/\(b:Int)<c/\(c:Int)<(f:Int)
 .rw[if_pos h,aG,decide_eq_true_eq,decide_eq_true_eq,W122,C120]
  have hm:∀ x y,y<n->((Q1 (adj es x) n).testBit y=true<->N10 es x y):=fun x y hy=>by
   rw[E26,aG,decide_eq_true_eq,M43]
   simp_all
  grind[N10]
 grind
theorem X121{a b c:Int}(hf:f<=n)(h:E48 es n f a b c=true):R52 es f:=by
 have hc:0<=a/\a<b/\b<c/\c<(f:Int):=by
  grind[E48]
 obtain⟨x,rfl⟩:∃ x:Nat,a=x:=⟨a.toNat,O0⟩
 obtain⟨y,rfl⟩:∃ x:Nat,b=x:=⟨b.toNat,O0⟩
 obtain⟨z,rfl⟩:∃ x:Nat,c=x:=⟨c.toNat,O0⟩
 exact⟨x,y,z,(E116 hf).1 h⟩
theorem B117{es:List Nat}(hn:n<=6)(hf:f<=n)(U:∀ e ∈ es,e<2^n)(Q:es.length<=8)(E:∀ v,v<n->Q21 es v){g:List Nat}(h:IsP n f g):Y67 es n f (toI g)=true<->PEl es (g++dnL f):=by
 have J:∀ w,w ∈ g++dnL f<->w<n:=fun w=>by rw[dN,h.mem,K22];omega
 have O:=W118 hn U Q E hf h;unfold Y67;rw[if_pos (show V72 (toI g) f n from h.ok hf),show((toI g++R6 f f).map Int.toNat)=g++dnL f by rw[List.map_append,C57];unfold toI;rw[Y116]];exact Y115 E O (fun w hw=>(J w).1 hw) fun a b _ _=>rfl
theorem Y122{es:List Nat}(hn:n<=6)(hf:f<=n)(O:∀ e ∈ es,e<2^n)(J:es.length<=8)(E:∀ v,v<n->Q21 es v)(h:Y67 es n f l=true):U78 es n f:=by
 have hp:V72 l f n:=by
  grind[Y67]
 obtain⟨g,rfl,g1,g2⟩:=B112 (n:=n) ⟨fun x hx=>by have:=hp.2.1 x hx;omega,hp.2.2⟩;have hl:=hp.1;rw[M24] at hl;have U:∀ x ∈ g,f<=x:=fun x hx=>by have:=(hp.2.1 (x:Int) (gN.2 ⟨x,hx,rfl⟩)).1;omega
 have hP:=U117 g1 (fun x hx=>⟨U x hx,g2 x hx⟩) O0;have Q:=(B117 hn hf O J E hP).1 h;have h1:=(Y113 hn O J E hf hP).2 ((Z59 hn O J E hf hP).2 Q);have h2:=Y94 hn O J E hf hP;exact(G117 hn O J E hf).1 (by grind)
theorem K119{es:List Nat}(hn:n<=6)(hf:f<=n)(O:∀ e ∈ es,e<2^n)(J:es.length<=8)(E:∀ v,v<n->Q21 es v)(h:U78 es n f):Y67 es n f (R82 es n f)=true:=by
 have h1:=(G117 hn O J E hf).2 h;obtain⟨g,h2,h3,h4,_⟩:=G99 hn O J E hf;have hP:=B76 (List.mem_of_find?_eq_some h2);rw[h3];exact(B117 hn hf O J E hP).2 ((Z59 hn O J E hf hP).1 ((Y113 hn O J E hf hP).1 (by rw[h4];exact h1)))
theorem X122{cy cq:List Nat}(h:X90 cy cq≠[]):(X90 cy cq=cy/\cy≠[])\/(X90 cy cq=cq/\cq≠[]):=by
 grind[X90]
theorem Z116{es:List Nat}{E:Int}{p:List Int}(hn:n<=6)(hf:f<=n)(J:∀ e ∈ es,e<2^n)(V:es.length<=8)(U:∀ v,v<n->Q21 es v)(O:Q6 n f es=0)(h:C56 es n f E p w):C25 es n f E p (toI w)=true:=by
 have hv:=N58 hn hf J h;unfold C25;rw[if_pos O,gR,gR];have W:∀ v,(Z7 es).testBit v=true<->Q21 es v:=fun v=>by rw[V107,dY];exact Iff.rfl
 have Q:∀ u w,N10 es u w->u<n/\w<n:=fun u w h=>by
  obtain⟨_,e,h1,h2,h3⟩:=h;exact⟨R7 (J e h1) h2,R7 (J e h1) h3⟩
 have hb:∀ u w,((B2 es n).getD u 0).testBit w=true<->N10 es u w:=fun u w=>by
  grind[B17]
 rcases h with ⟨h1,rfl,rfl,rfl⟩ | ⟨h1,h2,rfl,rfl⟩ | ⟨h1,h2,rfl,rfl,a,b,c,ht,rfl⟩ | ⟨h1,h2,rfl,ht,rfl,rfl⟩
 .rw[if_neg O0,if_neg O2,if_pos rfl]
  unfold Z74 at h1 ⊢;rcases X122 h1 with ⟨e,hq⟩ | ⟨e,hq⟩
  .rw[e];exact V122 (W123 hn hb Q (fun a b h=>h.symm) (fun a h=>h.1 rfl) hq)
  grind[K122,U123]
 .rw[if_neg O0,if_neg O2,if_neg O0,if_pos rfl]
  have hF:=R115 hn hf h2;exact(R116 (D118 hF) fun x hx=>by obtain⟨i,hi⟩:=cH hx;exact hF.lt i x hi).2 hF
 .rw[if_neg O0,if_neg O2,if_neg O0,if_neg O0,if_pos rfl]
  obtain⟨t1,t2,t3,t4,_⟩:=ht;rw[aG];exact⟨by simp[toI],(E116 hf).2 ⟨t1,t2,t3,X67.1 t4⟩⟩
 .rw[if_pos rfl,aG]
  grind[toI,K119]
theorem V121{es:List Nat}{k:Int}(hf:f<=n)(E:∀ e ∈ es,e<2^n)(h:U78 es n f)(hk:k=1\/k=2\/k=3):C25 es n f k [] l=false:=by
 rw[bN];intro g;unfold C25 at g
 split at g
 .rw[gR,gR] at g
  rcases hk with rfl | rfl | rfl
  .rw[if_neg O0,if_neg O2,if_pos rfl] at g
   exact K123 (fun v ⟨e,h1,h2⟩=>R7 (E e h1) h2) g h.1
  .rw[if_neg O0,if_neg O2,if_neg O0,if_pos rfl] at g
   exact h.2.1 (R120 g)
  .rw[if_neg O0,if_neg O2,if_neg O0,if_neg O0,if_pos rfl,aG] at g
   exact h.2.2 (X121 hf g.2)
 .cases g
theorem W120{es:List Nat}(hn:n<=6)(hf:f<=n)(O:∀ e ∈ es,e<2^n)(J:es.length<=8)(E:∀ v,v<n->Q21 es v){w:List Int}(h:C25 es n f 0 l w=true):U78 es n f:=by
 unfold C25 at h
 split at h
 .rw[if_pos rfl,gR,gR,aG] at h
  exact Y122 hn hf O J E h.2
 .cases h
end
theorem D119{es:List Nat}{N free:Int}{r:Value}{H:Y0}{nx:Nat}(hw:C5 N free es=0)(h:R66 es N free r H nx):
  ∃ E p w P W,r = .tuple ⟨[.agg ⟨[O8 E,.slice P p.length p.length,.slice W w.length w.length]⟩,O8 0]⟩/\C56 es N.toNat free.toNat E p w/\Sl H nx P (U4 p)/\Has H nx P/\Sl H nx W (U4 (toI w)):=by
 rcases h with ⟨h,_⟩ | ⟨_,E,p,w,pv,wv,rfl,hV,⟨P,rfl,h1,h2⟩,⟨W,rfl,_,h3⟩⟩
 .exact absurd hw h
 .exact⟨E,p,w,P,W,rfl,hV,h1,h2,h3⟩
theorem bW(x:Int)(A:Option Addr)(n c:Nat)(k:VP):U11 [O8 0,O6,O6] [(0,1),(1,1),(2,1)] [(0,O8 x),(2,.slice A n c)] k=k (.agg ⟨[O8 x,O6,.slice A n c]⟩):=V14 _ _
theorem bP(A:Option Addr)(n c:Nat)(k:VP):U11 [O8 0,O6,O6] [(0,1),(1,1),(2,1)] [(1,.slice A n c)] k=k (.agg ⟨[O8 0,.slice A n c,O6]⟩):=V14 _ _
theorem law7(N free:Int)(A:Option Addr)(es:List Nat)(cap:Nat)(P:Option Addr)(l:List Int)(a4:Nat)(H:Y0)(nx:Nat)(hS:Sl H nx A (K12 es))(hP:Sl H nx P (U4 l))(aq:Has H nx P)(E:U14 es):
  Q2 gQ 7 [gv N A es.length cap,O8 free,.slice P l.length a4] H nx fun r _ _=>r = .bool true:=by
 refine spec7 ?_;unfold F7;have aj:D0 H nx (hs H nx (O7 [O8 N,.slice A es.length cap])) (nx+1):=(D0.refl H nx).nw _;have k1:J0 (hs H nx (O7 [O8 N,.slice A es.length cap])) nx=O7 [O8 N,.slice A es.length cap]:=Z11 _ _ _;simp only[gv];rw[M12,Y31];refine(@if_pos _ _ (show Z0 [cD .i64 N,.slice A es.length cap]=true from rfl) _ _ _).mpr ?_;rw[Q37];simp only[Q0.val];generalize hs H nx (O7 [O8 N,.slice A es.length cap])=K at *
 refine R0 (X60 K _) ?_;rintro _ _ _ ⟨rfl,rfl,rfl⟩;simp(disch:=try exact O3)only[W0,Q0.val];refine N5 (fun L H' nx'=>(∃ c:Bool,L=[.bool c]/\(c=false->K36 N free es/\C5 N free es=0/\l.length<=8))/\D0 K (nx+1) H' nx') ?_ ?_
 .intro j hj
  simp(disch:=try exact O3)only[W0,k1,C13];refine R0 (J67 N free A es cap K _) ?_;rintro _ H3 n3 ⟨⟨c,rfl,hF⟩,O⟩;have k3:=(O.gt nx).trans k1;have ai:=O.le
  cases c with
  | false=>
   simp(disch:=try exact O3)only[W0]
   simp_all
  | true=>
   have hF:=hF rfl;simp(disch:=try exact O3)only[W0,k3,C13];refine R0 (C58 A es cap E hF H3 n3 (hS.ext (aj.trans O))) ?_;rintro _ H4 n4 ⟨rfl,a0⟩
   by_cases hw:C5 N free es≠0
   .simp(disch:=try exact O3)only[W0,decide_eq_true hw]
    exact hj _ _ _ ⟨⟨true,rfl,fun h=>by cases h⟩,O.trans a0⟩
   have a5:C5 N free es=0:=Classical.not_not.1 hw;simp(disch:=try exact O3)only[W0,decide_eq_false hw];exact hj _ _ _ ⟨⟨_,rfl,fun h=>⟨hF,a5,(by grind)⟩⟩,O.trans a0⟩
 rintro _ H3 n3 ⟨⟨c,rfl,hF⟩,O⟩
 cases c with
 | true=>simp(disch:=try exact O3)only[W0]
 | false=>
 obtain⟨hX,a5,bk⟩:=hF rfl;clear hF;have hF:=hX;clear hX;obtain⟨n,f,rfl,rfl,bt,V,W,Z⟩:=Q48 a5;have U:n<=6:=by have:=hF.2.1;omega
 have a6:=hF.1;have eN:((n:Nat):Int).toNat=n:=O0;have eF:((f:Nat):Int).toNat=f:=O0;have ad:Q6 n f es=0:=by
  grind[C5]
 have k3:=(O.gt nx).trans k1;have aa:=aj.trans O;have ai:=O.le;simp(disch:=try exact O3)only[W0,k3,C13];refine R0 (Y99 A es cap E hF H3 n3 (hS.ext aa)) ?_;rintro r4 H4 n4 ⟨hD,a0⟩;obtain⟨J,p,w,P1,W1,rfl,hV,ax,au,ap⟩:=D119 a5 hD;rw[eN,eF] at hV;have k4:=(a0.gt nx).trans k3;have ah:=aa.trans a0;have ba:=a0.le;have ag:D0 H4 n4 (hs (hs H4 n4 (O7 [O8 0,O6,O6])) n4 (O7 [O8 J,.slice P1 p.length p.length,.slice W1 w.length w.length])) (n4+1):=((D0.refl _ _).nw _ (m:=n4+1)).h0;have g6:J0 (hs (hs H4 n4 (O7 [O8 0,O6,O6])) n4 (O7 [O8 J,.slice P1 p.length p.length,.slice W1 w.length w.length])) n4=O7 [O8 J,.slice P1 p.length p.length,.slice W1 w.length w.length]:=Z11 _ _ _;have k6:=(ag.gt nx).trans k4;simp(disch:=try exact O3)only[W0,Z0,Nat.reduceAdd,D7,k4];generalize hs (hs H4 n4 (O7 [O8 0,O6,O6])) n4 (O7 [O8 J,.slice P1 p.length p.length,.slice W1 w.length w.length])=H6 at *
 have a8:=ah.trans ag;refine R0 (E117 U V A es cap W a6 Z H6 (n4+1) (hS.ext a8)) ?_;rintro _ H7 n7 ⟨⟨acc,rfl,ao⟩,a3⟩;have k7:=(a3.gt nx).trans k6;have g7:=(a3.gt n4).trans g6;have a9:=a8.trans a3;have a2:=ag.trans a3;have bd:=a3.le;have bh:=N58 U V W hV;have av:p.length<=40/\w.length<=100:=by
  refine⟨?_,?_⟩
  .rcases hV with ⟨_,_,rfl,_⟩ | ⟨_,_,_,rfl⟩ | ⟨_,_,_,rfl,_⟩ | ⟨_,_,_,_,rfl,_⟩
   .simp
   .simp
   .simp
   .obtain⟨gg,aw,bo,_⟩:=G99 U W a6 Z V
    have:=(B76 (List.mem_of_find?_eq_some aw)).len
    grind
  .rcases hV with ⟨_,_,_,rfl⟩ | ⟨_,h,_,_⟩ | ⟨_,_,_,_,a,b,c,_,rfl⟩ | ⟨_,_,_,_,_,rfl⟩
   .exact G94 U W
   .exact K92 V U h
   .simp
   .simp
 have b3:w.length<=40:=by
  have az:∀ {m:List Nat},m.Nodup->(∀ x ∈ m,x<n)->m.length<=40:=fun {m} h1 h2=>by
   have:=iB (l₂:=aY n) h1 fun x hx=>cW.2 (h2 x hx)
   grind
  have hc:=Z116 U V W a6 Z ad hV;rcases hV with ⟨_,rfl,rfl,rfl⟩ | ⟨_,h,_,_⟩ | ⟨_,_,_,_,a,b,c,_,rfl⟩ | ⟨_,_,_,_,_,rfl⟩
  .unfold C25 at hc
   rw[if_pos ad,if_neg O0,if_neg O2,if_pos rfl,eN] at hc;have ho:lOK (toI (Z74 es (B2 es n) n)) n:=by
    grind[obR]
   grind[B112,M24]
  .have hF:=R115 U V h
   exact az (D118 hF) fun x hx=>by obtain⟨i,hi⟩:=cH hx;exact hF.lt i x hi
  .simp
  .simp
 have an:=Z116 U V W a6 Z ad hV;have ak:=W116 (n:Int) (f:Int) J A es cap P1 p p.length W1 (toI w) w.length H7 n7 (hS.ext a9) E (ax.ext a2) (au.ext a2) av.1 (ap.ext a2) (by rw[M24];exact b3);rw[M24,an] at ak;have d0:decide ((0:Int)≠0)=false:=by decide
 have e1:decide (J=0)=acc:=by
  grind
 have b8:∀ b:Bool,(!(b==b))=false:=fun b=>by cases b<;>rfl
 refine N5 (fun L H' nx'=>L=[.bool false]/\D0 H7 n7 H' nx') ?_ ?_
 .intro j hj
  simp(disch:=try exact O3)only[W0,d0,k7,g7,C13,Y12];refine R0 ak ?_;rintro _ H8 n8 ⟨rfl,a1⟩;have g8:=(a1.gt n4).trans g7;simp(disch:=try exact O3)only[W0,g8,J72,e1,b8,Bool.cond_true];exact hj _ _ _ ⟨rfl,a1⟩
 rintro _ H8 n8 ⟨rfl,a1⟩;have k8:=(a1.gt nx).trans k7;have al:=a9.trans a1;have bc:=a1.le;simp(disch:=try exact O3)only[W0];refine B1 (m:=3) (fun m L H' nx'=>∃ i:Nat,m+i=4/\1<=i/\L=[O8 (i:Int)]/\D0 H8 n8 H' nx') ?_ ⟨1,rfl,aD _,rfl,D0.refl _ _⟩;rintro m ih L H9 n9 ⟨i,hm,bg,rfl,a7⟩ ay;have k9:=(a7.gt nx).trans k8;have Q:=al.trans a7;have bf:=a7.le
 by_cases hi:i<=3
 .have ac:(i:Int)<=3:=O0
  simp(disch:=try exact O3)only[W0,ac];refine N5 (fun L H' nx'=>L=[.bool false]/\D0 H9 n9 H' nx') ?_ ?_
  .intro j hj
   cases acc with
   | false=>
    grind[D0.refl]
   | true=>
    have ae:C25 es n f i [] l=false:=V121 V W (ao.1 rfl) O0;have hc:=W116 (n:Int) (f:Int) (i:Int) A es cap none [] 0 P l a4 H9 n9 (hS.ext Q) E (Sl.nil _ _ _) (.inl rfl) O2 (hP.ext Q) O0;rw[ae] at hc;simp(disch:=try exact O3)only[W0,k9,C13,bW]
    grind[R0]
  rintro _ b5 b4 ⟨rfl,ab⟩;simp(disch:=try exact O3)only[W0];exact ay (m-1) _ _ _ O0 ⟨i+1,O0,O0,O2,a7.trans ab⟩
 .have ac:¬ (i:Int)<=3:=O0
  simp(disch:=try exact O3)only[W0,ac]
  cases acc with
  | true=>simp_all
  | false=>
   have ae:C25 es n f 0 l []=false:=bN.2 fun h=>by
    grind[W120]
   have hc:=W116 (n:Int) (f:Int) 0 A es cap P l a4 none [] 0 H9 n9 (hS.ext Q) E (hP.ext Q) (aq.ext Q) O0 (Sl.nil _ _ _) O2;rw[ae] at hc;simp(disch:=try exact O3)only[W0,k9,C13,bP];refine R0 hc ?_;rintro _ b5 b4 ⟨rfl,ab⟩
   rfl
end Go.Proofs.YtoiioigihocgbaaGreatDoor
namespace Go.Proofs.YtoiioigihocgbaaGreatDoor.dichotomyExcludes
section
open Go.ChangeShapes Go.WideShapes Go.ChangeAt Go.RowKit Go.Joins Go.Clo
theorem lifted(os:Os)(J:os.Started)(H:Type)(enc:TypeId × Value->H):
  ReturnsInHanded {} Tryz.checked os 7 .any (fun w args=>(Rows.dichotomyExcludesSpec.pre enc gQ Tryz.f7 Rows.dichotomyExcludesRow.domain false w args/\laidMetH gQ X16 w)/\sizedMet enc gQ Tryz.f7 (gP Rows.dichotomyExcludesSpec) false w args)
   (Rows.dichotomyExcludesSpec.post enc gQ Tryz.f7 false true false false):=by
 refine returnsInHanded_of_change_and (C:=Tryz.checked) (X:=fun w _=>laidMetH gQ X16 w) (fun _ _ _ hh h=>h.of_heap hh) own J (by kernel_rfl) Tryz.func7
  (ChangeSpec.witness_shaped (enc:=enc) (C:=Tryz.checked) (os:=os) (X:=fun w _=>laidMetH gQ X16 w) false (World.laidAll gQ os X16) #[.agg #[O8 0,O6],O8 0,O6] 8 (World.laidAll_os _ _ _)
   (Q69 os) (by kernel_rfl) (by kernel_rfl) (by kernel_rfl) (met os _)) ?_
 intro W base args ds gs a0 Q hW _ _ O _;have E:∀(j:Nat) t v,Tryz.f7.params[j]? = some t->args[j]? = some v->Value.okWide gQ W .any base t v:=Q;have ae:=hW;obtain⟨p,q,a6,hV,rfl,_,_⟩:=hW;have hA:DataW.TrodAll enc gQ W 0 (fun _=>true) true Tryz.f7.params.toList args.toList ds p:=a6;have V:=hA;rw[Tryz.params7] at hA E;obtain⟨v0,ap,d0,ai,p0,q0,aa,rfl,rfl,h0,r0⟩:=trodAll_cons hA;obtain⟨v1,al,d1,ao,p1,q1,rfl,rfl,rfl,h1,r1⟩:=trodAll_cons r0;obtain⟨v2,ah,d2,an,p2,q2,rfl,rfl,rfl,h2,r2⟩:=trodAll_cons r1;obtain⟨rfl,rfl,rfl⟩:=trodAll_nil r2;obtain rfl:args = #[v0,v1,v2]:=by cases args;simp_all
 obtain⟨rfl,rfl⟩:=trodVars_none hV;obtain⟨N,A,len,cap,n0,y0,rfl,_,U,a5⟩:=V55 (E 0 24 v0 rfl rfl) h0;obtain⟨free,rfl,rfl,rfl,_⟩:=open_int Tryz.underlying3 (E 1 3 v1 rfl rfl) h1;obtain⟨F1,H1,aq,A',es,a4,ag,a1,a8,hS,ak,hH⟩:=E52 (In.start W (B48 O)) U a5;obtain⟨P,np,pc,rfl⟩:=okWide_slice Tryz.underlying27 (E 2 27 v2 rfl rfl);obtain⟨a7,a9⟩:=h2;obtain⟨F2,H2,nx2,P',l,ab,Z,ac,aj,hP,ad,a2⟩:=B64 a4 (D51 Tryz.underlying27 (E 2 27 _ rfl rfl)) a9;have a3:VL F2 [gv N A' es.length cap,O8 free,.slice P' l.length pc] [.agg #[O8 N,.slice A len cap],O8 free,.slice P np pc]:=
  .cons (VR.agg' (.cons (.int _ _) (.cons (a1.mono Z) .nil))) (.cons (.int _ _) (.cons ac .nil))
 refine(Y46 (law7 N free A' es cap P' l pc H2 nx2 (hS.ext ad) hP a2 a8) (fun _ _ _ h=>h) ab a3).mono fun e W' ⟨he,hb⟩ => ?_
 subst he;refine⟨_,rfl,D64 ae rfl rfl rfl rfl (by kernel_rfl) ?_ hb V fun x hx=>dX _ hx⟩;rw[Tryz.params7];intro t ht;simp only[aU,List.not_mem_nil,or_false] at ht;rcases ht with rfl | rfl | rfl<;>exact⟨by kernel_rfl,of_decide_eq_true (by kernel_rfl)⟩
theorem over:Rows.dichotomyExcludesRow.holds Tryz.pinned (gP Rows.dichotomyExcludesSpec):=
 OpenClaim.holds_of_wide 7 Tryz.f7 rfl rfl rfl rfl rfl rfl rfl ⟨rfl,rfl,rfl,rfl,rfl⟩ rfl rfl rfl rfl rfl (by kernel_rfl) Tryz.func7 (by kernel_rfl)
  (of_decide_eq_true (by kernel_rfl)) (by unfold Func.isWrapper;first | (rw[if_pos (by decide +kernel)];kernel_rfl) | (rw[if_neg (by decide +kernel)];exact⟨rfl,rfl⟩))
  (fun os E H enc _=>lifted os E H enc)
theorem proved:Rows.DichotomyExcludesCardSaid:=
 Claim7.holds_tied_plain_at .later [] [.data] true (true, "c5ae0ebca12fb395c0a3b7aa4c544d07c055311973735efb38106f23dc425963") false over (fun _ h => by cases h) (by kernel_rfl) (fun _ h => by cases h) dichotomyExcludes_row_tie rfl ⟨rfl, rfl⟩ (by kernel_rfl) rfl
  (fun f fn hf J=>by
   obtain rfl:f=7:=fA ((show gQ.funcNamed Rows.dichotomyExcludesRow.func=some 7 by kernel_rfl).symm.trans hf) |>.symm;obtain rfl:fn=Tryz.f7:=(fA (Tryz.func7.symm.trans J)).symm;exact⟨by kernel_rfl,fun j t ht=>by
    rw[Tryz.params7] at ht;have hm:t ∈ [24,3,27]:=by simpa using Array.mem_of_getElem? ht
    have E:([24,3,27].all fun u => !gQ.wantsStandIn u)=true:=by kernel_rfl
    exact (show gQ.wantsStandIn t=false by simpa using iE.1 E t hm)⟩)
  (by kernel_rfl)
end
end Go.Proofs.YtoiioigihocgbaaGreatDoor.dichotomyExcludes
