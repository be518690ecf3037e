/-
  A range over a function whose yields are known one by one: round k gets the values enc k;what holds ahead of round k is I k.
  slices.Backward over numbers,in general.
  Contract: connex.walk.
  'awake' of chapter 33 returns true: one run of the closed executor,which takes connex.walk's answer from its contract.
  The arguments of the law,opened;the listed table.
  A graph as an argument,opened.
  Contracts: connex.below,connex.shortest.
  Contract: connex.Path.
  Contracts: trio.valid,visit,Find.
  Contracts: ordinallaw33.Few,ref.Same,slices.Clone,covered,wrong,checkInput.
  Contracts: dichotomy.checkInput,Decide.
  Contract: dichotomy.Nearest.
-/
import Derived.RangeFuncBox
import Derived.RangeFuncLeaves
import Derived.RangeFuncWrites
import Derived.RangeFuncCalls
import Derived.Shelf.Abstract
import Derived.WalkKit
import Derived.OwnWalkIn
import Derived.TacticsInMore
import Derived.LoopNIn
import Derived.LoopIn
import Derived.Maps.AppendAt
import Derived.Test.YtoiioigihocgbaaGreatDoorO16
import Derived.Test.YtoiioigihocgbaaGreatDoorRows
import Derived.ProofKit
import Derived.OpenShut
import Derived.Lib.SmallJoins
import Derived.Deep.Strs
import Derived.SizedLaws
import Derived.LaidMore
import Derived.Lay
import Derived.Stop.Joined
import Derived.Test.YtoiioigihocgbaaGreatDoorO17
set_option maxHeartbeats 8000000
set_option maxRecDepth 100000
set_option linter.all false
noncomputable section
open Array renaming getElem?_eq_none->fK
open BitVec renaming ofInt->cT,toNat_ofNat->eP
open Bool renaming and_eq_true->aG,eq_false_iff->bN
open Classical renaming byContradiction->aI
open Go.IntKind renaming bits->dW,signed->eK,u32->eW,wrap->eY
open Go.Value renaming bool->dU,int->cD
open Go.World renaming putObj_heap_other->gF
open List renaming all_eq_true->bW,any_eq_true->dY,cons_append->dL,getD_eq_getElem?_getD->aP,getElem?_eq_getElem->aE,getElem?_eq_none->aT,getElem?_eq_some_iff->aJ,getElem?_map->cP,getElem?_set_ne->bL,getElem?_set_self->dG,length_cons->cV,length_set->dO,mem_of_getElem?->aH,mem_range->cW,mem_singleton->dJ,nil_append->eR,range->aY,replicate->aF,take_of_length_le->gJ
open List.cons renaming injEq->fM
open Nat renaming beq->bR,eq_of_beq_eq_true->bT,eq_of_testBit_eq->bZ,le_refl->aD,le_trans->bK,lt_of_le_of_lt->cE,lt_or_ge->aW,mod_eq_of_lt->bV,mul_one->eQ,pow_le_pow_right->aK,testBit_and->bI,testBit_two_pow->aR,testBit_two_pow_sub_one->dC,two_pow_pos->aQ,zero_add->cF,zero_testBit->cN
open Option renaming isSome_none->gO,map_eq_some_iff->bU
open Option.some renaming inj->fA,injEq->aZ
namespace Go.Clo
section
open Go.RowKit
theorem E32 {P:Program} {F:Fence} {n:Nat} {g:Operand} {ps:Array Tmp} {assign body:Code} {Q:Exit->Act->World->Prop} {a:Act} {w:World} (hro:F.round=none) (h1:1<=n) {gf:Nat} {lb:Array Value}
  (hg:a.eval g = .func (.func gf) #[] lb) (hFg:F.fn gf) (eg:∀ args w,(callFunc gf args).run P w = .ok (.enter gf args) w)
  {N:Nat} {enc:Nat->Array Value} (hps:∀ k,(enc k).size=ps.size) (I:Nat->World->Prop) (hI:OwnFrom w.heap.size I)
  (hgen:∀ (l:Nat) (J:Nat->World->Prop) (W:World),(∀ k W,J k W->I k W) ->
   (∀ k W1,k<N->J k W1->YieldAt F (n-1-1) P l (enc k) W1 fun e W'=>e = .returned (.bool true)/\J (k+1) W')->J 0 W ->
   CallsIn F (n-1) P gf (#[.func (.yield l) #[] #[]]++lb) W fun e W'=>(∃ v,e = .returned v)/\J N W')
  (h0:I 0 w) (a₁:Nat->Act)
  (hassign:∀ (l k:Nat) (W:World) (K:Act->World->Prop),K (a₁ k) W ->
   assign.wpIn (F.inRound l) (n-1-1) P (Exit.then K (fun _ _ _=>False)) { tmps:=(ps.zip (enc k)).foldl (fun t (p,v)=>t.setIfInBounds p v) a.tmps,defers:=[] } W)
  (hbody:∀ (l k:Nat) (W:World),k<N->I k W->body.wpIn (F.inRound l) (n-1-1) P (fun e _ W'=>e = .normal/\KeepsFrom w.heap.size W W'/\I (k+1) W') (a₁ k) W)
  (hdone:∀ (D:Nat) (W:World),w.heap.size<=D->I N W->W.heap[D]? = some (.deferred (some []))->Q .normal { a with defers:={ target := .collected D,args := #[] } :: a.defers } W):
  (Code.rangeFunc g ps assign body).wpIn F n P Q a w:=by
 refine wpIn_rangeFunc fun fn hfn => ?_
 rw[hro]
 let L (st:LoopState):Obj := .loop { state:=st,pending:=none,fn,tmps:=a.tmps,params:=ps,assign,body,defers:=w.heap.size }
 let l:=w.heap.size+1
 let D:=w.heap.size
 have hA:(w.alloc (.deferred (some []))).heap.size=l:=by simp[l]
 have e1:((w.alloc (.deferred (some []))).alloc (L .ready)).heap[l]? = some (L .ready):=by
  have:=World.alloc_heap_new (w.alloc (.deferred (some []))) (L .ready)
  rwa [hA] at this
 have e2:((w.alloc (.deferred (some []))).alloc (L .ready)).heap[D]? = some (.deferred (some [])):=
  (Below.heap_alloc _ _ _ (by simp[D])).trans (World.alloc_heap_new w _)
 refine⟨l,[{ target := .collected D,args := #[] }],((w.alloc (.deferred (some []))).alloc (L .ready)),{ target := .fn (.func gf) lb,args := #[.func (.yield l) #[] #[]] },((w.alloc (.deferred (some []))).alloc (L .ready)),gf,#[.func (.yield l) #[] #[]]++lb,((w.alloc (.deferred (some []))).alloc (L .ready)),run_enterLoop_outer _ _ _ _ _,?_,?_,?_,fun _=>h1,?_⟩
 .simp only[resolve,hg]
  simp[go_sem]
 .intro f' hf'
  simp[Target.leads] at hf'
  subst hf'
  exact hFg
 .simp[invoke,go_sem,eg]
 .refine (hgen l (fun k W=>I k W/\W.heap[l]? = some (L .ready)/\W.heap[D]? = some (.deferred (some []))) _ (fun k W h=>h.1) ?_ ⟨hI.alloc _ (hI.alloc _ h0),e1,e2⟩).mono ?_
  .rintro k W hk ⟨hi,hl,hd⟩
   have hlt:l<W.heap.size:=(Array.getElem?_eq_some_iff.1 hl).1
   have hne:D≠l:=by simp[D,l]
   refine⟨fn,_,assign,body,run_yield (P:=P) (args:=enc k) hl (hps k),roundIn_of_wpIn hfn (hassign _ k W _ ⟨_,run_beginRound hl rfl,?_⟩)⟩
   have g1:(W.putObj l (L .busy)).heap[l]? = some (L .busy):=World.putObj_heap_same hlt
   have g2:(W.putObj l (L .busy)).heap[D]? = some (.deferred (some [])):=(World.putObj_heap_other hne).trans hd
   refine wpIn_mono (hbody _ k _ hk (hI.putObj _ hi (by simp[l]) hl rfl)) ?_
   rintro e a3 W3 ⟨rfl,hkeep,hi3⟩
   have k1:=hkeep.same _ _ (by simp[l]) g1 rfl
   have k2:=hkeep.same _ _ (Nat.le_refl _) g2 rfl
   refine⟨_,_,run_endRound (P:=P) none k1,rfl,hI.putObj _ hi3 (by simp[l]) k1 rfl,World.putObj_heap_same (Array.getElem?_eq_some_iff.1 k1).1,(World.putObj_heap_other hne).trans k2⟩
  .rintro e W2 ⟨⟨v,rfl⟩,hi,hl,hd⟩
   exact⟨none,_,run_endLoop (P:=P) hl (by simp),hdone _ _ (Nat.le_refl _) (hI.putObj _ hi (by simp[l]) hl rfl) ((World.putObj_heap_other (by simp[D,l])).trans hd)⟩
end
end Go.Clo
namespace Go.Proofs.YtoiioigihocgbaaGreatDoor
section
open Go.RowKit Go.Shelf Go.Clo
attribute [local go_sem] Oper.semAt_some
theorem V49(F:Fence)(n:Nat)(h7:F.fn 93)(a1:F.round=none)(hn:1<=n)(l Bs Bo b off cap len:Nat)(st:Nat->Nat)(a4:len<=100)(J:Nat->World->Prop)
  (hJ:∀ k W,J k W->W.cell? ⟨Bs,Bo,none⟩=some (.slice (some ⟨b,off,none⟩) len cap)/\∀ i,i<len->W.cell? ⟨b,off+i,none⟩=some (.int .u32 (st i:Int)))
  (hY:∀ k W1,k<len->J k W1->YieldAt F (n-1) Tryz.prog l #[.int .i64 ((len-1-k:Nat):Int),.int .u32 (st (len-1-k):Int)] W1 fun e W'=>e = .returned (.bool true)/\J (k+1) W')(W:World)(h0:J 0 W):
  CallsIn F n Tryz.prog 93 #[.func (.yield l) #[] #[],.pointer (some ⟨Bs,Bo,none⟩)] W fun e W'=>(∃ v,e = .returned v)/\J len W':=by
 refine callsIn_of_wp Tryz.func93 rfl h7 ?_ a1;simp only[Tryz.ntmps93,List.size_toArray,cV,List.length_nil,Nat.reduceAdd,Nat.reduceSub,Array.replicate_succ,Array.replicate_zero,List.push_toArray,List.append_toArray,eR,dL];obtain⟨a7,a5⟩:=hJ 0 W h0;have U:IntKind.i64.wrap ((len:Int)-1)=(len:Int)-1:=Y23 (by omega) (by omega)
 gi_wp2
 gi_loopw [3] (fun i wr=>∃ k:Nat,k<=len/\i = .int .i64 ((len:Int)-1-(k:Int))/\J k wr)
  (fun i _=>(intOf i+1).toNat)
 case atStart=>exact⟨0,by omega,by first | (simp[]) | skip,h0⟩
 case round=>
  obtain⟨k,hk,rfl,O⟩:=hrel;obtain⟨a3,V⟩:=hJ k wr O
  by_cases a0:k<len
  .obtain⟨fn,tmps,E,body,Q,hR⟩:=hY k wr a0 O
   obtain⟨j,hj⟩:∃ j:Nat,j=len-1-k:=⟨_,rfl⟩
   have ej:(len:Int)-1-(k:Int)=(j:Int):=by omega
   have Z:j<len:=by omega
   rw[<- hj] at Q;rw[ej];have hy:Sem.run Tryz.prog (Instr.yield l #[cD IntKind.i64 (j:Int),cD eW (st j:Int)]) wr=Result.ok (Next.round l fn tmps E body) wr:=Q;have a8:=V j Z;have a6:(j:Int) ≥ 0:=by omega
   have a9:j+k+1=len:=by omega
   clear hj ej
   gi_wp2
   refine hR.mono ?_;rintro e W3 ⟨rfl,a2⟩
   gi_wp2
   go_roundw
   case rel=>exact⟨k+1,by omega,by simp;omega,a2⟩
   case measure=>simp[intOf]
  .obtain rfl:k=len:=by omega
   have e1:(k:Int)-1-(k:Int) = -1:=by omega
   rw[e1]
   gi_wp2
   go_end0
   exact⟨⟨_,rfl⟩,O⟩
end
end Go.Proofs.YtoiioigihocgbaaGreatDoor
namespace Go.Clo
theorem J54(aL:List Nat)(inn last len first k:Nat):(aY (k+1+1)).map (fun i=>cD .i64 (Q7 aL inn last len first i:Int))=(aY (k+1)).map (fun i=>cD .i64 (Q7 aL inn last len first i:Int))++[.int .i64 (Q7 aL inn last len first (k+1):Int)]:=by
 rw[List.range_succ (n:=k+1),List.map_append];rfl
end Go.Clo
namespace Go.Proofs.YtoiioigihocgbaaGreatDoor
section
open Go.RowKit Go.Shelf Go.Clo
attribute [local go_sem] Oper.semAt_some
theorem Y59(F:Fence)(n:Nat)(h:F.fn 72)(E:F.round=none)(A:Option Addr)(m c:Nat)(w:World):CallsIn F n Tryz.prog 72 #[.slice A m c] w fun e w'=>e = .returned (.func (.func 93) #[] #[.pointer (some ⟨w.heap.size,0,none⟩)])/\w'=w.alloc (.cells #[.slice A m c] 22):=by
 refine callsIn_of_wp Tryz.func72 rfl h ?_ E;simp only[Tryz.ntmps72,List.size_toArray,cV,List.length_nil,Nat.reduceAdd,Nat.reduceSub,Array.replicate_succ,Array.replicate_zero,List.push_toArray,List.append_toArray,eR,dL]
 gi_wp2
 go_ret
 exact⟨rfl,rfl⟩
theorem B70:(Tryz.prog.info? 3).map (fun i=>(i.zero,i.size,i.bytes))=some (some (.int .i64 0),1,8):=by kernel_rfl
def W6(aL:List Nat)(inn last len first k:Nat):List Value:=(aY k).map fun i => .int .i64 (Q7 aL inn last len first i:Int)
theorem C62{a b:Nat}(ha:a<4294967296)(hb:b<4294967296):bits .and .u32 (a:Int) (b:Int)=((a &&& b:Nat):Int):=by
 have e:bits .and .u32 (a:Int) (b:Int)=eW.wrap (((cT 32 (a:Int)) &&& (cT 32 (b:Int))).toNat:Int):=rfl;rw[e,W10,W10,BitVec.toNat_and,eP,eP,bV ha,bV hb,D15 (D52 ha)]
theorem E33 {aL:List Nat} {N:Nat} (hN:N<=6) (hL:NbL aL N) (hsym:∀ u w,(aL.getD u 0).testBit w=true->(aL.getD w 0).testBit u=true) {inn last first len:Nat} (hi:inn<2^N) (hla:last<2^N) (hf:first<N) (h1:1<=len) (hlen:len<=100)
  (hst:U5 aL inn last (len-1) &&& aL.getD first 0≠0) (w:World) (hg:GlW w):
  Calls Tryz.prog 37 (Z8 aL inn first last len).toArray w fun e W'=>∃ v,e = .returned v/\W'.ownsRow w.heap.size 3 1 v (len+1) (W6 aL inn last len first (len+1))/\Below w.heap.size w W':=by
 have hp64:2^N<=64:=Nat.pow_le_pow_right (n:=2) (by omega) hN
 have hcur:=J58 (aL:=aL) (inn:=inn) (last:=last) (N:=N) hN hL.lt hsym hi hla hf hst
 have hf100:first<100:=by omega
 refine callsIn_wide.1 (callsIn_of_wp_marks (n:=5) Tryz.func37 rfl trivial ?_ rfl)
 refine V64 hN hL hi hla hf100 h1 hlen w hg _ _ ?_
 rintro⟨tmps,defers⟩ w' B0 o0 S os cs hd hsz h2 h5 h11 cA cS hgl hbe hB hS
 dsimp only at hd hsz h2 h5 h11
 subst hd
 obtain⟨x0,x1,x2,x3,x4,x5,x6,x7,x8,x9,x10,x11,x12,x13,x14,x15,x16,x17,x18,x19,x20,x21,x22,x23,x24,x25,x26,x27,x28,x29,x30,x31,x32,x33,x34,x35,x36,x37,x38,x39,x40,x41,x42,x43,x44,x45,x46,x47,x48,x49,x50,x51,x52,x53,x54,x55,x56,x57,rfl⟩:=R70 tmps hsz
 have h2':x2 = .int .i64 (first:Int):=h2
 have h5':x5 = .pointer (some ⟨B0,o0,none⟩):=h5
 have h11':x11 = .slice (some ⟨S,os,none⟩) len cs:=h11
 subst h2' h5' h11'
 clear h2 h5 h11 hsz
 obtain⟨i0,hi0,hz0,hz1,hz2⟩:=info_parts B70
 have hmax:(1000:Nat)<=maxLen:=by decide
 gi_wp2
 refine⟨trivial,(Y59 Fence.wide 4 trivial rfl _ _ _ _).mono ?_⟩
 rintro e w'' ⟨rfl,rfl⟩
 gi_wp2
 have bO:Boxed (((w'.alloc (.cells #[.int .i64 (first:Int)] 3)).alloc (.cells #[.slice (some ⟨w'.heap.size,0,none⟩) 1 1] 27)).alloc (.cells #[.slice (some ⟨S,os,none⟩) len cs] 22)) (w'.heap.size+1) 27 (.slice (some ⟨w'.heap.size,0,none⟩) 1 1):=by
  have:=(Boxed.new (w'.alloc (.cells #[.int .i64 (first:Int)] 3)) 27 (.slice (some ⟨w'.heap.size,0,none⟩) 1 1)).alloc (.cells #[.slice (some ⟨S,os,none⟩) len cs] 22)
  simpa using this
 have bC:Boxed (((w'.alloc (.cells #[.int .i64 (first:Int)] 3)).alloc (.cells #[.slice (some ⟨w'.heap.size,0,none⟩) 1 1] 27)).alloc (.cells #[.slice (some ⟨S,os,none⟩) len cs] 22)) (w'.heap.size+2) 22 (.slice (some ⟨S,os,none⟩) len cs):=by
  have:=Boxed.new ((w'.alloc (.cells #[.int .i64 (first:Int)] 3)).alloc (.cells #[.slice (some ⟨w'.heap.size,0,none⟩) 1 1] 27)) 22 (.slice (some ⟨S,os,none⟩) len cs)
  simpa using this
 have row0:World.ownsRow (((w'.alloc (.cells #[.int .i64 (first:Int)] 3)).alloc (.cells #[.slice (some ⟨w'.heap.size,0,none⟩) 1 1] 27)).alloc (.cells #[.slice (some ⟨S,os,none⟩) len cs] 22)) w'.heap.size 3 1 (.slice (some ⟨w'.heap.size,0,none⟩) 1 1) 1 [.int .i64 (first:Int)]:=
  ((World.ownsRow_lit (base:=w'.heap.size) (e:=3) (size:=1) w' #[.int .i64 (first:Int)] 1 (Nat.le_refl _) (by decide) rfl).alloc _).alloc _
 have be0:Below w'.heap.size w' (((w'.alloc (.cells #[.int .i64 (first:Int)] 3)).alloc (.cells #[.slice (some ⟨w'.heap.size,0,none⟩) 1 1] 27)).alloc (.cells #[.slice (some ⟨S,os,none⟩) len cs] 22)):=
  (((Below.refl _ w').alloc (Nat.le_refl _) _).alloc (by simp) _).alloc (by simp;omega) _
 have hsz:(((w'.alloc (.cells #[.int .i64 (first:Int)] 3)).alloc (.cells #[.slice (some ⟨w'.heap.size,0,none⟩) 1 1] 27)).alloc (.cells #[.slice (some ⟨S,os,none⟩) len cs] 22)).heap.size=w'.heap.size+3:=by simp
 have step:∀ (k:Nat) (W w1:World) (v v':Value) (tmp:Obj),Boxed W (w'.heap.size+1) 27 v->W.ownsRow w'.heap.size 3 1 v (k+1) (W6 aL inn last len first (k+1))->Boxed W (w'.heap.size+2) 22 (.slice (some ⟨S,os,none⟩) len cs)->Below w'.heap.size w' W ->
   w1.ownsRow w'.heap.size 3 1 v' (k+1+1) (W6 aL inn last len first (k+1+1))->(W.alloc tmp).grownBy w1 v.ownBlock ->
   KeepsFrom (w'.heap.size+3) W (w1.setCell ⟨w'.heap.size+1,0,none⟩ v')/\(∃ v,Boxed (w1.setCell ⟨w'.heap.size+1,0,none⟩ v') (w'.heap.size+1) 27 v/\(w1.setCell ⟨w'.heap.size+1,0,none⟩ v').ownsRow w'.heap.size 3 1 v (k+1+1) (W6 aL inn last len first (k+1+1))/\True)/\Boxed (w1.setCell ⟨w'.heap.size+1,0,none⟩ v') (w'.heap.size+2) 22 (.slice (some ⟨S,os,none⟩) len cs)/\Below w'.heap.size w' (w1.setCell ⟨w'.heap.size+1,0,none⟩ v')/\Boxed w1 (w'.heap.size+1) 27 v:=by
  intro k W w1 v v' tmp hv hrow hC hB hown' hgrow
  obtain⟨hv1,hv2,hr2,hk2,hb2⟩:=hv.appended (by decide) hrow hB.size (by omega) hown' hgrow
  refine⟨hk2.from _,⟨_,hv2,hr2,trivial⟩,?_,hB.trans hb2,hv1⟩
  exact ((hC.alloc tmp).kept hgrow (hC.not_row (by decide) hrow)).kept (grownBy_setCell' w1 (w'.heap.size+1) v') (by simp)
 refine E32 (N:=len) (enc:=fun k => #[.int .i64 ((len-1-k:Nat):Int),.int .u32 (U5 aL inn last (len-1-k):Int)]) rfl (by omega) (gf:=93) (lb := #[.pointer (some ⟨w'.heap.size+2,0,none⟩)]) rfl trivial (enters_of Tryz.func93 (by kernel_rfl) rfl) (fun _=>rfl)
  (fun k W=>(∃ v,Boxed W (w'.heap.size+1) 27 v/\W.ownsRow w'.heap.size 3 1 v (k+1) (W6 aL inn last len first (k+1))/\True)/\Boxed W (w'.heap.size+2) 22 (.slice (some ⟨S,os,none⟩) len cs)/\Below w'.heap.size w' W)
  (OwnFrom.and (Own.from (holdsRow_own w'.heap.size (w'.heap.size+1) 27 3 1 (fun k=>k+1) (fun k=>W6 aL inn last len first (k+1)) (fun _ _=>True)) _) (OwnFrom.and ?ownC (ownFrom_below (Nat.le_refl _) (by rw[hsz];omega))))
  ?gen ⟨⟨_,bO,row0,trivial⟩,bC,be0⟩ (fun k=>{ tmps := #[x0,x1,.int .i64 (first:Int),x3,x4,.pointer (some ⟨B0,o0,none⟩),x6,x7,x8,x9,x10,.slice (some ⟨S,os,none⟩) len cs,.pointer (some ⟨w'.heap.size+1,0,none⟩),x13,.int .u32 (U5 aL inn last (len-1-k):Int),x15,x16,x17,x18,x19,x20,x21,x22,x23,x24,x25,x26,x27,x28,x29,x30,x31,x32,x33,x34,x35,.int .i64 (first:Int),.slice (some ⟨w'.heap.size,0,none⟩) 1 1,.slice (some ⟨S,os,none⟩) len cs,.func (.func 93) #[] #[.pointer (some ⟨w'.heap.size+2,0,none⟩)],.int .i64 ((len-1-k:Nat):Int),.int .u32 (U5 aL inn last (len-1-k):Int),x42,x43,x44,x45,x46,x47,x48,x49,x50,x51,x52,x53,x54,x55,x56,x57],defers:=[] }) ?assign ?body ?done
 case ownC=>
  intro s W W' row h hgr hr
  refine Boxed.kept h hgr fun e => ?_
  obtain⟨_,o,ho,hc⟩:=hr _ e.symm
  rw[show W.heap[_]? = _ from h] at ho
  cases ho
  cases hc
 case gen=>
  intro l J W hJ hY h0
  exact V49 Fence.wide 4 trivial rfl (by omega) l (w'.heap.size+2) 0 S os cs len (U5 aL inn last) hlen J (fun k W hj=>by
   obtain⟨_,hC,hB'⟩:=hJ k W hj
   exact⟨hC.cell,fun i hi=>(hB'.cell (p:=⟨S,os+i,none⟩) hS).trans (cS i hi)⟩) hY W h0
 case assign=>
  intro l k W K hK
  gi_wp2
  exact hK
 case body=>
  rintro l k W hk ⟨⟨v,hv,hrow,_⟩,hC,hB'⟩
  have gW:GlW W:=hgl.step fun x hx=>hB'.block _ (hgl x hx).1
  obtain⟨hck,hcne⟩:=hcur k hk
  obtain⟨x,gx,gx2,gxD⟩:=hL.at (u:=Q7 aL inn last len first k) (by omega)
  have nx:W.cell? ⟨B0,o0+Q7 aL inn last len first k,none⟩=some (.int .u32 (x:Int)):=(hB'.cell (p:=⟨B0,o0+Q7 aL inn last len first k,none⟩) hB).trans (cA _ _ gx)
  obtain⟨g,cap,rfl⟩:=ownsRow_succ hrow
  have hc:=hv.cell
  have hsW:=hB'.size
  have pk:W.cell? ⟨g,k,none⟩=some (.int .i64 (Q7 aL inn last len first k:Int)):=by
   have:=hrow.cellAt k (by simp[])
   simpa [W6] using this
  have hsl:=R42 (aL:=aL) hi hla (len-1-k)
  have hnext:Q7 aL inn last len first (k+1)=tz (U5 aL inn last (len-1-k) &&& x):=by rw[Q7,gxD]
  rw[gxD] at hcne
  have hband:=C62 (a:=U5 aL inn last (len-1-k)) (b:=x) (by omega) (by omega)
  generalize hs:U5 aL inn last (len-1-k)=s at *
  generalize hcu:Q7 aL inn last len first k=c at *
  have hx64:s &&& x<64:=by have:=W37 (b:=x) hsl;omega
  have htz:deB[tzi (s &&& x)]? = some (tz (s &&& x)):=G58 _ hx64 (by omega)
  have htz32:tz (s &&& x)<32:=by have:=(N43 (s &&& x) hx64 (by omega)).2;omega
  have ek:IntKind.i64.wrap (((k+1:Nat):Int)-1)=(k:Int):=by rw[Y23 (by omega) (by omega)];omega
  have ek2:((k+1:Nat):Int)-1=(k:Int):=by omega
  have c32:c<32:=by omega
  gi_wp2
  have hpn:W6 aL inn last len first (k+1+1)=W6 aL inn last len first (k+1)++[.int .i64 (tz (s &&& x):Int)]:=by
   unfold W6
   rw[J54,hnext]
  generalize tz (s &&& x)=tx at *
  refine⟨trivial,(CallsIn.inRound l (E70 (by omega) hx64 Fence.wide _ trivial rfl W tx (N65 gW htz) htz32)).mono ?_⟩
  rintro e W2 ⟨rfl,e2⟩
  rw[e2]
  gi_wp2_with (gi_at_builtin;refine wpListIn_append_own _ rfl _ _ 27 rfl w'.heap.size 3 i0 (.int .i64 0) 1 8 Tryz.underlying27 hi0 hz0 hz1 hz2 rfl (by decide) _ _ _ rfl (hrow.alloc _) ⟨W.heap.size,0,none⟩ 1 1 [.int .i64 (tx:Int)] rfl rfl (cell_one_new _ _ _) (by simp[Value.oneCell']) (by omega) (by omega) (by simp;omega) ?_;intro v' w1 hown0 hgrow _;have hown':w1.ownsRow w'.heap.size 3 1 v' (k+1+1) (W6 aL inn last len first (k+1+1)):=(by rw[hpn];exact hown0);obtain⟨g',cap',rfl⟩:=ownsRow_succ hown';obtain⟨q1,q2,q3,q4,q5⟩:=step k W w1 _ _ _ hv hrow hC hB' hown' hgrow;have hc1:=q5.cell;have hf1:=q5.frozen)
  obtain⟨v2,z1,z2,_⟩:=q2
  rw[hpn] at z2
  exact⟨v2,z1,z2⟩
 case done=>
  rintro D W hD ⟨⟨v,hv,hrow,_⟩,hC,hB'⟩ hK
  have hc:=hv.cell
  gi_wp2
  refine⟨by simp,.inl ⟨_,_,rfl,run_takeDeferred hK,?_⟩⟩
  have hr:=ownsRow_putObj hrow (.deferred none) hK rfl
  refine⟨_,results_tmp rfl _ _ _,v,rfl,⟨hr.1,hr.2.imp id fun⟨g,cap,cur,e,hb,rest⟩=>⟨g,cap,cur,e,Nat.le_trans hbe.size hb,rest⟩⟩,hbe.trans ((hB'.trans (belowK_b (w:=w') (Nat.le_refl _) W D _ _ (by rw[hsz] at hD;omega) hK rfl rfl)).mono hbe.size)⟩
theorem N40:∀ l:List Int,(U4 l).all M4=true
 | []=>rfl
 | x :: l=>N40 l
theorem C29:Go.Clo.Enters Tryz.prog 37:=⟨_,_,Tryz.func37,rfl,by kernel_rfl⟩
theorem U40{F:FM}{aL:List Nat}{inn first last len:Nat}{E:List Value}(h:VL F (Z8 aL inn first last len) E):E=Z8 aL inn first last len:=by
 cases h with
 | cons h0 h=>
 cases h with
 | cons h1 h=>
 cases h with
 | cons h2 h=>
 cases h with
 | cons h3 h=>
 cases h with
 | cons h4 h=>
 cases h
 cases h1;cases h2;cases h3;cases h4
 obtain⟨x',rfl,hx⟩:=h0.agg_inv;have:=J19 hx (J25 aL);obtain⟨l⟩:=x';simp only at this;subst this
 rfl
theorem C38(aL:List Nat)(inn last len first k:Nat):W6 aL inn last len first k=U4 (((aY k).map (Q7 aL inn last len first)).map fun(x:Nat)=>(x:Int)):=by
 unfold W6 U4;rw[List.map_map,List.map_map];rfl
theorem E64{aL:List Nat}{N:Nat}(hN:N<=6)(hL:NbL aL N)(U:∀ u w,(aL.getD u 0).testBit w=true->(aL.getD w 0).testBit u=true){inn last first len:Nat}(hi:inn<2^N)(W:last<2^N)(hf:first<N)(h1:1<=len)(V:len<=100)
  (E:U5 aL inn last (len-1) &&& aL.getD first 0≠0)(H:Y0)(nx:Nat):
  Q2 Tryz.prog 37 (Z8 aL inn first last len) H nx fun r H' nx'=>LsR ((aY (len+1)).map (Q7 aL inn last len first)) r H' nx'/\D0 H nx H' nx':=by
 have Q:(W6 aL inn last len first (len+1)).length=len+1:=by simp[W6]
 have hE:D0 H nx (Go.Clo.hs H nx (some (.cells (W6 aL inn last len first (len+1)) 1))) (nx+1):=(D0.refl H nx).new _ (aD _) (by omega);refine⟨.slice (some ⟨nx,0,none⟩) (len+1) (len+1),Go.Clo.hs H nx (some (.cells (W6 aL inn last len first (len+1)) 1)),nx+1,⟨C29,fun F Z w hh hl => ?_⟩,⟨⟨some ⟨nx,0,none⟩,by simp,⟨fun h=>(by cases h),fun h=>(by have:=congrArg List.length h;simp at this)⟩,?_⟩,hE⟩⟩
 .have ea:=U40 hl
  subst ea;refine(E33 hN hL U hi W hf h1 V E w hh.gl.1).mono fun e w' ⟨v,he,J,hb⟩ => ?_
  rcases J.2 with ⟨_,h0⟩ | ⟨g,cp,a1,rfl,hg,hc,h1,a0,h3,h4⟩
  .omega
  .obtain⟨F',O,E⟩:=N2.row (xs:=W6 aL inn last len first (len+1)) hh hb hg hc (by rw[Q];exact h1) (by simpa using h3) (by simpa [W6] using h4) (bK a0 (by decide)) (by rw[C38];exact N40 _)
   rw[Q] at O;exact⟨_,F',he,O,E⟩
 .intro i u hu
  refine⟨nx,0,W6 aL inn last len first (len+1),rfl,by omega,by rw[Q5,Z11];rfl,?_⟩;rw[cF,C38];exact hu
end
section
open Go.RowKit Go.Shelf Go.Clo
def nbL:List Nat:=[4,4,3,0,0,0,0,0,0,0,0,0,0,0,0,0,0,0,0,0,0,0,0,0,0,0,0,0,0,0,0,0]
def V23(k:IntKind)(n:Nat):Value->Bool
 | .int k' (.ofNat m)=>eqK k k'&&bR m n
 | _=>false
theorem D62{a b:IntKind}(h:eqK a b=true):a=b:=by cases a<;>cases b<;>first | rfl | cases h
theorem C19{k:IntKind}{n:Nat}:∀ {v:Value},V23 k n v=true->v = .int k (n:Int)
 | .int k' (.ofNat m),h=>by
  simp only[V23,aG] at h;rw[<- D62 h.1,bT h.2];rfl
def R35(k:IntKind):List Nat->List Value->Bool
 | [],[]=>true
 | n :: ns,v :: vs=>V23 k n v&&R35 k ns vs
 | _,_=>false
theorem B40{k:IntKind}:∀ {ns:List Nat} {vs:List Value},R35 k ns vs=true->vs=ns.map fun(n:Nat)=>cD k (n:Int)
 | [],[],_=>rfl
 | n :: ns,v :: vs,h=>by
  simp only[R35,aG] at h;rw[List.map_cons,C19 h.1,<- B40 h.2]
def K33:List Value->Bool
 | [.agg ⟨l⟩,a,b,c,d]=>R35 .u32 nbL l&&(V23 .u32 4 a&&(V23 .i64 0 b&&(V23 .u32 2 c&&V23 .i64 2 d)))
 | _=>false
theorem Q56:∀{args:List Value},K33 args=true->args=Z8 nbL 4 0 2 2
 | [.agg ⟨l⟩,a,b,c,d],h=>by
  simp only[K33,aG] at h;obtain⟨h1,h2,h3,h4,h5⟩:=h;rw[B40 h1,C19 h2,C19 h3,C19 h4,C19 h5];rfl
def C35:List Value:=[.int .i64 0,.int .i64 2,.int .i64 1]
def U65(args:List Value)(H:Y0)(nx:Nat):Option (Value × Y0 × Nat):=
 cond (K33 args) (some (.slice (some ⟨nx,0,none⟩) 3 3,hs H nx (some (.cells C35 1)),nx+1)) none
def K64:Orc:=fun f=>cond (bR f 37) (some U65) none
theorem Y65:NbL nbL 3:=⟨rfl,by
 intro u x h;have hx:x ∈ nbL:=aH h;have:∀ y ∈ nbL,y<2^3:=by decide
 exact this x hx⟩
theorem M69:∀ u w,(nbL.getD u 0).testBit w=true->(nbL.getD w 0).testBit u=true:=by
 intro u w h;have hu:u<32:=by
  refine aI fun hn => ?_
  rw[aP,aT (by show 32<=u;omega)] at h;simp at h
 have hw:w<3:=by
  obtain⟨x,gx,E,J⟩:=Y65.at hu;rw[J] at h;exact R7 E h
 have key:∀ u,u<32->∀ w,w<3->(nbL.getD u 0).testBit w=true->(nbL.getD w 0).testBit u=true:=by decide
 exact key u hu w hw h
theorem U66:W6 nbL 4 2 2 0 3=C35:=by
 have h1:Q7 nbL 4 2 2 0 1=2:=by decide
 have h2:Q7 nbL 4 2 2 0 2=1:=by decide
 show [cD .i64 ((0:Nat):Int),.int .i64 (Q7 nbL 4 2 2 0 1:Int),.int .i64 (Q7 nbL 4 2 2 0 2:Int)]=C35;rw[h1,h2];rfl
theorem D67:B42 Tryz.prog K64:=by
 intro f o hf args H nx v H' nx' ho;unfold K64 at hf
 cases hb:bR f 37 with
 | false=>rw[hb] at hf;cases hf
 | true=>
  rw[hb] at hf
  cases hf
  have J:=bT hb;subst J;unfold U65 at ho
  cases hw:K33 args with
  | false=>rw[hw] at ho;cases ho
  | true=>
   rw[hw] at ho
   cases ho
   have ea:=Q56 hw;subst ea;refine⟨C29,fun F U w hh hl => ?_⟩;have ea:=U40 hl;subst ea;refine(E33 (N:=3) (by omega) Y65 M69 (inn:=4) (last:=2) (first:=0) (len:=2) (by decide) (by decide) (by decide) (by decide) (by decide) (by decide) w hh.gl.1).mono fun e w' ⟨v,he,E,hb⟩ => ?_
   rw[show 2+1=3 from rfl,U66] at E;rcases E.2 with ⟨_,h0⟩ | ⟨g,cp,W,rfl,hg,hc,h1,V,h3,h4⟩
   .omega
   .obtain⟨F',O,Q⟩:=N2.row (xs:=C35) hh hb hg hc h1 (by simpa using h3) (by simpa [C35] using h4) (bK V (by decide)) rfl
    exact⟨_,F',he,O,Q⟩
theorem R59:U46 Tryz.prog K64 100 8 []=some (.bool true):=by kernel_rfl
theorem X60(H:Y0)(nx:Nat):Q2 Tryz.prog 8 [] H nx fun v H' nx' => .bool true=v/\H=H'/\nx=nx':=B55 mixed J2 D67 R59 rfl rfl H nx
end
section
open Go.ChangeShapes Go.WideShapes Go.ChangeAt Go.RowKit Go.Joins Go.Deep Go.Clo
variable {A:Option Addr} {P:Program} {W:World} {cap len:Nat} {e t:TypeId} {r:Reach}
theorem own:ownKnob Tryz.prog.godebug=none:=by kernel_rfl
theorem V68:laidOutB Tryz.prog=true:=by kernel_rfl
def X16:List (String × DataW Unit):=Rows.dichotomyDecidesRow.laid
theorem G70:Tryz.prog.globalNamed (X16.map (·.1)).head! = some 0:=by kernel_rfl
theorem C44 (h:laidMetH Tryz.prog X16 W) (r n:Nat) (hr:deB[r]? = some n):W.cell? ⟨0,r,none⟩=some (.int .u8 (n:Int)):=by
 have hrl:r<32:=(List.getElem?_eq_some_iff.1 hr).1
 rw[MakeChecks.laidMetH_plain _ _ _ (by kernel_rfl)] at h
 obtain⟨ps,⟨g,t,cs,fuel,p,q,hg,ht,hv,hd,_,_⟩,_,_⟩:=h
 obtain rfl:=Option.some.inj (G70.symm.trans hg)
 obtain rfl:=Option.some.inj ((show (Tryz.prog.globals[0]?).map (·.type)=some 136 by kernel_rfl).symm.trans ht)
 obtain⟨xs,m,_,ex,_,hl,hel⟩:=DataW.trod_array Tryz.underlying136 hd
 have c5:Tryz.prog.cellsOf 5=1:=by kernel_rfl
 have hE:=hel r hrl
 rw[c5,Nat.mul_one,List.getElem?_eq_getElem (by omega)] at hE
 obtain⟨z,e1,e2,_⟩:=DataW.trod_int Tryz.underlying5 hE
 have e3:(xs.map (·.1))=deB.map fun (n:Nat) => .lit (.int .u8 (n:Int)):=(DataW.agg.inj (Prod.mk.inj ex).1).symm
 have e4:(xs.map (·.1))[r]? = (deB.map fun (n:Nat)=>(DataW.lit (.int .u8 (n:Int)):DataW Unit))[r]? := by rw[e3]
 rw[List.getElem?_map,List.getElem?_map,List.getElem?_eq_getElem (by omega:r<xs.length),hr,e2] at e4
 have hz:z=(n:Int):=by
  simpa only[Option.map_some,Option.some.injEq,DataW.lit.injEq,Lit.int.injEq,true_and] using e4
 rw[World.var?_cell hg hv r,<- hz]
 have:cs.toList[r]? = some (.int .u8 z):=by
  have h0:((cs.toList.drop r).take 1)[0]? = some (.int .u8 z):=by rw[e1];rfl
  simpa using h0
 simpa using this
theorem B48 (h:laidMetH Tryz.prog X16 W):GlW W:=fun x hx=>by
 rw[List.mem_singleton.1 hx]
 have h0:=C44 h 0 0 rfl
 constructor
 .unfold World.cell? at h0
  rcases Nat.lt_or_ge 0 W.heap.size with g | g
  .exact g
  .rw[Array.getElem?_eq_none g] at h0;cases h0
 .intro i v hv
  simp only[List.getElem?_map,Option.map_eq_some_iff] at hv
  obtain⟨n,hn,rfl⟩:=hv
  exact C44 h i n hn
section
variable {X:Type} {enc:TypeId × Value->X} {W:World} {b0 base:Nat} {spare:Nat->Bool} {held:Bool}
theorem N48(ht:P.underlying t=some (.slice e))(h:Cell.okWide P W r b0 t (.slice A len cap)):Cell.ok P W r b0 t (.slice A len cap):=by
 simp only[Cell.okWide,ht] at h;exact h
theorem D51(ht:P.underlying t=some (.slice e))(h:Value.okWide P W r b0 t (.slice A len cap)):Cell.ok P W r b0 t (.slice A len cap):=by
 simp only[Value.okWide,ht] at h;exact N48 ht h
theorem Y49{α:Type}(f:α->Value)(xs:List α):(xs.flatMap fun a=>[f a])=xs.map f:=by
 induction xs with
 | nil=>rfl
 | cons a xs ih=>simp[ih]
theorem B64{F:FM}{H:Y0}{nx:Nat}(hi:In W F H nx){n:Nat}{y:DataW X × List MemPlace}(E:Cell.ok Tryz.prog W .any b0 27 (.slice A len cap))(h:DataW.trod enc Tryz.prog W base spare held n 27 [.slice A len cap]=some y):
  ∃(F':FM) (H':Y0) (nx':Nat) (A':Option Addr) (l:List Int),In W F' H' nx'/\F.le F'/\VR F' (.slice A' l.length cap) (.slice A len cap)/\l.length=len/\Sl H' nx' A' (U4 l)/\D0 H nx H' nx'/\Has H' nx' A':=by
 obtain⟨F',H',nx',A',xs,h1,h2,h3,rfl,h5,h6,h7,_,h9⟩:=hi.sliceH (f:=fun a:Int=>[cD .i64 a]) (Pr:=fun _=>True) (sz:=1) Tryz.underlying27 (by kernel_rfl) (fun _=>rfl) E h (fun n cs y h=>by
  obtain⟨s,rfl,_,_⟩:=DataW.trod_int Tryz.underlying3 h;exact⟨s,rfl,trivial⟩) (fun _=>rfl)
 rw[Y49] at h6;exact⟨F',H',nx',A',xs,h1,h2,h3,rfl,h6,h7,h9⟩
end
theorem D64{X:Type}{enc:TypeId × Value->X}{fn:Func}{s:ChangeSpec}{W':World}{args:Array Value}{ds gs:List (DataW X)}{E p:List MemPlace}
  (hW:DataW.Whole enc Tryz.prog fn.params.toList s.vars false W args.toList ds gs E)(hv:s.vars=[])(Q:(s.fn X (ds++gs)).results=[.lit (.bool true)])(J:(s.fn X (ds++gs)).vars=[])
  (O:(s.fn X (ds++gs)).args=ds)(U:fn.resultTypes = #[4])(V:∀ t ∈ fn.params.toList,Tryz.prog.readableRec t=true/\t<Tryz.prog.types.size)(hb:Below W.heap.size W W')
  (hA:DataW.TrodAll enc Tryz.prog W 0 (fun _=>true) true fn.params.toList args.toList ds p)(hp:∀ x ∈ p,x ∈ E):
  s.post enc Tryz.prog fn false true false false W args (.bool true) W':=by
 refine J41 (pa:=p) (pv:=[]) hW hb (fun _ _ _ => ?_) ?_ ?_
 .rw[Q,U]
  exact trodAll_cons_mk (shut_bool Tryz.underlying4 _) trodAll_mk0
 .rw[O]
  exact N24 V68 hb _ _ _ _ V hA fun x hx=>hW.lt x (hp x hx)
 .rw[hv,J];rfl
theorem Q69 (os:Os):(World.laidAll Tryz.prog os X16).Shaped Tryz.prog:=World.shaped_of_ZipB (by kernel_rfl) (by kernel_rfl)
theorem met (os:Os) (args:Array Value):laidMetH Tryz.prog X16 ((World.laidAll Tryz.prog os X16).forCall (fun _ _=>0) ⟨#[],args,[]⟩).memory:=by
 rw[MakeChecks.laidMetH_plain _ _ _ (by kernel_rfl)];exact laidMet_laidAll _ (by kernel_rfl) (by kernel_rfl)
end
section
open Go.ChangeShapes Go.WideShapes Go.ChangeAt Go.RowKit Go.Joins Go.Deep Go.Clo
variable {n:Nat}
section
variable {X:Type} {enc:TypeId × Value->X} {W:World} {b0 base:Nat} {spare:Nat->Bool} {held:Bool}
theorem V67:Tryz.prog.cellTypes Tryz.prog.depth 24=some [3,22]:=by kernel_rfl
theorem V55{v:Value}{d:DataW X}{p:List MemPlace}(hv:Value.okWide Tryz.prog W .any b0 24 v)(h:DataW.Trod enc Tryz.prog W base spare held 24 v d p):
  ∃(N:Int) (A:Option Addr) (len cap n:Nat) (y:DataW X × List MemPlace),v = .agg #[.int .i64 N,.slice A len cap]/\(Lit.int .i64 N).wf=true/\Cell.ok Tryz.prog W .any b0 22 (.slice A len cap) /\
   DataW.trod enc Tryz.prog W base spare held n 22 [.slice A len cap]=some y:=by
 have O:=hv;obtain⟨v0,v1,y0,y1,n,rfl,rfl,rfl,h0,h1⟩:=open_agg2 Tryz.underlying24 (by kernel_rfl) (by kernel_rfl) hv h;obtain⟨N,e0,_,hN⟩:=DataW.trod_int Tryz.underlying3 h0;simp only[fM,and_true] at e0;subst e0;simp only[Value.okWide,Tryz.underlying24] at O;obtain⟨cs,e,_,ts,E,_,J⟩:=O
 cases e
 rw[V67] at E
 cases E
 obtain⟨u,hu,hc⟩:=J 1 v1 rfl
 cases hu
 obtain⟨A,len,cap,rfl⟩:∃ A len cap,v1 = .slice A len cap:=by
  simp only[Cell.okWide,Tryz.underlying22] at hc
  cases v1<;>simp_all [Cell.ok]
 exact⟨N,A,len,cap,n,y1,rfl,hN,N48 Tryz.underlying22 hc,h1⟩
theorem E62{cs:List Value}{y:DataW X × List MemPlace}(h:DataW.trod enc Tryz.prog W base spare held n 56 cs=some y):∃ a:Nat,[cD .u32 (a:Int)]=cs/\a<4294967296:=by
 obtain⟨z,rfl,_,hz⟩:=DataW.trod_int Tryz.underlying56 h;simp only[Lit.wf,aG,decide_eq_true_eq,show eW.min=0 from rfl,show eW.max=4294967295 from rfl] at hz;exact⟨z.toNat,by rw[Int.toNat_of_nonneg (by omega)],by omega⟩
theorem E52{F:FM}{H:Y0}{nx:Nat}(hi:In W F H nx){A:Option Addr}{len cap:Nat}{y:DataW X × List MemPlace}(E:Cell.ok Tryz.prog W .any b0 22 (.slice A len cap))(h:DataW.trod enc Tryz.prog W base spare held n 22 [.slice A len cap]=some y):
  ∃(F':FM) (H':Y0) (nx':Nat) (A':Option Addr) (es:List Nat),In W F' H' nx'/\F.le F'/\VR F' (.slice A' es.length cap) (.slice A len cap)/\U14 es/\Sl H' nx' A' (K12 es)/\D0 H nx H' nx'/\Has H' nx' A':=by
 obtain⟨F',H',nx',A',xs,h1,h2,h3,rfl,h5,h6,h7,_,h9⟩:=hi.sliceH (f:=fun a:Nat=>[cD .u32 (a:Int)]) (Pr:=fun a=>a<4294967296) (sz:=1) Tryz.underlying22 (by kernel_rfl) (fun _=>rfl) E h (fun n cs y h=>E62 h) (fun _=>rfl);rw[Y49] at h6;exact⟨F',H',nx',A',xs,h1,h2,h3,h5,h6,h7,h9⟩
end
end
end Go.Proofs.YtoiioigihocgbaaGreatDoor
namespace Go.Clo
def mpF(e:Nat->Nat)(n:Nat):Option Value:=if e n=0 then none else some (.int .u32 (e n:Int))
theorem Q61(i:Nat)(s:Nat × (Nat->Nat)):shN i none s=s:=rfl
end Go.Clo
namespace Go.Proofs.YtoiioigihocgbaaGreatDoor
open Go.Clo
theorem C68{n:Nat}(hn:n<=32)(H:Y0)(nx:Nat):Q2 Tryz.prog 35 [.int .i64 (n:Int)] H nx (Z56 (.int .u32 ((2^n-1:Nat):Int)) H nx):=by
 refine spec35 ?_;unfold F35;simp only[W1,M26 hn,Y5];exact⟨rfl,rfl,rfl⟩
section
variable {aL:List Nat} {N:Nat} (hN:N<=6) (hL:NbL aL N)
include hN hL
theorem K45{inn f:Nat}(hi:inn<2^N)(hf:f<=N)(H:Y0)(nx:Nat):
  Q2 Tryz.prog 36 [.agg ⟨K12 aL⟩,.int .u32 (inn:Int),.int .i64 (f:Int)] H nx fun r H' nx'=>(∃ q,r = .tuple ⟨[.int .i64 ((J4 aL N inn f f).1:Int),.map (some q)]⟩/\D4 H' q (mpF (J4 aL N inn f f).2)/\q<nx')/\D0 H nx H' nx':=by
 have b5:2^N<=64:=aK (n:=2) (by omega) hN;have ah:0<2^N:=aQ N;have bd:2^f<=2^N:=aK (n:=2) (by omega) hf;have bu:0<2^f:=aQ f;have ax:=M44 hN hL;have b3:inn<4294967296:=by omega
 refine spec36 ?_;unfold F36;have g1:J0 (hs (hs H nx (some (.cells (K12 aL) 0))) (nx+1) (some (.map [] 0))) nx=some (.cells (K12 aL) 0):=by rw[Z1 _ (by omega),Z11]
 have m1:D4 (hs (hs H nx (some (.cells (K12 aL) 0))) (nx+1) (some (.map [] 0))) (nx+1) (fun _=>none):=D4.nil (Z11 _ _ _);have ad:D0 H nx (hs (hs H nx (some (.cells (K12 aL) 0))) (nx+1) (some (.map [] 0))) (nx+1+1):=((D0.refl H nx).new _ (aD _) (m:=nx+1) (by omega)).new _ (by omega) (by omega);simp(disch:=first|omega|assumption)only[W0,Q0.val,W5 aL,E66];generalize hs (hs H nx (some (.cells (K12 aL) 0))) (nx+1) (some (.map [] 0))=H1 at *
 refine B1 (m:=f) (fun m L' H' nx'=>∃ i:Nat,m+i=f/\L'=[.int .i64 ((J4 aL N inn f i).1:Int),.int .i64 (i:Int)]/\D4 H' (nx+1) (mpF (J4 aL N inn f i).2)/\KB (nx+1) H1 (nx+1+1) H' nx') ?_
  ⟨0,by omega,rfl,m1,⟨aD _,fun _ _ _=>rfl⟩⟩
 rintro m ih L1 H2 n2 ⟨i,hm,rfl,hM,hK⟩ ay
 by_cases bw:i<f
 case neg=>
  obtain rfl:i=f:=by omega
  have a6:¬ (i:Int)<(i:Int):=by omega
  simp(disch:=first|omega|assumption)only[W0,a6];have:=hK.le;exact⟨⟨nx+1,rfl,hM,by omega⟩,⟨by have:=ad.le;omega,fun j hj=>by rw[hK.get j (by omega) (by omega)];exact ad.get j hj⟩⟩
 have a6:(i:Int)<(f:Int):=by omega
 have g2:=(hK.get nx (by omega) (by omega)).trans g1;have bc:=hK.le;obtain⟨x,gx,av,ag⟩:=hL.at (u:=i) (by omega);have gx:=Q3 gx;have bh:i<32:=by omega
 have bx:x<4294967296:=by omega
 have ao:2^f-1<4294967296:=by omega
 have n1:Z2 (2^f-1) x<4294967296:=U10 ao;have pi:2^i<4294967296:=by have:=R27 (show i<N by omega);omega
 have a4:N14 aL f i=Z2 (Z2 (2^f-1) x) (2^i):=by unfold N14;rw[ag]
 have aj:N14 aL f i<2^N:=by rw[a4];exact Z6 (Z6 (by omega))
 have next:J4 aL N inn f (i+1)=shN i (shG aL inn (N14 aL f i) (J4 aL N inn f i).1 N 0 (x &&& inn) 2) (J4 aL N inn f i):=by rw[J4,ag]
 generalize J4 aL N inn f i=s at *
 obtain⟨len,ends⟩:=s;dsimp only at next hM ⊢;simp(config:={ maxSteps:=2000000 }) (disch:=first|omega|assumption)only[W0,a6];refine N5 (fun L' H' nx'=>L'=[.int .i64 ((J4 aL N inn f (i+1)).1:Int)]/\D4 H' (nx+1) (mpF (J4 aL N inn f (i+1)).2)/\KB (nx+1) H1 (nx+1+1) H' nx') ?_ ?_
 case refine_2=>
  rintro L H3 n3 ⟨rfl,a3,U⟩;exact ay (m-1) _ _ _ (by omega) ⟨i+1,by omega,by simp,a3,U⟩
 intro jj W;refine R0 (C68 (n:=f) (by omega) _ _) ?_;rintro _ _ _ ⟨rfl,rfl,rfl⟩;simp(config:={ maxSteps:=2000000 }) (disch:=first|omega|assumption)only[W0,g2,gx];rw[<- a4];generalize N14 aL f i=far at *
 generalize hR:shG aL inn far len N 0 (x &&& inn) 2=R at *
 have ai:KB (nx+1) H1 (nx+1+1) H2 (n2+10):=⟨by omega,hK.get⟩
 refine B1 (m:=N) (fun k L' H' nx'=>∃(c b st:Nat),L'=[.int .i64 (len:Int),.int .u32 (c:Int),.int .u32 (b:Int),.int .i64 (st:Int)]/\c<2^N/\b<2^N/\N<=k+(V5 N c).length/\(∀ w,b.testBit w=true->c.testBit w=false)/\shG aL inn far len k c b st=R/\k+st=N+2/\D4 H' (nx+1) (mpF ends)/\KB (nx+1) H1 (nx+1+1) H' nx') ?_
  ⟨0,x &&& inn,2,rfl,ah,W37 av,by omega,by simp,hR,rfl,hM,ai⟩
 rintro k bg L1 H3 n3 ⟨c,b,st,rfl,hc,hb,bo,hd,hG,b4,a3,U⟩ ac;have bk:c<4294967296:=by omega
 have ab:b<4294967296:=by omega
 have b8:=U.le;have g3:=(U.get nx (by omega) (by omega)).trans g1;have z1:decide ((len:Int)=0)=decide (len=0):=by congr 1;apply propext;omega
 have z2:decide ((st:Int)<=(len:Int))=decide (st<=len):=by congr 1;apply propext;omega
 have z3:decide ((st:Int)<(len:Int))=decide (st<len):=by congr 1;apply propext;omega
 have z4:decide ((b:Int)≠0)=decide (b≠0):=by congr 1;apply propext;omega
 refine N5 (fun L' H' nx'=>L'=[.bool (decide (b≠0/\(len=0\/st<=len)))]/\H3=H'/\n3=nx') ?_ ?_
 .intro j2 a7
  by_cases q0:b≠0
  .by_cases q1:len=0
   .simp(disch:=first|omega|assumption)only[W0,z4,decide_eq_true q0,z1,decide_eq_true q1]
    exact a7 _ _ _ ⟨by simp[q0,q1],rfl,rfl⟩
   .simp(disch:=first|omega|assumption)only[W0,z4,decide_eq_true q0,z1,decide_eq_false q1,z2]
    exact a7 _ _ _ ⟨by simp[q0,q1],rfl,rfl⟩
  .simp(disch:=first|omega|assumption)only[W0,z4,decide_eq_false q0]
   exact a7 _ _ _ ⟨by simp[q0],rfl,rfl⟩
 rintro L1 _ _ ⟨rfl,rfl,rfl⟩
 by_cases a5:b≠0/\(len=0\/st<=len)
 case neg=>
  simp(disch:=first|omega|assumption)only[W0,decide_eq_false a5];have ap:R=none:=by
   cases k with
   | zero=>exact hG.symm
   | succ k=>
    rw[shG,if_pos (by
     by_cases q0:b=0
     .exact .inl q0
     .right
      refine aI fun hh=>a5 ⟨q0,?_⟩
      by_cases q1:len=0
      .exact .inl q1
      .exact .inr (by omega))] at hG
    exact hG.symm
  rw[ap,Q61] at next;rw[next] at W;exact W _ _ _ ⟨rfl,a3,U⟩
 obtain⟨a2,ae⟩:=a5;obtain⟨k',rfl⟩:∃ k',k=k'+1:=by
  cases k with
  | zero=>exact absurd (X20 hb hd (by have:=Q15 N c;omega)) a2
  | succ k=>exact⟨k,rfl⟩
 rw[shG,if_neg (by
  rintro (h | h)
  .exact a2 h
  .omega)] at hG
 have aq:=Z14 (b:=b) hL.lt 32;have V:Q4 aL b 32<4294967296:=by omega
 have an:c ||| b<2^N:=Z26 hc hb;have az:c ||| b<4294967296:=by omega
 have hg:=R25 hb a2 hd;have ak:far<4294967296:=by omega
 simp(disch:=first|omega|assumption)only[W0,decide_eq_true (⟨a2,ae⟩:b≠0/\(len=0\/st<=len)),g3,M18 ax];refine R0 (Z35 hN hL ab H3 n3) ?_;rintro _ H4 n4 ⟨rfl,a8⟩;have a9:=a3.ext (nx:=n3) (by omega) a8;have bf:=a8.le;have Q:KB (nx+1) H1 (nx+1+1) H4 n4:=⟨by omega,fun j hj J=>by rw[a8.get j (by omega)];exact U.get j hj J⟩
 have bv:Q4 aL b 32 &&& far<4294967296:=D52 V;have ba:Q4 aL b 32 &&& inn<4294967296:=D52 V;have z5:decide (((Q4 aL b 32 &&& far:Nat):Int)≠0)=decide (Q4 aL b 32 &&& far≠0):=by congr 1;apply propext;omega
 by_cases E:Q4 aL b 32 &&& far≠0
 case neg=>
  rw[if_neg E] at hG;simp(disch:=first|omega|assumption)only[W0,z5,decide_eq_false E];have al:Z2 (Q4 aL b 32 &&& inn) (c ||| b)<2^N:=Z6 (W37 aq);refine ac k' _ _ _ (by omega) ⟨c ||| b,_,st+1,by simp,an,al,by omega,fun w hw => ?_,hG,by omega,a9,Q⟩;rw[N1,aG] at hw;simpa using hw.2
 rw[if_pos E] at hG;rw[<- hG] at next;simp(disch:=first|omega|assumption)only[W0,z5,decide_eq_true E];generalize Q4 aL b 32 &&& far=last at *
 have next:J4 aL N inn f (i+1)=(st,fun y=>if y=i then last else if len=0\/st<len then 0 else ends y):=next;rw[next] at W;have ew:∀ {H5:Y0} {n5:Nat} {M:Nat->Option Value},D4 H5 (nx+1) M->KB (nx+1) H1 (nx+1+1) H5 n5->(∀ y,mpF (fun y=>if y=i then last else if len=0\/st<len then 0 else ends y) y=if y=i then some (.int .u32 (last:Int)) else M y) ->
   W56 (.int .i64) (.map (some (nx+1))) (.int .i64 (i:Int)) (.int .u32 (last:Int)) H5 n5 fun bt aw aa=>jj [.int .i64 (st:Int)] aw aa:=fun {H5 n5 M} O a1 he=>by
  refine O.put i _ fun es cl au => ?_
  exact W _ _ _ ⟨rfl,au.congr he,⟨a1.le,fun j hj J=>by rw[Z1 _ J];exact a1.get j hj J⟩⟩
 by_cases Z:len=0\/st<len
 .refine N5 (fun L' H' nx'=>L'=[.int .i64 (st:Int)]/\D4 H' (nx+1) (fun _=>none)/\KB (nx+1) H1 (nx+1+1) H' nx') ?_ ?_
  .intro j3 a0
   rw[N13];have clr:∀ k:Y0->Prop,(∀ c,D4 (Go.Clo.hs H4 (nx+1) (some (.map [] c))) (nx+1) (fun _=>none)->k (Go.Clo.hs H4 (nx+1) (some (.map [] c))))->M41 (.map (some (nx+1))) H4 k:=fun k hk=>a9.clr hk
   by_cases q1:len=0
   .simp(disch:=first|omega|assumption)only[W0,decide_eq_true q1]
    refine clr _ fun cl O => ?_
    exact a0 _ _ _ ⟨rfl,O,⟨Q.le,fun j hj J=>by rw[Z1 _ J];exact Q.get j hj J⟩⟩
   .have q2:st<len:=by omega
    simp(disch:=first|omega|assumption)only[W0,decide_eq_false q1,z3,decide_eq_true q2];refine clr _ fun cl O => ?_
    exact a0 _ _ _ ⟨rfl,O,⟨Q.le,fun j hj J=>by rw[Z1 _ J];exact Q.get j hj J⟩⟩
  rintro L1 H5 n5 ⟨rfl,O,a1⟩;simp(disch:=first|omega|assumption)only[W0];refine ew O a1 fun y => ?_
  unfold mpF
  by_cases hy:y=i
  .simp only[hy,if_true];rw[if_neg E]
  .simp only[hy,if_false,Z,if_true]
 .refine N5 (fun L' H' nx'=>L'=[.int .i64 (st:Int)]/\H4=H'/\n4=nx') ?_ ?_
  .intro j3 a0
   rw[N13];have q1:¬ len=0:=fun h=>Z (.inl h)
   have q2:¬ st<len:=fun h=>Z (.inr h)
   have q3:len=st:=by omega
   simp(disch:=first|omega|assumption)only[W0,decide_eq_false q1,z3,decide_eq_false q2];exact a0 _ _ _ ⟨by rw[q3],rfl,rfl⟩
  rintro L1 _ _ ⟨rfl,rfl,rfl⟩;simp(disch:=first|omega|assumption)only[W0];refine ew a9 Q fun y => ?_
  unfold mpF
  by_cases hy:y=i
  .simp only[hy,if_true];rw[if_neg E]
  .simp only[hy,if_false,Z]
end
end Go.Proofs.YtoiioigihocgbaaGreatDoor
namespace Go.Clo
theorem K60 {aL:List Nat} {inn far lim N:Nat} (hf:far<2^N):∀ (k seen b st:Nat) {r:Nat × Nat},shG aL inn far lim k seen b st=some r->r.2<2^N/\r.1<=st+k
 | 0,_,_,_,r,h=>by cases h
 | k+1,seen,b,st,r,h=>by
  unfold shG at h
  split at h
  .cases h
  .split at h
   .cases h
    exact⟨Nat.lt_of_le_of_lt Nat.and_le_right hf,by show st<=_;omega⟩
   .obtain⟨h1,h2⟩:=K60 hf k _ _ _ h
    exact⟨h1,by omega⟩
end Go.Clo
namespace Go.Proofs.YtoiioigihocgbaaGreatDoor
open Go.Clo
theorem W61{H:Y0}{q:Nat}{e:Nat->Nat}(h:D4 H q (mpF e))(n:Nat)(k:VP):wLk (.int .i64) (.int .u32 0) (.map (some q)) (.int .i64 (n:Int)) false H k=k (.int .u32 (e n:Int)):=by
 by_cases he:e n=0
 .rw[h.lkN' (n:=n) (by unfold mpF;rw[if_pos he]),he];rfl
 .rw[h.lkS' (n:=n) (v := .int .u32 (e n:Int)) (by unfold mpF;rw[if_neg he])]
theorem W68{N f:Nat}(hN:N<=6)(hf:f<=N)(A:Option Addr)(es:List Nat)(cap:Nat)(a6:∀ e ∈ es,e<2^N)(ay:es.length<=8)(H:Y0)(nx:Nat)(hS:Sl H nx A (K12 es)):
  Q2 Tryz.prog 14 [gv (N:Int) A es.length cap,.int .i64 (f:Int)] H nx fun r H' nx'=>(∃ v,r = .tuple ⟨[v,.bool (K24 (B2 es N) N f).isSome]⟩/\LsR ((K24 (B2 es N) N f).getD []) v H' nx')/\D0 H nx H' nx':=by
 have an:2^N<=64:=aK (n:=2) (by omega) hN;have av:0<2^N:=aQ N;have au:2^f<=2^N:=aK (n:=2) (by omega) hf;have az:0<2^f:=aQ f;have a5:U14 es:=fun e he=>by have:=a6 e he;omega
 have aa:N3 N es=0:=V11 (by omega) (by omega) fun i e he=>a6 e (aH he)
 have ae:Q6 (N:Int) (f:Int) es=0:=by
  unfold Q6;rw[aa];simp;omega
 refine spec14 ?_;unfold F14;have a4:D0 H nx (hs H nx (some (.cells [.int .i64 N,.slice A es.length cap] 0))) (nx+1):=(D0.refl H nx).new _ (aD _) (by omega);have k1:J0 (hs H nx (some (.cells [.int .i64 N,.slice A es.length cap] 0))) nx=some (.cells [.int .i64 N,.slice A es.length cap] 0):=Z11 _ _ _;simp(disch:=first|omega|assumption)only[W0,Z0,Q0.val,C13];generalize hs H nx (some (.cells [.int .i64 N,.slice A es.length cap] 0))=K at *
 refine R0 (G56 N f A es cap _ _ (hS.ext a4) a5) ?_;rintro _ H2 nx2 ⟨rfl,O⟩;have d1:decide (Q6 N f es≠0)=false:=by simp[ae]
 have g2:=(O.get nx (by omega)).trans k1;have ap:=O.le;simp(disch:=first|omega|assumption)only[W0,d1,g2,C13];refine R0 (Z71 (by omega) A es cap _ _ (hS.ext (a4.trans O)) a6 (by omega) aa) ?_;rintro _ H3 E ⟨rfl,Z⟩;have g3:=(Z.get nx (by omega)).trans g2;have ao:=Z.le;have e1:(K12 (B2 es N)).length=32:=by rw[E1];exact N9 es N
 have e2:(K12 (aF 32 0)).length=32:=by rw[E1];simp
 have e3:=G24 (c:=K12 (aF 32 0)) (vs:=K12 (B2 es N)) (by rw[e1,e2]);have e4:=W5 (B2 es N);rw[Q27];have ac:D0 H3 E (hs (hs H3 E (some (.cells (K12 (aF 32 0)) 0))) E (some (.cells (K12 (B2 es N)) 0))) (E+1):=((D0.refl _ _).new _ (aD _) (m:=E+1) (by omega)).hs (aD _);have a7:J0 (hs (hs H3 E (some (.cells (K12 (aF 32 0)) 0))) E (some (.cells (K12 (B2 es N)) 0))) E=some (.cells (K12 (B2 es N)) 0):=Z11 _ _ _;have ak:J0 (hs (hs H3 E (some (.cells (K12 (aF 32 0)) 0))) E (some (.cells (K12 (B2 es N)) 0))) nx=some (.cells [.int .i64 N,.slice A es.length cap] 0):=(ac.get nx (by omega)).trans g3;simp(disch:=first|omega|assumption)only[W0,e1,e2,e3,e4,g3];generalize hs (hs H3 E (some (.cells (K12 (aF 32 0)) 0))) E (some (.cells (K12 (B2 es N)) 0))=H4 at *
 have V:=((a4.trans O).trans Z).trans ac;have hL:=R60 es N;have W:=M37 (es:=es) (N:=N) (by omega);generalize B2 es N=aL at *
 have ah:∀ u w,(aL.getD u 0).testBit w=true->w<32:=fun u w h=>by
  cases hg:aL[u]? with
  | none=>rw[aP,hg] at h;simp at h
  | some x=>
   rw[aP,hg] at h;have:=R7 (hL.lt u x hg) h;omega
 refine R0 (C59 (n:=N) (by omega) _ _) ?_;rintro _ _ _ ⟨rfl,rfl,rfl⟩;refine R0 (C59 (n:=f) (by omega) _ _) ?_;rintro _ _ _ ⟨rfl,rfl,rfl⟩;have a1:2^N-1<4294967296:=by omega
 have a2:2^f-1<4294967296:=by omega
 have U:K10 N f<2^N:=Z6 (by omega);simp(disch:=first|omega|assumption)only[W0,a7,M18 e1];rw[show Z2 (2^N-1) (2^f-1)=K10 N f from rfl];unfold K24;generalize K10 N f=inn at *
 refine R0 (K45 hN hL U hf _ _) ?_;rintro _ H5 ab ⟨⟨q,rfl,hM,hq⟩,Q⟩;have ad:=fun x=>E47 (aL:=aL) (N:=N) (inn:=inn) (f:=f) f x
 have ai:=(Q.get E (by omega)).trans a7;have aq:=Q.le;generalize J4 aL N inn f f=s at *
 obtain⟨len,ends⟩:=s;dsimp only at ad hM ⊢;simp(disch:=first|omega|assumption)only[W0];refine B1 (m:=f) (fun m L' H' nx'=>∃ i:Nat,m+i=f/\L'=[.int .i64 (i:Int)]/\(∀ u,u<i->ends u=0)/\H5=H'/\ab=nx') ?_ ⟨0,by omega,rfl,fun u h=>by omega,rfl,rfl⟩;rintro m ih L1 _ _ ⟨i,hm,rfl,a8,rfl,rfl⟩ aj
 by_cases ag:i<f
 case neg=>
  obtain rfl:i=f:=by omega
  have J:¬ (i:Int)<(i:Int):=by omega
  simp(disch:=first|omega|assumption)only[W0,J];rw[D58 (fun u hu=>by simp[a8 u hu])];exact⟨⟨_,rfl,C66 _ _⟩,V.trans Q⟩
 have J:(i:Int)<(f:Int):=by omega
 have z1:decide ((ends i:Int)≠0)=decide (ends i≠0):=by congr 1;apply propext;omega
 by_cases he:ends i≠0
 case neg=>
  simp(disch:=first|omega|assumption)only[W0,J,W61 hM,z1,decide_eq_false he];refine aj (m-1) _ _ _ (by omega) ⟨i+1,by omega,by simp,fun u hu => ?_,rfl,rfl⟩
  by_cases e:u=i
  .subst e;exact aI fun h=>he h
  .exact a8 u (by omega)
 rw[J55 (v:=i) (fun u hu=>by simp[a8 u hu]) ag (by simpa using he)];simp(disch:=first|omega|assumption)only[W0,J,W61 hM,z1,decide_eq_true he,ai,M18 e1];obtain⟨_,ax,a9⟩:=ad i he;have a3:N14 aL f i<2^N:=Z6 (Z6 (by omega));obtain⟨l1,l2⟩:=K60 a3 N 0 _ 2 a9;obtain⟨l3,_⟩:=K15 (b0:=aL.getD i 0 &&& inn) N 0 _ 2 (fun w hw=>hw) (aD _) a9;have a0:=G55 (st:=0) W ah a9;dsimp only at l1 l2 l3 a0;rw[Nat.and_comm] at a0;refine R0 (E64 hN hL W U l1 (by omega) (by omega) (by omega) a0 H5 ab) ?_;rintro v H6 aw ⟨hv,al⟩;exact⟨⟨v,rfl,hv⟩,(V.trans Q).trans al⟩
section
variable {H:Y0}
theorem X109(N free:Int)(A:Option Addr)(es:List Nat)(cap:Nat)(H:Y0)(nx:Nat)(hS:Sl H nx A (K12 es))(U:U14 es):
  Q2 Tryz.prog 74 [gv N A es.length cap,.int .i64 free] H nx fun r H' nx'=>r = .bool (decide (Q6 N free es=0))/\D0 H nx H' nx':=by
 refine spec74 ?_;unfold F74;have Q:D0 H nx (hs H nx (some (.cells [.int .i64 N,.slice A es.length cap] 0))) (nx+1):=(D0.refl H nx).new _ (aD _) (by omega);simp(disch:=first|omega|assumption)only[W0,Z0,Q0.val,C13];refine R0 (N11 N A es cap _ _ (hS.ext Q) U) ?_;rintro _ H2 nx2 ⟨rfl,O⟩;have E:=Q.trans O;have J:=O.get nx (by omega);rw[Z11] at J
 by_cases h0:N3 N es=0
 .have d1:decide (N3 N es=0)=true:=by simp[h0]
  have hF:Q6 N free es=if free<0\/N<free then 3 else 0:=by rw[Q6,if_neg (by simp[h0])]
  by_cases h1:free ≥ 0
  .by_cases h2:free<=N
   .have e:decide (Q6 N free es=0)=true:=by rw[hF,if_neg (by omega)];simp
    simp(disch:=first|omega|assumption)only[W0,d1,h1,h2,J,e];exact E
   .have e:decide (Q6 N free es=0)=false:=by rw[hF,if_pos (by omega)];simp
    simp(disch:=first|omega|assumption)only[W0,d1,h1,h2,J,e];exact E
  .have e:decide (Q6 N free es=0)=false:=by rw[hF,if_pos (by omega)];simp
   simp(disch:=first|omega|assumption)only[W0,d1,h1,J,e];exact E
 .have d1:decide (N3 N es=0)=false:=by simp[h0]
  have e:decide (Q6 N free es=0)=false:=by rw[Q6,if_pos h0];simp[h0]
  simp(disch:=first|omega|assumption)only[W0,d1,e];exact E
def TT(es:List Nat)(a b c:Nat):Prop:=adj es a b=false/\adj es a c=true/\adj es b c=true
def TrR(es:List Nat)(f:Nat):Option (Nat × Nat × Nat)->Prop
 | none=>∀ a b c,a<b->b<c->c<f->¬ TT es a b c
 | some (a,b,c)=>a<b/\b<c/\c<f/\TT es a b c/\(∀ a' b' c',a'<b'->b'<c'->c'<f->TT es a' b' c'->a<a'\/(a=a'/\(b<b'\/(b=b'/\c<=c'))))
theorem V101{q4 q5:Nat}{x y z:Int}{c4 c5:List Value}{s4 s5:Nat}{m:Nat}(g4:J0 H q4=some (.cells c4 s4))(h4:c4.length=3)(g5:J0 H q5=some (.cells c5 s5))(h5:c5.length=1)(l4:q4<m)(l5:q5<m)(E:q4≠q5):
  Q2 Tryz.prog 39 [.agg ⟨[.int .i64 x,.int .i64 y,.int .i64 z]⟩,.pointer (some ⟨q4,0,none⟩),.pointer (some ⟨q5,0,none⟩)] H m fun r H' m'=>
   r = .bool false/\J0 H' q4=some (.cells [.int .i64 x,.int .i64 y,.int .i64 z] s4)/\J0 H' q5=some (.cells [.bool true] s5)/\m<=m'/\∀ i,i<m->i≠q4->i≠q5->J0 H' i=J0 H i:=by
 refine spec39 ?_;unfold F39;have p4:B12 c4 0 [.int .i64 x,.int .i64 y,.int .i64 z]=[.int .i64 x,.int .i64 y,.int .i64 z]:=G24 (by rw[h4];rfl);have p5:B12 c5 0 [.bool true]=[.bool true]:=G24 (by rw[h5];rfl);have n1:q5≠q4:=fun e=>E e.symm
 have n2:q4≠m:=by omega
 have n3:q5≠m:=by omega
 simp(disch:=first|omega|assumption)only[W0,Z0,Q0.val,Nat.reduceAdd,Y12,g4,g5,p4,p5,h4,h5];refine⟨by omega,fun i hi e4 e5 => ?_⟩;rw[Z1 _ e5,Z1 _ e4,Z1 _ (by omega)]
theorem Y102 {N f:Nat} (hN:N<=6) (hf:f<=N) (A:Option Addr) (es:List Nat) (cap:Nat) (hsm:∀ e ∈ es,e<2^N) (hle:es.length<=8) {q4 q5:Nat} {m:Nat} (hS:Sl H m A (K12 es))
  (g4:J0 H q4=some (.cells [.int .i64 0,.int .i64 0,.int .i64 0] 0)) (g5:J0 H q5=some (.cells [.bool false] 0)) (l4:q4<m) (l5:q5<m) (hne:q4≠q5):
  Q2 Tryz.prog 38 [gv (N:Int) A es.length cap,.int .i64 (f:Int),.func (.func 39) ⟨[]⟩ ⟨[.pointer (some ⟨q4,0,none⟩),.pointer (some ⟨q5,0,none⟩)]⟩] H m fun r H' m'=>
   m<=m'/\(∀ i,i<m->i≠q4->i≠q5->J0 H' i=J0 H i) /\
   ((TrR es f none/\J0 H' q4=some (.cells [.int .i64 0,.int .i64 0,.int .i64 0] 0)/\J0 H' q5=some (.cells [.bool false] 0)) \/
    ∃ a b c:Nat,TrR es f (some (a,b,c))/\J0 H' q4=some (.cells [.int .i64 (a:Int),.int .i64 (b:Int),.int .i64 (c:Int)] 0)/\J0 H' q5=some (.cells [.bool true] 0)):=by
 have hp64:2^N<=64:=Nat.pow_le_pow_right (n:=2) (by omega) hN
 have hsm32:U14 es:=fun e he=>by have:=hsm e he;omega
 have hgc:N3 N es=0:=V11 (by omega) (by omega) fun i e he=>hsm e (List.mem_of_getElem? he)
 have hfc:Q6 (N:Int) (f:Int) es=0:=by
  unfold Q6
  rw[hgc]
  simp;omega
 refine spec38 ?_
 unfold F38
 have hE1:D0 H m (hs H m (some (.cells [.int .i64 N,.slice A es.length cap] 0))) (m+1):=(D0.refl H m).new _ (Nat.le_refl _) (by omega)
 have k1:J0 (hs H m (some (.cells [.int .i64 N,.slice A es.length cap] 0))) m=some (.cells [.int .i64 N,.slice A es.length cap] 0):=Z11 _ _ _
 simp (disch:=first|omega|assumption|exact G0 (by assumption)|exact U10 (by assumption)|exact X0 (by omega)|fail) only[W0,Z0,Q0.val,C13]
 generalize hs H m (some (.cells [.int .i64 N,.slice A es.length cap] 0))=K at *
 refine R0 (X109 N f A es cap _ _ (hS.ext hE1) hsm32) ?_
 rintro _ H2 n2 ⟨rfl,hE2⟩
 have d1:decide (Q6 N f es=0)=true:=by simp[hfc]
 have k2:=(hE2.get m (by omega)).trans k1
 have hle2:=hE2.le
 simp (disch:=first|omega|assumption|exact G0 (by assumption)|exact U10 (by assumption)|exact X0 (by omega)|fail) only[W0,d1,M27 (n:=f) (by omega),C23]
 have hE3:D0 H2 n2 (hs H2 n2 (some (.cells (K12 (List.replicate f 0)) 0))) (n2+1):=(D0.refl _ _).new _ (Nat.le_refl _) (by omega)
 have gn:J0 (hs H2 n2 (some (.cells (K12 (List.replicate f 0)) 0))) n2=some (.cells (K12 (List.replicate f 0)) 0):=Z11 _ _ _
 generalize hs H2 n2 (some (.cells (K12 (List.replicate f 0)) 0))=H3 at *
 have hE03:=(hE1.trans hE2).trans hE3
 have k3:=(hE3.get m (by omega)).trans k2
 refine B1 (m:=f) (fun q L' H' nx'=>∃ (v:Nat) (ns:List Nat),q+v=f/\L'=[.int .i64 (v:Int)]/\ns.length=f/\(∀ j,j<v->ns[j]? = some (Q1 (adj es j) N))/\J0 H' n2=some (.cells (K12 ns) 0)/\J0 H' m=some (.cells [.int .i64 N,.slice A es.length cap] 0)/\D0 H m H' nx'/\n2+1<=nx') ?_
  ⟨0,_,by omega,rfl,by simp,fun j h=>by omega,gn,k3,hE03,Nat.le_refl _⟩
 rintro q ihq L1 H4 n4 ⟨v,ns,hq,rfl,hnl,hns,gn4,k4,e4,hn4⟩ hihq
 by_cases hv:v<f
 .have hv':(v:Int)<(f:Int):=by omega
  simp (disch:=first|omega|assumption|exact G0 (by assumption)|exact U10 (by assumption)|exact X0 (by omega)|fail) only[W0,hv',k4,C13]
  refine R0 (U61 (by omega) (show v<N by omega) A es cap _ _ (hS.ext e4) hsm (by omega) hgc) ?_
  rintro _ H5 n5 ⟨rfl,h5⟩
  have gn5:=(h5.get n2 (by omega)).trans gn4
  have k5:=(h5.get m (by omega)).trans k4
  have hle5:=h5.le
  have hul:v+1<=(K12 ns).length:=by rw[E1];omega
  have hput:B12 (K12 ns) v [.int .u32 (Q1 (adj es v) N:Int)]=K12 (ns.set v (Q1 (adj es v) N)):=V10 (by omega)
  simp (disch:=first|omega|assumption|exact G0 (by assumption)|exact U10 (by assumption)|exact X0 (by omega)|fail) only[W0,gn5,hul,hput]
  refine hihq (q-1) _ _ _ (by omega) ⟨v+1,ns.set v (Q1 (adj es v) N),by omega,by simp,by rw[List.length_set];exact hnl,fun j hj => ?_,Z11 _ _ _,by rw[Z1 _ (by omega)];exact k5,(e4.trans h5).hs (by omega),by omega⟩
  by_cases e:j=v
  .subst e;rw[List.getElem?_set_self (by omega)]
  .rw[List.getElem?_set_ne (fun h=>e h.symm)];exact hns j (by omega)
 obtain rfl:v=f:=by omega
 have hv':¬ (v:Int)<(v:Int):=by omega
 simp (disch:=first|omega|assumption|exact G0 (by assumption)|exact U10 (by assumption)|exact X0 (by omega)|fail) only[W0,hv']
 have bit:∀ a b,a<v->b<v->(Q1 (adj es a) N).testBit b=adj es a b:=fun a b ha hb=>by
  rw[E26];simp;intro h;omega
 have m32:∀ a,Q1 (adj es a) N<4294967296:=fun a=>R19 (by omega) _
 have fin4:m<=n4/\(∀ i,i<m->i≠q4->i≠q5->J0 H4 i=J0 H i):=⟨e4.le,fun i hi _ _=>e4.get i hi⟩
 have g44:=(e4.get q4 l4).trans g4
 have g45:=(e4.get q5 l5).trans g5
 refine B1 (m:=v) (fun q L' H' nx'=>∃ a:Nat,q+a=v/\L'=[.int .i64 (a:Int)]/\(∀ x y z,x<a->x<y->y<z->z<v->¬ TT es x y z)/\H4=H'/\n4<=nx') ?_ ⟨0,by omega,rfl,fun x y z h=>by omega,rfl,Nat.le_refl _⟩
 rintro q1 ih1 L1 _ n6 ⟨a,hq1,rfl,hA,rfl,hn6⟩ hih1
 by_cases ha:a<v
 case neg=>
  have ha':¬ (a:Int)<(v:Int):=by omega
  simp (disch:=first|omega|assumption|exact G0 (by assumption)|exact U10 (by assumption)|exact X0 (by omega)|fail) only[W0,ha']
  refine⟨by omega,fin4.2,.inl ⟨fun x y z h1 h2 h3=>hA x y z (by omega) h1 h2 h3,g44,g45⟩⟩
 have ha':(a:Int)<(v:Int):=by omega
 simp (disch:=first|omega|assumption|exact G0 (by assumption)|exact U10 (by assumption)|exact X0 (by omega)|fail) only[W0,ha']
 refine B1 (m:=v) (fun q L' H' nx'=>∃ b:Nat,q+b=v+a+1/\a<b/\L'=[.int .i64 (b:Int)]/\(∀ y z,y<b->a<y->y<z->z<v->¬ TT es a y z)/\H4=H'/\n4<=nx') ?_ ⟨a+1,by omega,by omega,by simp,fun y z h=>by omega,rfl,hn6⟩
 rintro q2 ih2 L1 _ n7 ⟨b,hq2,hab,rfl,hB,rfl,hn7⟩ hih2
 by_cases hb:b<v
 case neg=>
  have hb':¬ (b:Int)<(v:Int):=by omega
  simp (disch:=first|omega|assumption|exact G0 (by assumption)|exact U10 (by assumption)|exact X0 (by omega)|fail) only[W0,hb']
  refine hih1 (q1-1) _ _ _ (by omega) ⟨a+1,by omega,by simp,fun x y z h1 h2 h3 h4 => ?_,rfl,hn7⟩
  by_cases e:x=a
  .subst e;exact hB y z (by omega) h2 h3 h4
  .exact hA x y z (by omega) h2 h3 h4
 have hb':(b:Int)<(v:Int):=by omega
 have na:=Q3 (hns a ha)
 have nb:=Q3 (hns b hb)
 have a32:=m32 a
 have b32:=m32 b
 have bb32:b<32:=by omega
 have bab:=bit a b ha hb
 have nextB:(∀ z,b<z->z<v->¬ TT es a b z)->∀ y z,y<b+1->a<y->y<z->z<v->¬ TT es a y z:=fun h y z h1 h2 h3 h4=>by
  by_cases e:y=b
  .subst e;exact h z h3 h4
  .exact hB y z (by omega) h2 h3 h4
 cases hadj:adj es a b with
 | true=>
  rw[hadj] at bab
  simp (disch:=first|omega|assumption|exact G0 (by assumption)|exact U10 (by assumption)|exact X0 (by omega)|fail) only[W0,hb',N13,gn4,na,bab]
  exact hih2 (q2-1) _ _ _ (by omega) ⟨b+1,by omega,by omega,by simp,nextB (fun z _ _ h=>by rw[h.1] at hadj;cases hadj),rfl,hn7⟩
 | false=>
  rw[hadj] at bab
  have ab32:Q1 (adj es a) N &&& Q1 (adj es b) N<4294967296:=D52 a32
  simp (disch:=first|omega|assumption|exact G0 (by assumption)|exact U10 (by assumption)|exact X0 (by omega)|fail) only[W0,hb',N13,gn4,na,nb,bab]
  refine B1 (m:=v) (fun q L' H' nx'=>∃ c:Nat,q+c=v+b+1/\b<c/\L'=[.int .i64 (c:Int)]/\(∀ z,z<c->b<z->¬ TT es a b z)/\H4=H'/\n4<=nx') ?_ ⟨b+1,by omega,by omega,by simp,fun z h=>by omega,rfl,by omega⟩
  rintro q3 ih3 L1 _ n8 ⟨c,hq3,hbc,rfl,hC,rfl,hn8⟩ hih3
  by_cases hc:c<v
  case neg=>
   have hc':¬ (c:Int)<(v:Int):=by omega
   simp (disch:=first|omega|assumption|exact G0 (by assumption)|exact U10 (by assumption)|exact X0 (by omega)|fail) only[W0,hc']
   exact hih2 (q2-1) _ _ _ (by omega) ⟨b+1,by omega,by omega,by simp,nextB (fun z h1 h2=>hC z (by omega) h1),rfl,hn8⟩
  have hc':(c:Int)<(v:Int):=by omega
  have c32:c<32:=by omega
  have bc:(Q1 (adj es a) N &&& Q1 (adj es b) N).testBit c=(adj es a c&&adj es b c):=by rw[Nat.testBit_and,bit a c ha hc,bit b c hb hc]
  have hbuild:∀ k,U11 [.int .i64 0,.int .i64 0,.int .i64 0] [(0,1),(1,1),(2,1)] [(0,.int .i64 (a:Int)),(1,.int .i64 (b:Int)),(2,.int .i64 (c:Int))] k=k (.agg ⟨[.int .i64 (a:Int),.int .i64 (b:Int),.int .i64 (c:Int)]⟩):=fun k=>rfl
  cases hac:adj es a c&&adj es b c with
  | false=>
   rw[hac] at bc
   simp (disch:=first|omega|assumption|exact G0 (by assumption)|exact U10 (by assumption)|exact X0 (by omega)|fail) only[W0,hc',bc]
   refine hih3 (q3-1) _ _ _ (by omega) ⟨c+1,by omega,by omega,by simp,fun z h1 h2 => ?_,rfl,hn8⟩
   by_cases e:z=c
   .subst e;intro h;rw[h.2.1,h.2.2] at hac;cases hac
   .exact hC z (by omega) h2
  | true=>
   rw[hac] at bc
   simp (disch:=first|omega|assumption|exact G0 (by assumption)|exact U10 (by assumption)|exact X0 (by omega)|fail) only[W0,hc',bc,hbuild]
   refine V22 (V101 (x:=a) (y:=b) (z:=c) g44 rfl g45 rfl (by omega) (by omega) hne) ?_
   rintro _ H9 n9 ⟨rfl,r4,r5,r6,r7⟩
   simp (disch:=first|omega|assumption|exact G0 (by assumption)|exact U10 (by assumption)|exact X0 (by omega)|fail) only[W0]
   rw[Bool.and_eq_true] at hac
   refine⟨by omega,fun i hi e4' e5'=>by rw[r7 i (by omega) e4' e5'];exact fin4.2 i hi e4' e5',.inr ⟨a,b,c,⟨hab,hbc,hc,⟨hadj,hac.1,hac.2⟩,fun x y z h1 h2 h3 h4 => ?_⟩,r4,r5⟩⟩
   refine Classical.byContradiction fun hno => ?_
   by_cases e1:x<a
   .exact hA x y z e1 h1 h2 h3 h4
   obtain rfl:x=a:=by omega
   by_cases e2:y<b
   .exact hB y z e2 h1 h2 h3 h4
   obtain rfl:y=b:=by omega
   exact hC z (by omega) h2 h4
def trV:Option (Nat × Nat × Nat)->Value
 | none => .tuple ⟨[.agg ⟨[.int .i64 0,.int .i64 0,.int .i64 0]⟩,.bool false]⟩
 | some (a,b,c) => .tuple ⟨[.agg ⟨[.int .i64 (a:Int),.int .i64 (b:Int),.int .i64 (c:Int)]⟩,.bool true]⟩
theorem X87 {N f:Nat} (hN:N<=6) (hf:f<=N) (A:Option Addr) (es:List Nat) (cap:Nat) (hsm:∀ e ∈ es,e<2^N) (hle:es.length<=8) (H:Y0) (nx:Nat) (hS:Sl H nx A (K12 es)):
  Q2 Tryz.prog 15 [gv (N:Int) A es.length cap,.int .i64 (f:Int)] H nx fun r H' nx'=>(∃ o,TrR es f o/\r=trV o)/\D0 H nx H' nx':=by
 refine spec15 ?_
 unfold F15
 have hp1:∀ a b:Value,B12 [a] 0 [b]=[b]:=fun _ _=>rfl
 simp (disch:=first|omega|assumption|exact G0 (by assumption)|exact U10 (by assumption)|exact X0 (by omega)|fail) only[W0,Z0,Q0.val,hp1]
 generalize hK:hs (hs (hs (hs (hs H nx (some (.cells [.int .i64 (N:Int),.slice A es.length cap] 0))) (nx+1) (some (.cells [.int .i64 0,.int .i64 0,.int .i64 0] 0))) (nx+1+1) (some (.cells [.int .i64 0,.int .i64 0,.int .i64 0] 0))) (nx+1+1+1) (some (.cells [.bool false] 0))) (nx+1+1+1) (some (.cells [.bool false] 0))=K
 have hE:D0 H nx K (nx+1+1+1+1):=by rw[<- hK];exact (((((D0.self (by omega):D0 H nx H (nx+1+1+1+1)).hs (by omega)).hs (by omega)).hs (by omega)).hs (by omega)).hs (by omega)
 have k2:J0 K nx=some (.cells [.int .i64 (N:Int),.slice A es.length cap] 0):=by rw[<- hK,Z1 _ (by omega),Z1 _ (by omega),Z1 _ (by omega),Z1 _ (by omega),Z11]
 have k3:J0 K (nx+1)=some (.cells [.int .i64 0,.int .i64 0,.int .i64 0] 0):=by rw[<- hK,Z1 _ (by omega),Z1 _ (by omega),Z1 _ (by omega),Z11]
 have k4:J0 K (nx+1+1)=some (.cells [.int .i64 0,.int .i64 0,.int .i64 0] 0):=by rw[<- hK,Z1 _ (by omega),Z1 _ (by omega),Z11]
 have k5:J0 K (nx+1+1+1)=some (.cells [.bool false] 0):=by rw[<- hK,Z11]
 clear hK
 try simp (disch:=first|omega|assumption|exact G0 (by assumption)|exact U10 (by assumption)|exact X0 (by omega)|fail) only[C13]
 refine R0 (Y102 hN hf A es cap hsm hle (hS.ext hE) k4 k5 (by omega) (by omega) (by omega)) ?_
 rintro r H6 n6 ⟨hn6,hfr,hres⟩
 have j3:=(hfr (nx+1) (by omega) (by omega) (by omega)).trans k3
 have hE6:D0 H nx H6 n6:=⟨by omega,fun i hi=>by rw[hfr i (by omega) (by omega) (by omega)];exact hE.get i hi⟩
 rcases hres with ⟨ht,r4,r5⟩ | ⟨a,b,c,ht,r4,r5⟩
 .simp (disch:=first|omega|assumption|exact G0 (by assumption)|exact U10 (by assumption)|exact X0 (by omega)|fail) only[W0,Z0,Nat.reduceAdd,r4,r5,j3,Y12,D7]
  exact⟨⟨none,ht,rfl⟩,(hE6.more (by omega)).hs (by omega)⟩
 .simp (disch:=first|omega|assumption|exact G0 (by assumption)|exact U10 (by assumption)|exact X0 (by omega)|fail) only[W0,Z0,Nat.reduceAdd,r4,r5,j3,Y12,D7]
  exact⟨⟨some (a,b,c),ht,rfl⟩,(hE6.more (by omega)).hs (by omega)⟩
end
section
variable {H:Y0} {nx:Nat}
def K36(N free:Int)(es:List Nat):Prop:=es.length<=8/\(N<=6\/32<N)/\(0<=free->free<=N->N<=32->N-free<=4)
theorem J67(N free:Int)(A:Option Addr)(es:List Nat)(cap:Nat)(H:Y0)(nx:Nat):
  Q2 Tryz.prog 9 [gv N A es.length cap,.int .i64 free] H nx fun r H' nx'=>(∃ c:Bool,r = .bool c/\(c=true->K36 N free es))/\D0 H nx H' nx':=by
 refine spec9 ?_;unfold F9;have E:D0 H nx (hs H nx (some (.cells [.int .i64 N,.slice A es.length cap] 0))) (nx+1):=(D0.refl H nx).new _ (aD _) (by omega)
 by_cases h1:(es.length:Int)<=8
 case neg=>
  simp(disch:=first|omega|assumption)only[W0,Z0,Q0.val,h1];exact⟨⟨false,rfl,fun h=>(by cases h)⟩,E⟩
 have J:∀ c:Bool,(c=true->(N<=6\/32<N)/\(0<=free->free<=N->N<=32->N-free<=4))->(∃ c':Bool,dU c = .bool c'/\(c'=true->K36 N free es))/\D0 H nx (hs H nx (some (.cells [.int .i64 N,.slice A es.length cap] 0))) (nx+1):=
  fun c hc=>⟨⟨c,rfl,fun h=>⟨by omega,hc h⟩⟩,E⟩
 have hw:0<=free->free<=N->N<=32->IntKind.i64.wrap (N-free)=N-free:=fun a b c=>Y23 (by omega) (by omega)
 by_cases h4:IntKind.i64.wrap (N-free)<=4
 .by_cases h2:N<=6
  .simp(disch:=first|omega|assumption)only[W0,Z0,Q0.val,h1,h2,R11,h4]
   exact J _ fun _=>⟨.inl h2,fun a b c=>by rw[hw a b c] at h4;exact h4⟩
  .by_cases h3:32<N
   .simp(disch:=first|omega|assumption)only[W0,Z0,Q0.val,h1,h2,h3,R11,h4]
    exact J _ fun _=>⟨.inr h3,fun a b c=>by omega⟩
   .simp(disch:=first|omega|assumption)only[W0,Z0,Q0.val,h1,h2,h3]
    exact⟨⟨false,rfl,fun h=>(by cases h)⟩,E⟩
 .have hf:∀ c:Bool,c=decide (free<0)->c=true->(0<=free->free<=N->N<=32->N-free<=4):=fun c hc h a=>by
   rw[hc] at h;simp at h;omega
  by_cases h2:N<=6
  .simp(disch:=first|omega|assumption)only[W0,Z0,Q0.val,h1,h2,R11,h4]
   exact J _ fun h=>⟨.inl h2,hf _ rfl h⟩
  .by_cases h3:32<N
   .simp(disch:=first|omega|assumption)only[W0,Z0,Q0.val,h1,h2,h3,R11,h4]
    exact J _ fun h=>⟨.inr h3,hf _ rfl h⟩
   .simp(disch:=first|omega|assumption)only[W0,Z0,Q0.val,h1,h2,h3]
    exact⟨⟨false,rfl,fun h=>(by cases h)⟩,E⟩
theorem G87{v:Value}{l:List Nat}(h:LsR l v H nx)(hl:l.length<=1000):Q2 Tryz.prog 26 [v] H nx fun r H' nx'=>LsR l r H' nx'/\D0 H nx H' nx':=by
 obtain⟨A,rfl,E,hS⟩:=h;refine spec26 ?_;unfold F26;simp only[W1];rw[G21]
 cases A with
 | none=>
  have J:=E.1 rfl;subst J;simp(disch:=first|omega|assumption)only[W0,Q0.val,Option.isNone];exact⟨C66 _ _,D0.refl _ _⟩
 | some a=>
  have O:l≠[]:=fun e=>by have:=E.2 e;cases this
  have Q:=List.length_pos_iff.2 O;simp(disch:=first|omega|assumption)only[W0,Q0.val,Option.isNone,U21];have hX:D0 H nx (hs H nx (some (.cells [] 0))) (nx+1):=(D0.refl H nx).new _ (aD _) (by omega);refine R20 (lo:=nx) (H0:=H) (l:=U4 (l.map fun(x:Nat)=>(x:Int))) (Z11 _ _ _) (aD _) (by omega) (B68 (hS.ext hX) (by rw[J6];omega) (by omega)) (K13 _) (by omega) (by omega) hX ?_;intro v1 H1 W _ V U;obtain⟨P,rfl,hP,_⟩:=V.sl;rw[J6];refine⟨⟨P,rfl,⟨fun e => ?_,fun e=>absurd e O⟩,hP⟩,U⟩;subst e;obtain⟨b,o,row,e,_⟩:=hP.open (i:=0) (by rw[J6];exact Q)
  cases e
def W14(es:List Nat)(N:Nat):Bool:=(aY N).all fun v=>R10 es (2^v)
theorem W49{N:Nat}(hN:N<=6)(A:Option Addr)(es:List Nat)(cap:Nat)(U:U14 es)(a0:es.length<=8)(H:Y0)(nx:Nat)(hS:Sl H nx A (K12 es)):
  Q2 Tryz.prog 28 [gv (N:Int) A es.length cap] H nx fun r H' nx'=>r = .bool (W14 es N)/\D0 H nx H' nx':=by
 refine spec28 ?_;unfold F28;have E:D0 H nx (hs H nx (some (.cells [.int .i64 N,.slice A es.length cap] 0))) (nx+1):=(D0.refl H nx).new _ (aD _) (by omega);have k1:J0 (hs H nx (some (.cells [.int .i64 N,.slice A es.length cap] 0))) nx=some (.cells [.int .i64 N,.slice A es.length cap] 0):=Z11 _ _ _;simp(disch:=first|omega|assumption)only[W0,Z0,Q0.val];generalize hs H nx (some (.cells [.int .i64 N,.slice A es.length cap] 0))=K at *
 refine B1 (m:=N) (fun m L H' nx'=>∃ i:Nat,m+i=N/\L=[.int .i64 (i:Int)]/\(∀ v,v<i->R10 es (2^v)=true)/\K=H'/\nx+1=nx') ?_ ⟨0,by omega,rfl,fun v h=>by omega,rfl,rfl⟩;rintro m ih L _ _ ⟨i,hm,rfl,O,rfl,rfl⟩ W
 by_cases hi:i<N
 .have J:(i:Int)<(N:Int):=by omega
  have Q:2^i<4294967296:=by
   have:2^i<=2^6:=aK (by omega) (by omega);omega
  have Z:i<32:=by omega
  have V:i<18446744073709551616:=by omega
  simp(disch:=first|omega|assumption)only[W0,k1,J,Z10 V];refine R0 (B45 Q A es cap _ _ (hS.ext E) U (by omega)) ?_;rintro _ _ _ ⟨rfl,rfl,rfl⟩;have hz:(R10 es (2^i) || decide (2^i=0))=R10 es (2^i):=by
   have:0<2^i:=aQ i;have e:decide (2^i=0)=false:=by simp
   rw[e,Bool.or_false]
  rw[hz]
  cases hb:R10 es (2^i) with
  | false=>
   simp(disch:=first|omega|assumption)only[W0];refine⟨?_,E⟩;have:W14 es N=false:=by
    rw[bN];intro h;have:=bW.1 h i (by simpa using hi);rw[hb] at this;cases this
   rw[this]
  | true=>
   simp(disch:=first|omega|assumption)only[W0];refine W (m-1) _ _ _ (by omega) ⟨i+1,by omega,by simp,fun v hv => ?_,rfl,rfl⟩
   by_cases e:v=i
   .subst e;exact hb
   .exact O v (by omega)
 .have J:¬ (i:Int)<(N:Int):=by omega
  simp(disch:=first|omega|assumption)only[W0,k1,J];refine⟨?_,E⟩;have:W14 es N=true:=bW.2 fun v hv=>O v (by have:=cW.1 hv;omega)
  rw[this]
def C5(N free:Int)(es:List Nat):Int:=if Q6 N free es≠0 then Q6 N free es else if W14 es N.toNat=true then 0 else 9
theorem C58{N free:Int}(A:Option Addr)(es:List Nat)(cap:Nat)(Q:U14 es)(hF:K36 N free es)(H:Y0)(nx:Nat)(hS:Sl H nx A (K12 es)):
  Q2 Tryz.prog 11 [gv N A es.length cap,.int .i64 free] H nx fun r H' nx'=>r = .int .i64 (C5 N free es)/\D0 H nx H' nx':=by
 refine spec11 ?_;unfold F11;have O:D0 H nx (hs H nx (some (.cells [.int .i64 N,.slice A es.length cap] 0))) (nx+1):=(D0.refl H nx).new _ (aD _) (by omega);have k1:J0 (hs H nx (some (.cells [.int .i64 N,.slice A es.length cap] 0))) nx=some (.cells [.int .i64 N,.slice A es.length cap] 0):=Z11 _ _ _;simp(disch:=first|omega|assumption)only[W0,Z0,Q0.val,C13];generalize hs H nx (some (.cells [.int .i64 N,.slice A es.length cap] 0))=K at *
 refine R0 (N11 N A es cap _ _ (hS.ext O) Q) ?_;rintro _ H2 nx2 ⟨rfl,J⟩;have k2:=(J.get nx (by omega)).trans k1;have E:=O.trans J
 by_cases hg:N3 N es≠0
 .have d1:decide (N3 N es≠0)=true:=by simp[hg]
  simp(disch:=first|omega|assumption)only[W0,d1];refine⟨?_,E⟩;have hf:Q6 N free es=N3 N es:=by unfold Q6;rw[if_pos hg]
  unfold C5;rw[hf,if_pos hg]
 have V:N3 N es=0:=aI hg;have d1:decide (N3 N es≠0)=false:=by simp[V]
 have hf:Q6 N free es=if free<0\/N<free then 3 else 0:=by unfold Q6;rw[if_neg hg]
 have c1:decide (free > N)=decide (N<free):=rfl;simp(disch:=first|omega|assumption)only[W0,d1];refine N5 (fun L' H' nx'=>L'=[.bool (decide (free<0\/N<free))]/\H2=H'/\nx2=nx') ?_ ?_
 .intro j hj
  by_cases q0:free<0
  .simp(disch:=first|omega|assumption)only[W0,decide_eq_true q0]
   exact hj _ _ _ ⟨by simp[q0],rfl,rfl⟩
  .simp(disch:=first|omega|assumption)only[W0,decide_eq_false q0,k2]
   exact hj _ _ _ ⟨by simp[q0],rfl,rfl⟩
 rintro L _ _ ⟨rfl,rfl,rfl⟩
 by_cases hr:free<0\/N<free
 .simp(disch:=first|omega|assumption)only[W0,decide_eq_true hr]
  refine⟨?_,E⟩;rw[if_pos hr] at hf;unfold C5;rw[hf];rfl
 rw[if_neg hr] at hf;obtain⟨n,f,rfl,rfl,_,_,_,a0⟩:=U27 hf;have W:n<=6:=by have:=hF.2.1;omega
 simp(disch:=first|omega|assumption)only[W0,decide_eq_false hr,k2,C13];refine R0 (W49 W A es cap Q hF.1 _ _ (hS.ext E)) ?_;rintro _ H3 Z ⟨rfl,U⟩;have hw:C5 n f es=if W14 es n=true then 0 else 9:=by
  unfold C5;rw[hf,if_neg (by simp)]
  rfl
 rw[hw]
 cases W14 es n with
 | true=>
  simp(disch:=first|omega|assumption)only[W0];exact E.trans U
 | false=>
  simp(disch:=first|omega|assumption)only[W0];exact E.trans U
theorem M67 {N:Nat} {es:List Nat} (hsm:∀ e ∈ es,e<2^N):W14 es N=true<->orF es es.length=2^N-1:=by
 have hb:∀ v,R10 es (2^v)=true<->∃ e ∈ es,e.testBit v=true:=fun v=>by
  unfold R10
  rw[List.any_eq_true]
  constructor
  .rintro⟨e,h1,h2⟩
   refine⟨e,h1,?_⟩
   have h3:=of_decide_eq_true h2
   have h4:=N1 (2^v) e v
   rw[h3,Nat.zero_testBit,Nat.testBit_two_pow_self] at h4
   simpa using h4.symm
  .rintro⟨e,h1,h2⟩
   refine⟨e,h1,decide_eq_true ?_⟩
   apply Nat.eq_of_testBit_eq
   intro w
   rw[N1,Nat.testBit_two_pow,Nat.zero_testBit]
   by_cases hw:v=w
   .subst hw;simp[h2]
   .simp[hw]
 unfold W14
 rw[List.all_eq_true]
 constructor
 .intro h
  apply Nat.eq_of_testBit_eq
  intro w
  rw[Nat.testBit_two_pow_sub_one]
  by_cases hw:w<N
  .rw[decide_eq_true hw]
   exact X37.2 ((hb w).1 (h w (by simpa using hw)))
  .rw[decide_eq_false hw,Bool.eq_false_iff]
   intro hh
   obtain⟨e,h1,h2⟩:=X37.1 hh
   exact hw (R7 (hsm e h1) h2)
 .intro h v hv
  rw[hb]
  exact X37.1 (by rw[h,Nat.testBit_two_pow_sub_one];simpa using hv)
end
end Go.Proofs.YtoiioigihocgbaaGreatDoor
namespace Go.Clo
theorem G40{a:Nat}(h:1<=a)(ha:a<4294967296)(k:VP):D10 .sub (.int .u32 (a:Int)) (.int .u32 1) k=k (.int .u32 ((a-1:Nat):Int)):=by
 rw[R11];have e:eW.wrap ((a:Int)-1)=((a-1:Nat):Int):=by
  simp only[eY,eK,dW];simp;omega
 rw[e]
end Go.Clo
namespace Go.Proofs.YtoiioigihocgbaaGreatDoor
open Go.Clo
theorem Y36{N free:Int}(A:Option Addr)(es:List Nat)(cap:Nat)(ae:U14 es)(hF:K36 N free es)(H:Y0)(nx:Nat)(hS:Sl H nx A (K12 es)):
  Q2 Tryz.prog 25 [gv N A es.length cap,.int .i64 free] H nx fun r H' nx'=>r = .int .i64 (C5 N free es)/\D0 H nx H' nx':=by
 refine spec25 ?_;unfold F25;have aa:D0 H nx (hs H nx (some (.cells [.int .i64 N,.slice A es.length cap] 0))) (nx+1):=(D0.refl H nx).new _ (aD _) (by omega);have k1:J0 (hs H nx (some (.cells [.int .i64 N,.slice A es.length cap] 0))) nx=some (.cells [.int .i64 N,.slice A es.length cap] 0):=Z11 _ _ _;simp(disch:=first|omega|assumption)only[W0,Z0,Q0.val,C13];generalize hs H nx (some (.cells [.int .i64 N,.slice A es.length cap] 0))=K at *
 refine R0 (N11 N A es cap _ _ (hS.ext aa) ae) ?_;rintro _ H2 nx2 ⟨rfl,a4⟩;have k2:=(a4.get nx (by omega)).trans k1;have E:=aa.trans a4;have bd:=a4.le
 by_cases hg:N3 N es≠0
 .have d1:decide (N3 N es≠0)=true:=by simp[hg]
  simp(disch:=first|omega|assumption)only[W0,d1];refine⟨?_,E⟩;have hf:Q6 N free es=N3 N es:=by unfold Q6;rw[if_pos hg]
  unfold C5;rw[hf,if_pos hg]
 have ap:N3 N es=0:=aI hg;have d1:decide (N3 N es≠0)=false:=by simp[ap]
 have hf:Q6 N free es=if free<0\/N<free then 3 else 0:=by unfold Q6;rw[if_neg hg]
 simp(disch:=first|omega|assumption)only[W0,d1];refine N5 (fun L' H' nx'=>L'=[.bool (decide (free<0\/N<free))]/\H2=H'/\nx2=nx') ?_ ?_
 .intro j hj
  by_cases q0:free<0
  .simp(disch:=first|omega|assumption)only[W0,decide_eq_true q0]
   exact hj _ _ _ ⟨by simp[q0],rfl,rfl⟩
  .simp(disch:=first|omega|assumption)only[W0,decide_eq_false q0,k2]
   exact hj _ _ _ ⟨by simp[q0],rfl,rfl⟩
 rintro L _ _ ⟨rfl,rfl,rfl⟩
 by_cases hr:free<0\/N<free
 .simp(disch:=first|omega|assumption)only[W0,decide_eq_true hr]
  refine⟨?_,E⟩;rw[if_pos hr] at hf;unfold C5;rw[hf];rfl
 rw[if_neg hr] at hf;obtain⟨n,f,rfl,rfl,_,aj,_,Z⟩:=U27 hf;have W:n<=6:=by have:=hF.2.1;omega
 have a8:=hF.1;have b5:2^n<=64:=aK (n:=2) (by omega) W;have bo:0<2^n:=aQ n;have bf:2^f<=2^n:=aK (n:=2) (by omega) aj;have bw:0<2^f:=aQ f;have hw:C5 n f es=if W14 es n=true then 0 else 9:=by
  unfold C5;rw[hf,if_neg (by simp)]
  rfl
 have ad:=M67 Z;simp(disch:=first|omega|assumption)only[W0,decide_eq_false hr,k2];have a0:=R58 Z;refine B1 (m:=es.length) (fun m L H' nx'=>∃ i:Nat,m+i=es.length/\L=[.int .u32 (orF es i:Int),.int .i64 (i:Int)]/\H2=H'/\nx2=nx') ?_ ⟨0,by omega,rfl,rfl,rfl⟩;rintro m2 bv L2 _ _ ⟨i2,bx,rfl,rfl,rfl⟩ ab
 by_cases ak:i2<es.length
 .have J:(i2:Int)<(es.length:Int):=by omega
  obtain⟨e,he⟩:∃ e,es[i2]? = some e:=⟨_,aE ak⟩
  obtain⟨B,o,row,rfl,b3,O,U⟩:=(hS.ext E).open (i:=i2) (by rw[E1];omega);have q0:=U _ _ (Q3 he);have bh:=ae.get he;have h1:=a0 i2 (by omega);have b8:orF es i2<4294967296:=by omega
  simp(disch:=first|omega|assumption)only[W0,J,X3 O,q0];exact ab (m2-1) _ _ _ (by omega) ⟨i2+1,by omega,by rw[C47 he];simp,rfl,rfl⟩
 have J:¬ (i2:Int)<(es.length:Int):=by omega
 obtain rfl:i2=es.length:=by omega
 have bg:=a0 es.length (aD _);have bk:n<32:=by omega
 have bu:f<32:=by omega
 have ah:2^n<4294967296:=by omega
 have ai:2^f<4294967296:=by omega
 have s1:=fun k=>G40 (a:=2^n) (by omega) ah k
 have s2:=fun k=>G40 (a:=2^f) (by omega) ai k
 have z1:decide ((orF es es.length:Int)≠((2^n-1:Nat):Int))=decide (orF es es.length≠2^n-1):=by congr 1;apply propext;omega
 by_cases V:orF es es.length≠2^n-1
 .have a3:W14 es n=false:=by rw[bN];exact fun h=>V (ad.1 h)
  simp(disch:=first|omega|assumption)only[W0,J,k2,s1,z1,decide_eq_true V];rw[hw,a3];exact⟨rfl,E⟩
 have a3:W14 es n=true:=ad.2 (aI V);have aq:2^n-1<4294967296:=by omega
 have a9:Z2 (2^n-1) (2^f-1)<4294967296:=U10 aq;simp(config:={ maxSteps:=2000000 }) (disch:=first|omega|assumption)only[W0,J,k2,s1,z1,decide_eq_false V,s2,C13];refine R0 (Q49 (hS.ext (E.more (show nx2<=nx2+9 by omega))) W Z a8 a9) ?_;rintro _ H6 n6 ⟨⟨B6,rfl,ao,ag⟩,a1⟩;have b4:=a1.le;have c6:=K46 es (Z2 (2^n-1) (2^f-1));have ac:=U67 (s:=Z2 (2^n-1) (2^f-1)) Z;generalize D14 es (Z2 (2^n-1) (2^f-1))=il at *
 have k6:=(a1.get nx (by omega)).trans k2;simp(config:={ maxSteps:=2000000 }) (disch:=first|omega|assumption)only[W0,Z0,Nat.reduceAdd,gv,G26,C13];have al:D0 H6 (nx2+7) (hs (hs H6 (nx2+7) (some (.cells [.int .i64 0,.slice none 0 0] 0))) (nx2+7) (some (.cells [.int .i64 (n:Int),.slice B6 il.length il.length] 0))) n6:=((D0.self (by omega):D0 H6 (nx2+7) H6 n6).hs (by omega)).hs (by omega);have av:Sl (hs (hs H6 (nx2+7) (some (.cells [.int .i64 0,.slice none 0 0] 0))) (nx2+7) (some (.cells [.int .i64 (n:Int),.slice B6 il.length il.length] 0))) n6 B6 (K12 il):=fun i u hu=>by
  obtain⟨b,o,row,rfl,h2,h3,h4⟩:=ao i u hu;have:=ag b o none rfl;refine⟨b,o,row,rfl,h2,?_,h4⟩;unfold Q5;rw[Z1 _ (by omega),Z1 _ (by omega)];exact h3
 generalize hs (hs H6 (nx2+7) (some (.cells [.int .i64 0,.slice none 0 0] 0))) (nx2+7) (some (.cells [.int .i64 (n:Int),.slice B6 il.length il.length] 0))=H8 at *
 have a5:D0 H nx H8 n6:=⟨by omega,fun i hi=>by rw[al.get i (by omega),a1.get i (by omega)];exact E.get i hi⟩
 refine R0 (U41 (cap:=il.length) av W ac (by omega)) ?_;rintro _ H9 n9 ⟨⟨B9,rfl,an⟩,ax⟩;obtain⟨au,_,_⟩:=M56 (es:=il) W;have bt:(D19 il n).length<=n:=E40 _ _ _ _;generalize D19 il n=cs at *
 simp(disch:=first|omega|assumption)only[W0];refine B1 (m:=cs.length) (fun m L H' nx'=>∃ i:Nat,m+i=cs.length/\L=[.int .i64 (i:Int)]/\D0 H9 n9 H' nx') ?_ ⟨0,by omega,rfl,D0.refl _ _⟩;rintro m ih L c4 c3 ⟨i,hm,rfl,Q⟩ az
 by_cases hi:i<cs.length
 .have a2:(i:Int)<(cs.length:Int):=by omega
  obtain⟨c,hc⟩:∃ c,cs[i]? = some c:=⟨_,aE hi⟩
  obtain⟨B,o,row,rfl,b3,O,U⟩:=(an.ext Q).open (i:=i) (by rw[E1];omega);have q0:=U _ _ (Q3 hc);obtain⟨cv,_,ay⟩:=au c (aH hc);have a7:c<64:=by have:=ay.lt;omega
  have ba:E9 c<=6:=Q15 _ _;simp(disch:=first|omega|assumption)only[W0,a2,X3 O,q0];refine R0 (R44 a7 _ _) ?_;rintro _ bz bc ⟨rfl,a6⟩;have aw:¬ (E9 c:Int) > 8:=by omega
  simp(disch:=first|omega|assumption)only[W0,aw];exact az (m-1) _ _ _ (by omega) ⟨i+1,by omega,by simp,Q.trans a6⟩
 .have a2:¬ (i:Int)<(cs.length:Int):=by omega
  simp(disch:=first|omega|assumption)only[W0,a2];rw[hw,a3];exact⟨rfl,(a5.trans ax).trans Q⟩
open Go.Inv
section
variable {N free:Int}
theorem Q48{es:List Nat}(h:C5 N free es=0):∃ n f:Nat,N=n/\free=f/\n<=32/\f<=n/\(∀ e ∈ es,e<2^n)/\∀ v,v<n->Q21 es v:=by
 have E:Q6 N free es=0:=by
  unfold C5 at h
  split at h
  .rename_i h1;exact absurd h h1
  .rename_i h1;exact aI h1
 obtain⟨n,f,rfl,rfl,U,O,_,Q⟩:=U27 E;have eN:((n:Nat):Int).toNat=n:=by omega
 have J:W14 es n=true:=by
  unfold C5 at h;rw[E,if_neg (by simp),eN] at h
  cases hc:W14 es n with
  | true=>rfl
  | false=>rw[hc] at h;simp at h
 refine⟨n,f,rfl,rfl,U,O,Q,fun v hv => ?_⟩;unfold W14 at J;rw[bW] at J;obtain⟨e,h1,h2⟩:=K58.1 (J v (cW.2 hv));exact⟨e,h1,h2 v (by rw[Nat.testBit_two_pow_self])⟩
end
end Go.Proofs.YtoiioigihocgbaaGreatDoor
