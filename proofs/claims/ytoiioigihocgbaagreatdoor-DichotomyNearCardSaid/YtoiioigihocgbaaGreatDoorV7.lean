/-
  THE STATEMENT DichotomyNear: for every input the law returns true,and each argument reads behind the call as it did (what the row lists of Go's tables is tied to the program's text). No condition.
  THE LAW DichotomyNear returns true.
  What the kinds of verdicts say;orders of the free variables.
  Contract: dichotomy.Decide.
  Contract: dichotomy.Nearest.
  Contracts: dichotomy.checkInput,Decide.
  Contracts: ordinallaw33.Few,ref.Same,slices.Clone,covered,wrong,checkInput.
  Contracts: trio.valid,visit,Find.
  Contract: connex.Path.
  Contracts: connex.below,connex.shortest.
  A graph as an argument,opened.
  The arguments of the law,opened;the listed table.
  'awake' of chapter 33 returns true: one run of the closed executor,which takes connex.walk's answer from its contract.
  Contract: connex.walk.
  slices.Backward over numbers,in general.
  A range over a function whose yields are known one by one: round k gets the values enc k;what holds ahead of round k is I k.
-/
import Derived.Test.YtoiioigihocgbaaGreatDoorV1
import Derived.RangeFuncBox
import Derived.RangeFuncLeaves
import Derived.RangeFuncWrites
import Derived.RangeFuncCalls
import Derived.Shelf.Abstract
import Derived.WalkKit
import Derived.OwnWalkIn
import Derived.TacticsInMore
import Derived.LoopNIn
import Derived.LoopIn
import Derived.Maps.AppendAt
import Derived.Test.YtoiioigihocgbaaGreatDoorV5
import Derived.Test.YtoiioigihocgbaaGreatDoorRows
import Derived.ProofKit
import Derived.OpenShut
import Derived.Lib.SmallJoins
import Derived.Deep.Strs
import Derived.SizedLaws
import Derived.LaidMore
import Derived.Lay
import Derived.Stop.Joined
import Derived.Test.YtoiioigihocgbaaGreatDoorV6
import Derived.Test.YtoiioigihocgbaaGreatDoorTie
import Derived.Test.YtoiioigihocgbaaGreatDoorCards
import Derived.SevenTiedAt
set_option maxHeartbeats 8000000
set_option maxRecDepth 100000
set_option linter.all false
noncomputable section
open Array renaming getElem?_eq_none->fK
open BitVec renaming ofInt->cT,toNat_ofNat->eP
open Bool renaming and_eq_true->aG,eq_false_iff->bN
open Classical renaming byContradiction->aI
open Go.IntKind renaming bits->dW,signed->eK,u32->eW,wrap->eY
open Go.OpenSpec renaming ofChange->gP
open Go.Proofs.Tryz renaming prog->gQ
open Go.Value renaming bool->dU,int->cD
open Go.World renaming putObj_heap_other->gF
open List renaming all_eq_true->bW,any_eq_true->dY,cons_append->dL,getD_eq_getElem?_getD->aP,getElem?_eq_getElem->aE,getElem?_eq_none->aT,getElem?_eq_some_iff->aJ,getElem?_map->cP,getElem?_set_ne->bL,getElem?_set_self->dG,length_cons->cV,length_map->gM,length_set->dO,mem_append_left->dX,mem_cons->aU,mem_map->gN,mem_of_getElem?->aH,mem_range->cW,mem_singleton->dJ,nil_append->eR,range->aY,replicate->aF
open List.cons renaming injEq->fM
open Nat renaming beq->bR,eq_of_beq_eq_true->bT,eq_of_testBit_eq->bZ,le_refl->aD,le_trans->bK,log2->bG,lt_of_le_of_lt->cE,lt_of_lt_of_le->aO,lt_or_ge->aW,mod_eq_of_lt->bV,mul_one->eQ,pow_le_pow_right->aK,testBit_and->bI,testBit_two_pow->aR,testBit_two_pow_sub_one->dC,two_pow_pos->aQ,zero_add->cF,zero_testBit->jQ
open Option renaming isSome_none->gO,map_eq_some_iff->bU
open Option.some renaming inj->fA,injEq->aZ
namespace Go.Clo
section
open Go.RowKit
theorem E32 {P:Program} {F:Fence} {n:Nat} {g:Operand} {ps:Array Tmp} {assign body:Code} {Q:Exit->Act->World->Prop} {a:Act} {w:World} (hro:F.round=none) (h1:1<=n) {gf:Nat} {lb:Array Value}
  (hg:a.eval g = .func (.func gf) #[] lb) (hFg:F.fn gf) (eg:∀ args w,(callFunc gf args).run P w = .ok (.enter gf args) w)
  {N:Nat} {enc:Nat->Array Value} (hps:∀ k,(enc k).size=ps.size) (I:Nat->World->Prop) (hI:OwnFrom w.heap.size I)
  (hgen:∀ (l:Nat) (J:Nat->World->Prop) (W:World),(∀ k W,J k W->I k W) ->
   (∀ k W1,k<N->J k W1->YieldAt F (n-1-1) P l (enc k) W1 fun e W'=>e = .returned (.bool true)/\J (k+1) W')->J 0 W ->
   CallsIn F (n-1) P gf (#[.func (.yield l) #[] #[]]++lb) W fun e W'=>(∃ v,e = .returned v)/\J N W')
  (h0:I 0 w) (a₁:Nat->Act)
  (hassign:∀ (l k:Nat) (W:World) (K:Act->World->Prop),K (a₁ k) W ->
   assign.wpIn (F.inRound l) (n-1-1) P (Exit.then K (fun _ _ _=>False)) { tmps:=(ps.zip (enc k)).foldl (fun t (p,v)=>t.setIfInBounds p v) a.tmps,defers:=[] } W)
  (hbody:∀ (l k:Nat) (W:World),k<N->I k W->body.wpIn (F.inRound l) (n-1-1) P (fun e _ W'=>e = .normal/\KeepsFrom w.heap.size W W'/\I (k+1) W') (a₁ k) W)
  (hdone:∀ (D:Nat) (W:World),w.heap.size<=D->I N W->W.heap[D]? = some (.deferred (some []))->Q .normal { a with defers:={ target := .collected D,args := #[] } :: a.defers } W):
  (Code.rangeFunc g ps assign body).wpIn F n P Q a w:=by
 refine wpIn_rangeFunc fun fn hfn => ?_
 rw[hro]
 let L (st:LoopState):Obj := .loop { state:=st,pending:=none,fn,tmps:=a.tmps,params:=ps,assign,body,defers:=w.heap.size }
 let l:=w.heap.size+1
 let D:=w.heap.size
 have hA:(w.alloc (.deferred (some []))).heap.size=l:=by simp[l]
 have e1:((w.alloc (.deferred (some []))).alloc (L .ready)).heap[l]? = some (L .ready):=by
  have:=World.alloc_heap_new (w.alloc (.deferred (some []))) (L .ready)
  rwa [hA] at this
 have e2:((w.alloc (.deferred (some []))).alloc (L .ready)).heap[D]? = some (.deferred (some [])):=
  (Below.heap_alloc _ _ _ (by simp[D])).trans (World.alloc_heap_new w _)
 refine⟨l,[{ target := .collected D,args := #[] }],((w.alloc (.deferred (some []))).alloc (L .ready)),{ target := .fn (.func gf) lb,args := #[.func (.yield l) #[] #[]] },((w.alloc (.deferred (some []))).alloc (L .ready)),gf,#[.func (.yield l) #[] #[]]++lb,((w.alloc (.deferred (some []))).alloc (L .ready)),run_enterLoop_outer _ _ _ _ _,?_,?_,?_,fun _=>h1,?_⟩
 .simp only[resolve,hg]
  simp[go_sem]
 .intro f' hf'
  simp[Target.leads] at hf'
  subst hf'
  exact hFg
 .simp[invoke,go_sem,eg]
 .refine (hgen l (fun k W=>I k W/\W.heap[l]? = some (L .ready)/\W.heap[D]? = some (.deferred (some []))) _ (fun k W h=>h.1) ?_ ⟨hI.alloc _ (hI.alloc _ h0),e1,e2⟩).mono ?_
  .rintro k W hk ⟨hi,hl,hd⟩
   have hlt:l<W.heap.size:=(Array.getElem?_eq_some_iff.1 hl).1
   have hne:D≠l:=by simp[D,l]
   refine⟨fn,_,assign,body,run_yield (P:=P) (args:=enc k) hl (hps k),roundIn_of_wpIn hfn (hassign _ k W _ ⟨_,run_beginRound hl rfl,?_⟩)⟩
   have g1:(W.putObj l (L .busy)).heap[l]? = some (L .busy):=World.putObj_heap_same hlt
   have g2:(W.putObj l (L .busy)).heap[D]? = some (.deferred (some [])):=(World.putObj_heap_other hne).trans hd
   refine wpIn_mono (hbody _ k _ hk (hI.putObj _ hi (by simp[l]) hl rfl)) ?_
   rintro e a3 W3 ⟨rfl,hkeep,hi3⟩
   have k1:=hkeep.same _ _ (by simp[l]) g1 rfl
   have k2:=hkeep.same _ _ (Nat.le_refl _) g2 rfl
   refine⟨_,_,run_endRound (P:=P) none k1,rfl,hI.putObj _ hi3 (by simp[l]) k1 rfl,World.putObj_heap_same (Array.getElem?_eq_some_iff.1 k1).1,(World.putObj_heap_other hne).trans k2⟩
  .rintro e W2 ⟨⟨v,rfl⟩,hi,hl,hd⟩
   exact⟨none,_,run_endLoop (P:=P) hl (by simp),hdone _ _ (Nat.le_refl _) (hI.putObj _ hi (by simp[l]) hl rfl) ((World.putObj_heap_other (by simp[D,l])).trans hd)⟩
end
end Go.Clo
namespace Go.Proofs.YtoiioigihocgbaaGreatDoor
section
open Go.RowKit Go.Shelf Go.Clo
attribute [local go_sem] Oper.semAt_some
theorem V49(F:Fence)(n:Nat)(h7:F.fn 93)(a1:F.round=none)(hn:1<=n)(l Bs Bo b off cap len:Nat)(st:Nat->Nat)(a3:len<=100)(J:Nat->World->Prop)
  (hJ:∀ k W,J k W->W.cell? ⟨Bs,Bo,none⟩=some (.slice (some ⟨b,off,none⟩) len cap)/\∀ i,i<len->W.cell? ⟨b,off+i,none⟩=some (.int .u32 (st i:Int)))
  (hY:∀ k W1,k<len->J k W1->YieldAt F (n-1) gQ l #[.int .i64 ((len-1-k:Nat):Int),.int .u32 (st (len-1-k):Int)] W1 fun e W'=>e = .returned (.bool true)/\J (k+1) W')(W:World)(h0:J 0 W):
  CallsIn F n gQ 93 #[.func (.yield l) #[] #[],.pointer (some ⟨Bs,Bo,none⟩)] W fun e W'=>(∃ v,e = .returned v)/\J len W':=by
 refine callsIn_of_wp Tryz.func93 rfl h7 ?_ a1;simp only[Tryz.ntmps93,List.size_toArray,cV,List.length_nil,Nat.reduceAdd,Nat.reduceSub,Array.replicate_succ,Array.replicate_zero,List.push_toArray,List.append_toArray,eR,dL];obtain⟨a7,a8⟩:=hJ 0 W h0;have Q:IntKind.i64.wrap ((len:Int)-1)=(len:Int)-1:=Y23 O0 O0
 gi_wp2
 gi_loopw [3] (fun i wr=>∃ k:Nat,k<=len/\i = .int .i64 ((len:Int)-1-(k:Int))/\J k wr)
  (fun i _=>(intOf i+1).toNat)
 case atStart=>exact⟨0,O0,by first | (simp[]) | skip,h0⟩
 case round=>
  obtain⟨k,hk,rfl,O⟩:=hrel;obtain⟨a4,a2⟩:=hJ k wr O
  by_cases Z:k<len
  .obtain⟨fn,tmps,E,body,U,hR⟩:=hY k wr Z O
   obtain⟨j,hj⟩:∃ j:Nat,j=len-1-k:=⟨_,rfl⟩
   have ej:(len:Int)-1-(k:Int)=(j:Int):=O0;have a0:j<len:=O0;rw[<- hj] at U;rw[ej];have hy:Sem.run gQ (Instr.yield l #[cD IntKind.i64 (j:Int),cD eW (st j:Int)]) wr=Result.ok (Next.round l fn tmps E body) wr:=U;have a6:=a2 j a0;have a5:(j:Int) ≥ 0:=O0;have a9:j+k+1=len:=O0;clear hj ej
   gi_wp2
   refine hR.mono ?_;rintro e W3 ⟨rfl,V⟩
   gi_wp2
   go_roundw
   case rel=>exact⟨k+1,O0,by simp;omega,V⟩
   case measure=>simp[intOf]
  .obtain rfl:k=len:=O0
   have e1:(k:Int)-1-(k:Int) = -1:=O0;rw[e1]
   gi_wp2
   go_end0
   exact⟨⟨_,rfl⟩,O⟩
end
end Go.Proofs.YtoiioigihocgbaaGreatDoor
namespace Go.Clo
theorem J54(aL:List Nat)(inn last len first k:Nat):(aY (k+1+1)).map (fun i=>cD .i64 (Q7 aL inn last len first i:Int))=(aY (k+1)).map (fun i=>cD .i64 (Q7 aL inn last len first i:Int))++[.int .i64 (Q7 aL inn last len first (k+1):Int)]:=by
 rw[List.range_succ (n:=k+1),List.map_append];rfl
end Go.Clo
namespace Go.Proofs.YtoiioigihocgbaaGreatDoor
section
open Go.RowKit Go.Shelf Go.Clo
attribute [local go_sem] Oper.semAt_some
theorem Y59(F:Fence)(n:Nat)(h:F.fn 72)(E:F.round=none)(A:Option Addr)(m c:Nat)(w:World):CallsIn F n gQ 72 #[.slice A m c] w fun e w'=>e = .returned (.func (.func 93) #[] #[.pointer (some ⟨w.heap.size,0,none⟩)])/\w'=w.alloc (.cells #[.slice A m c] 22):=by
 refine callsIn_of_wp Tryz.func72 rfl h ?_ E;simp only[Tryz.ntmps72,List.size_toArray,cV,List.length_nil,Nat.reduceAdd,Nat.reduceSub,Array.replicate_succ,Array.replicate_zero,List.push_toArray,List.append_toArray,eR,dL]
 gi_wp2
 go_ret
 exact⟨rfl,rfl⟩
theorem B70:(gQ.info? 3).map (fun i=>(i.zero,i.size,i.bytes))=some (some (.int .i64 0),1,8):=by kernel_rfl
def W6(aL:List Nat)(inn last len first k:Nat):List Value:=(aY k).map fun i => .int .i64 (Q7 aL inn last len first i:Int)
theorem C62{a b:Nat}(ha:a<4294967296)(hb:b<4294967296):bits .and .u32 (a:Int) (b:Int)=((a &&& b:Nat):Int):=by
 have e:bits .and .u32 (a:Int) (b:Int)=eW.wrap (((cT 32 (a:Int)) &&& (cT 32 (b:Int))).toNat:Int):=rfl;rw[e,W10,W10,BitVec.toNat_and,eP,eP,bV ha,bV hb,D15 (D52 ha)]
theorem E33 {aL:List Nat} {N:Nat} (hN:N<=6) (hL:NbL aL N) (hsym:∀ u w,(aL.getD u 0).testBit w=true->(aL.getD w 0).testBit u=true) {inn last first len:Nat} (hi:inn<2^N) (hla:last<2^N) (hf:first<N) (h1:1<=len) (hlen:len<=100)
  (hst:U5 aL inn last (len-1) &&& aL.getD first 0≠0) (w:World) (hg:GlW w):
  Calls Tryz.prog 37 (Z8 aL inn first last len).toArray w fun e W'=>∃ v,e = .returned v/\W'.ownsRow w.heap.size 3 1 v (len+1) (W6 aL inn last len first (len+1))/\Below w.heap.size w W':=by
 have hp64:2^N<=64:=Nat.pow_le_pow_right (n:=2) (by omega) hN
 have hcur:=J58 (aL:=aL) (inn:=inn) (last:=last) (N:=N) hN hL.lt hsym hi hla hf hst
 have hf100:first<100:=by omega
 refine callsIn_wide.1 (callsIn_of_wp_marks (n:=5) Tryz.func37 rfl trivial ?_ rfl)
 refine V64 hN hL hi hla hf100 h1 hlen w hg _ _ ?_
 rintro⟨tmps,defers⟩ w' B0 o0 S os cs hd hsz h2 h5 h11 cA cS hgl hbe hB hS
 dsimp only at hd hsz h2 h5 h11
 subst hd
 obtain⟨x0,x1,x2,x3,x4,x5,x6,x7,x8,x9,x10,x11,x12,x13,x14,x15,x16,x17,x18,x19,x20,x21,x22,x23,x24,x25,x26,x27,x28,x29,x30,x31,x32,x33,x34,x35,x36,x37,x38,x39,x40,x41,x42,x43,x44,x45,x46,x47,x48,x49,x50,x51,x52,x53,x54,x55,x56,x57,rfl⟩:=R70 tmps hsz
 have h2':x2 = .int .i64 (first:Int):=h2
 have h5':x5 = .pointer (some ⟨B0,o0,none⟩):=h5
 have h11':x11 = .slice (some ⟨S,os,none⟩) len cs:=h11
 subst h2' h5' h11'
 clear h2 h5 h11 hsz
 obtain⟨i0,hi0,hz0,hz1,hz2⟩:=info_parts B70
 have hmax:(1000:Nat)<=maxLen:=by decide
 gi_wp2
 refine⟨trivial,(Y59 Fence.wide 4 trivial rfl _ _ _ _).mono ?_⟩
 rintro e w'' ⟨rfl,rfl⟩
 gi_wp2
 have bO:Boxed (((w'.alloc (.cells #[.int .i64 (first:Int)] 3)).alloc (.cells #[.slice (some ⟨w'.heap.size,0,none⟩) 1 1] 27)).alloc (.cells #[.slice (some ⟨S,os,none⟩) len cs] 22)) (w'.heap.size+1) 27 (.slice (some ⟨w'.heap.size,0,none⟩) 1 1):=by
  have:=(Boxed.new (w'.alloc (.cells #[.int .i64 (first:Int)] 3)) 27 (.slice (some ⟨w'.heap.size,0,none⟩) 1 1)).alloc (.cells #[.slice (some ⟨S,os,none⟩) len cs] 22)
  simpa using this
 have bC:Boxed (((w'.alloc (.cells #[.int .i64 (first:Int)] 3)).alloc (.cells #[.slice (some ⟨w'.heap.size,0,none⟩) 1 1] 27)).alloc (.cells #[.slice (some ⟨S,os,none⟩) len cs] 22)) (w'.heap.size+2) 22 (.slice (some ⟨S,os,none⟩) len cs):=by
  have:=Boxed.new ((w'.alloc (.cells #[.int .i64 (first:Int)] 3)).alloc (.cells #[.slice (some ⟨w'.heap.size,0,none⟩) 1 1] 27)) 22 (.slice (some ⟨S,os,none⟩) len cs)
  simpa using this
 have row0:World.ownsRow (((w'.alloc (.cells #[.int .i64 (first:Int)] 3)).alloc (.cells #[.slice (some ⟨w'.heap.size,0,none⟩) 1 1] 27)).alloc (.cells #[.slice (some ⟨S,os,none⟩) len cs] 22)) w'.heap.size 3 1 (.slice (some ⟨w'.heap.size,0,none⟩) 1 1) 1 [.int .i64 (first:Int)]:=
  ((World.ownsRow_lit (base:=w'.heap.size) (e:=3) (size:=1) w' #[.int .i64 (first:Int)] 1 (Nat.le_refl _) (by decide) rfl).alloc _).alloc _
 have be0:Below w'.heap.size w' (((w'.alloc (.cells #[.int .i64 (first:Int)] 3)).alloc (.cells #[.slice (some ⟨w'.heap.size,0,none⟩) 1 1] 27)).alloc (.cells #[.slice (some ⟨S,os,none⟩) len cs] 22)):=
  (((Below.refl _ w').alloc (Nat.le_refl _) _).alloc (by simp) _).alloc (by simp;omega) _
 have hsz:(((w'.alloc (.cells #[.int .i64 (first:Int)] 3)).alloc (.cells #[.slice (some ⟨w'.heap.size,0,none⟩) 1 1] 27)).alloc (.cells #[.slice (some ⟨S,os,none⟩) len cs] 22)).heap.size=w'.heap.size+3:=by simp
 have step:∀ (k:Nat) (W w1:World) (v v':Value) (tmp:Obj),Boxed W (w'.heap.size+1) 27 v->W.ownsRow w'.heap.size 3 1 v (k+1) (W6 aL inn last len first (k+1))->Boxed W (w'.heap.size+2) 22 (.slice (some ⟨S,os,none⟩) len cs)->Below w'.heap.size w' W ->
   w1.ownsRow w'.heap.size 3 1 v' (k+1+1) (W6 aL inn last len first (k+1+1))->(W.alloc tmp).grownBy w1 v.ownBlock ->
   KeepsFrom (w'.heap.size+3) W (w1.setCell ⟨w'.heap.size+1,0,none⟩ v')/\(∃ v,Boxed (w1.setCell ⟨w'.heap.size+1,0,none⟩ v') (w'.heap.size+1) 27 v/\(w1.setCell ⟨w'.heap.size+1,0,none⟩ v').ownsRow w'.heap.size 3 1 v (k+1+1) (W6 aL inn last len first (k+1+1))/\True)/\Boxed (w1.setCell ⟨w'.heap.size+1,0,none⟩ v') (w'.heap.size+2) 22 (.slice (some ⟨S,os,none⟩) len cs)/\Below w'.heap.size w' (w1.setCell ⟨w'.heap.size+1,0,none⟩ v')/\Boxed w1 (w'.heap.size+1) 27 v:=by
  intro k W w1 v v' tmp hv hrow hC hB hown' hgrow
  obtain⟨hv1,hv2,hr2,hk2,hb2⟩:=hv.appended (by decide) hrow hB.size (by omega) hown' hgrow
  refine⟨hk2.from _,⟨_,hv2,hr2,trivial⟩,?_,hB.trans hb2,hv1⟩
  exact ((hC.alloc tmp).kept hgrow (hC.not_row (by decide) hrow)).kept (grownBy_setCell' w1 (w'.heap.size+1) v') (by simp)
 refine E32 (N:=len) (enc:=fun k => #[.int .i64 ((len-1-k:Nat):Int),.int .u32 (U5 aL inn last (len-1-k):Int)]) rfl (by omega) (gf:=93) (lb := #[.pointer (some ⟨w'.heap.size+2,0,none⟩)]) rfl trivial (enters_of Tryz.func93 (by kernel_rfl) rfl) (fun _=>rfl)
  (fun k W=>(∃ v,Boxed W (w'.heap.size+1) 27 v/\W.ownsRow w'.heap.size 3 1 v (k+1) (W6 aL inn last len first (k+1))/\True)/\Boxed W (w'.heap.size+2) 22 (.slice (some ⟨S,os,none⟩) len cs)/\Below w'.heap.size w' W)
  (OwnFrom.and (Own.from (holdsRow_own w'.heap.size (w'.heap.size+1) 27 3 1 (fun k=>k+1) (fun k=>W6 aL inn last len first (k+1)) (fun _ _=>True)) _) (OwnFrom.and ?ownC (ownFrom_below (Nat.le_refl _) (by rw[hsz];omega))))
  ?gen ⟨⟨_,bO,row0,trivial⟩,bC,be0⟩ (fun k=>{ tmps := #[x0,x1,.int .i64 (first:Int),x3,x4,.pointer (some ⟨B0,o0,none⟩),x6,x7,x8,x9,x10,.slice (some ⟨S,os,none⟩) len cs,.pointer (some ⟨w'.heap.size+1,0,none⟩),x13,.int .u32 (U5 aL inn last (len-1-k):Int),x15,x16,x17,x18,x19,x20,x21,x22,x23,x24,x25,x26,x27,x28,x29,x30,x31,x32,x33,x34,x35,.int .i64 (first:Int),.slice (some ⟨w'.heap.size,0,none⟩) 1 1,.slice (some ⟨S,os,none⟩) len cs,.func (.func 93) #[] #[.pointer (some ⟨w'.heap.size+2,0,none⟩)],.int .i64 ((len-1-k:Nat):Int),.int .u32 (U5 aL inn last (len-1-k):Int),x42,x43,x44,x45,x46,x47,x48,x49,x50,x51,x52,x53,x54,x55,x56,x57],defers:=[] }) ?assign ?body ?done
 case ownC=>
  intro s W W' row h hgr hr
  refine Boxed.kept h hgr fun e => ?_
  obtain⟨_,o,ho,hc⟩:=hr _ e.symm
  rw[show W.heap[_]? = _ from h] at ho
  cases ho
  cases hc
 case gen=>
  intro l J W hJ hY h0
  exact V49 Fence.wide 4 trivial rfl (by omega) l (w'.heap.size+2) 0 S os cs len (U5 aL inn last) hlen J (fun k W hj=>by
   obtain⟨_,hC,hB'⟩:=hJ k W hj
   exact⟨hC.cell,fun i hi=>(hB'.cell (p:=⟨S,os+i,none⟩) hS).trans (cS i hi)⟩) hY W h0
 case assign=>
  intro l k W K hK
  gi_wp2
  exact hK
 case body=>
  rintro l k W hk ⟨⟨v,hv,hrow,_⟩,hC,hB'⟩
  have gW:GlW W:=hgl.step fun x hx=>hB'.block _ (hgl x hx).1
  obtain⟨hck,hcne⟩:=hcur k hk
  obtain⟨x,gx,gx2,gxD⟩:=hL.at (u:=Q7 aL inn last len first k) (by omega)
  have nx:W.cell? ⟨B0,o0+Q7 aL inn last len first k,none⟩=some (.int .u32 (x:Int)):=(hB'.cell (p:=⟨B0,o0+Q7 aL inn last len first k,none⟩) hB).trans (cA _ _ gx)
  obtain⟨g,cap,rfl⟩:=ownsRow_succ hrow
  have hc:=hv.cell
  have hsW:=hB'.size
  have pk:W.cell? ⟨g,k,none⟩=some (.int .i64 (Q7 aL inn last len first k:Int)):=by
   have:=hrow.cellAt k (by simp[])
   simpa [W6] using this
  have hsl:=R42 (aL:=aL) hi hla (len-1-k)
  have hnext:Q7 aL inn last len first (k+1)=tz (U5 aL inn last (len-1-k) &&& x):=by rw[Q7,gxD]
  rw[gxD] at hcne
  have hband:=C62 (a:=U5 aL inn last (len-1-k)) (b:=x) (by omega) (by omega)
  generalize hs:U5 aL inn last (len-1-k)=s at *
  generalize hcu:Q7 aL inn last len first k=c at *
  have hx64:s &&& x<64:=by have:=W37 (b:=x) hsl;omega
  have htz:deB[tzi (s &&& x)]? = some (tz (s &&& x)):=G58 _ hx64 (by omega)
  have htz32:tz (s &&& x)<32:=by have:=(N43 (s &&& x) hx64 (by omega)).2;omega
  have ek:IntKind.i64.wrap (((k+1:Nat):Int)-1)=(k:Int):=by rw[Y23 (by omega) (by omega)];omega
  have ek2:((k+1:Nat):Int)-1=(k:Int):=by omega
  have c32:c<32:=by omega
  gi_wp2
  have hpn:W6 aL inn last len first (k+1+1)=W6 aL inn last len first (k+1)++[.int .i64 (tz (s &&& x):Int)]:=by
   unfold W6
   rw[J54,hnext]
  generalize tz (s &&& x)=tx at *
  refine⟨trivial,(CallsIn.inRound l (E70 (by omega) hx64 Fence.wide _ trivial rfl W tx (N65 gW htz) htz32)).mono ?_⟩
  rintro e W2 ⟨rfl,e2⟩
  rw[e2]
  gi_wp2_with (gi_at_builtin;refine wpListIn_append_own _ rfl _ _ 27 rfl w'.heap.size 3 i0 (.int .i64 0) 1 8 Tryz.underlying27 hi0 hz0 hz1 hz2 rfl (by decide) _ _ _ rfl (hrow.alloc _) ⟨W.heap.size,0,none⟩ 1 1 [.int .i64 (tx:Int)] rfl rfl (cell_one_new _ _ _) (by simp[Value.oneCell']) (by omega) (by omega) (by simp;omega) ?_;intro v' w1 hown0 hgrow _;have hown':w1.ownsRow w'.heap.size 3 1 v' (k+1+1) (W6 aL inn last len first (k+1+1)):=(by rw[hpn];exact hown0);obtain⟨g',cap',rfl⟩:=ownsRow_succ hown';obtain⟨q1,q2,q3,q4,q5⟩:=step k W w1 _ _ _ hv hrow hC hB' hown' hgrow;have hc1:=q5.cell;have hf1:=q5.frozen)
  obtain⟨v2,z1,z2,_⟩:=q2
  rw[hpn] at z2
  exact⟨v2,z1,z2⟩
 case done=>
  rintro D W hD ⟨⟨v,hv,hrow,_⟩,hC,hB'⟩ hK
  have hc:=hv.cell
  gi_wp2
  refine⟨by simp,.inl ⟨_,_,rfl,run_takeDeferred hK,?_⟩⟩
  have hr:=ownsRow_putObj hrow (.deferred none) hK rfl
  refine⟨_,results_tmp rfl _ _ _,v,rfl,⟨hr.1,hr.2.imp id fun⟨g,cap,cur,e,hb,rest⟩=>⟨g,cap,cur,e,Nat.le_trans hbe.size hb,rest⟩⟩,hbe.trans ((hB'.trans (belowK_b (w:=w') (Nat.le_refl _) W D _ _ (by rw[hsz] at hD;omega) hK rfl rfl)).mono hbe.size)⟩
theorem N40:∀ l:List Int,(U4 l).all M4=true
 | []=>rfl
 | x :: l=>N40 l
theorem C29:Go.Clo.Enters gQ 37:=⟨_,_,Tryz.func37,rfl,by kernel_rfl⟩
theorem U40{F:FM}{aL:List Nat}{inn first last len:Nat}{E:List Value}(h:VL F (Z8 aL inn first last len) E):E=Z8 aL inn first last len:=by
 cases h with
 | cons h0 h=>
 cases h with
 | cons h1 h=>
 cases h with
 | cons h2 h=>
 cases h with
 | cons h3 h=>
 cases h with
 | cons h4 h=>
 cases h
 cases h1;cases h2;cases h3;cases h4
 obtain⟨x',rfl,hx⟩:=h0.agg_inv;have:=J19 hx (J25 aL);obtain⟨l⟩:=x';simp only at this;subst this
 rfl
theorem C38(aL:List Nat)(inn last len first k:Nat):W6 aL inn last len first k=U4 (((aY k).map (Q7 aL inn last len first)).map fun(x:Nat)=>(x:Int)):=by
 unfold W6 U4;rw[List.map_map,List.map_map];rfl
theorem E64{aL:List Nat}{N:Nat}(hN:N<=6)(hL:NbL aL N)(V:∀ u w,(aL.getD u 0).testBit w=true->(aL.getD w 0).testBit u=true){inn last first len:Nat}(hi:inn<2^N)(a0:last<2^N)(hf:first<N)(h1:1<=len)(U:len<=100)
  (E:U5 aL inn last (len-1) &&& aL.getD first 0≠0)(H:Y0)(nx:Nat):
  Q2 gQ 37 (Z8 aL inn first last len) H nx fun r H' nx'=>LsR ((aY (len+1)).map (Q7 aL inn last len first)) r H' nx'/\D0 H nx H' nx':=by
 have Q:(W6 aL inn last len first (len+1)).length=len+1:=by simp[W6]
 have hE:D0 H nx (Go.Clo.hs H nx (some (.cells (W6 aL inn last len first (len+1)) 1))) (nx+1):=(D0.refl H nx).nw _;refine⟨.slice (some ⟨nx,0,none⟩) (len+1) (len+1),Go.Clo.hs H nx (some (.cells (W6 aL inn last len first (len+1)) 1)),nx+1,⟨C29,fun F Z w hh hl => ?_⟩,⟨⟨some ⟨nx,0,none⟩,O2,⟨fun h=>(by cases h),fun h=>(by have:=congrArg List.length h;simp at this)⟩,?_⟩,hE⟩⟩
 .have ea:=U40 hl
  subst ea;refine(E33 hN hL V hi a0 hf h1 U E w hh.gl.1).mono fun e w' ⟨v,he,O,hb⟩ => ?_
  rcases O.2 with ⟨_,h0⟩ | ⟨g,cp,a1,rfl,hg,hc,h1,W,h3,h4⟩
  .omega
  .obtain⟨F',J,E⟩:=N2.row (xs:=W6 aL inn last len first (len+1)) hh hb hg hc (by rw[Q];exact h1) (by simpa using h3) (by simpa [W6] using h4) (bK W (by decide)) (by rw[C38];exact N40 _)
   rw[Q] at J;exact⟨_,F',he,J,E⟩
 .intro i u hu
  refine⟨nx,0,W6 aL inn last len first (len+1),rfl,O0,by rw[Q5,Z11];rfl,?_⟩;rw[cF,C38];exact hu
end
section
open Go.RowKit Go.Shelf Go.Clo
def nbL:List Nat:=[4,4,3,0,0,0,0,0,0,0,0,0,0,0,0,0,0,0,0,0,0,0,0,0,0,0,0,0,0,0,0,0]
def V23(k:IntKind)(n:Nat):Value->Bool
 | .int k' (.ofNat m)=>eqK k k'&&bR m n
 | _=>false
theorem D62{a b:IntKind}(h:eqK a b=true):a=b:=by cases a<;>cases b<;>first | rfl | cases h
theorem C19{k:IntKind}{n:Nat}:∀ {v:Value},V23 k n v=true->v = .int k (n:Int)
 | .int k' (.ofNat m),h=>by
  simp only[V23,aG] at h;rw[<- D62 h.1,bT h.2];rfl
def R35(k:IntKind):List Nat->List Value->Bool
 | [],[]=>true
 | n :: ns,v :: vs=>V23 k n v&&R35 k ns vs
 | _,_=>false
theorem B40{k:IntKind}:∀ {ns:List Nat} {vs:List Value},R35 k ns vs=true->vs=ns.map fun(n:Nat)=>cD k (n:Int)
 | [],[],_=>rfl
 | n :: ns,v :: vs,h=>by
  simp only[R35,aG] at h;rw[List.map_cons,C19 h.1,<- B40 h.2]
def K33:List Value->Bool
 | [.agg ⟨l⟩,a,b,c,d]=>R35 .u32 nbL l&&(V23 .u32 4 a&&(V23 .i64 0 b&&(V23 .u32 2 c&&V23 .i64 2 d)))
 | _=>false
theorem Q56:∀{args:List Value},K33 args=true->args=Z8 nbL 4 0 2 2
 | [.agg ⟨l⟩,a,b,c,d],h=>by
  simp only[K33,aG] at h;obtain⟨h1,h2,h3,h4,h5⟩:=h;rw[B40 h1,C19 h2,C19 h3,C19 h4,C19 h5];rfl
def C35:List Value:=[.int .i64 0,.int .i64 2,.int .i64 1]
def U65(args:List Value)(H:Y0)(nx:Nat):Option (Value × Y0 × Nat):=
 cond (K33 args) (some (.slice (some ⟨nx,0,none⟩) 3 3,hs H nx (some (.cells C35 1)),nx+1)) none
def K64:Orc:=fun f=>cond (bR f 37) (some U65) none
theorem Y65:NbL nbL 3:=⟨rfl,by
 intro u x h;have hx:x ∈ nbL:=aH h;have:∀ y ∈ nbL,y<2^3:=by decide
 exact this x hx⟩
theorem M69:∀ u w,(nbL.getD u 0).testBit w=true->(nbL.getD w 0).testBit u=true:=by
 intro u w h;have hu:u<32:=by
  refine aI fun hn => ?_
  rw[aP,aT (by show 32<=u;omega)] at h;simp at h
 have hw:w<3:=by
  obtain⟨x,gx,J,E⟩:=Y65.at hu;rw[E] at h;exact R7 J h
 have key:∀ u,u<32->∀ w,w<3->(nbL.getD u 0).testBit w=true->(nbL.getD w 0).testBit u=true:=by decide
 exact key u hu w hw h
theorem U66:W6 nbL 4 2 2 0 3=C35:=by
 have h1:Q7 nbL 4 2 2 0 1=2:=by decide
 have h2:Q7 nbL 4 2 2 0 2=1:=by decide
 show [cD .i64 ((0:Nat):Int),.int .i64 (Q7 nbL 4 2 2 0 1:Int),.int .i64 (Q7 nbL 4 2 2 0 2:Int)]=C35;rw[h1,h2];rfl
theorem D67:B42 gQ K64:=by
 intro f o hf args H nx v H' nx' ho;unfold K64 at hf
 cases hb:bR f 37 with
 | false=>rw[hb] at hf;cases hf
 | true=>
  rw[hb] at hf
  cases hf
  have J:=bT hb;subst J;unfold U65 at ho
  cases hw:K33 args with
  | false=>rw[hw] at ho;cases ho
  | true=>
   rw[hw] at ho
   cases ho
   have ea:=Q56 hw;subst ea;refine⟨C29,fun F U w hh hl => ?_⟩;have ea:=U40 hl;subst ea;refine(E33 (N:=3) O0 Y65 M69 (inn:=4) (last:=2) (first:=0) (len:=2) (by decide) (by decide) (by decide) (by decide) (by decide) (by decide) w hh.gl.1).mono fun e w' ⟨v,he,E,hb⟩ => ?_
   rw[show 2+1=3 from rfl,U66] at E;rcases E.2 with ⟨_,h0⟩ | ⟨g,cp,W,rfl,hg,hc,h1,O,h3,h4⟩
   .omega
   .obtain⟨F',Q,V⟩:=N2.row (xs:=C35) hh hb hg hc h1 (by simpa using h3) (by simpa [C35] using h4) (bK O (by decide)) rfl
    exact⟨_,F',he,Q,V⟩
theorem R59:U46 gQ K64 100 8 []=some (.bool true):=by kernel_rfl
theorem X60(H:Y0)(nx:Nat):Q2 gQ 8 [] H nx fun v H' nx' => .bool true=v/\H=H'/\nx=nx':=B55 mixed J2 D67 R59 rfl rfl H nx
end
section
open Go.ChangeShapes Go.WideShapes Go.ChangeAt Go.RowKit Go.Joins Go.Deep Go.Clo
variable {A:Option Addr} {P:Program} {W:World} {cap len:Nat} {e t:TypeId} {r:Reach}
theorem own:ownKnob gQ.godebug=none:=by kernel_rfl
theorem V68:laidOutB gQ=true:=by kernel_rfl
def X16:List (String × DataW Unit):=Rows.dichotomyDecidesRow.laid
theorem G70:Tryz.prog.globalNamed (X16.map (·.1)).head! = some 0:=by kernel_rfl
theorem C44 (h:laidMetH Tryz.prog X16 W) (r n:Nat) (hr:deB[r]? = some n):W.cell? ⟨0,r,none⟩=some (.int .u8 (n:Int)):=by
 have hrl:r<32:=(List.getElem?_eq_some_iff.1 hr).1
 rw[MakeChecks.laidMetH_plain _ _ _ (by kernel_rfl)] at h
 obtain⟨ps,⟨g,t,cs,fuel,p,q,hg,ht,hv,hd,_,_⟩,_,_⟩:=h
 obtain rfl:=Option.some.inj (G70.symm.trans hg)
 obtain rfl:=Option.some.inj ((show (Tryz.prog.globals[0]?).map (·.type)=some 136 by kernel_rfl).symm.trans ht)
 obtain⟨xs,m,_,ex,_,hl,hel⟩:=DataW.trod_array Tryz.underlying136 hd
 have c5:Tryz.prog.cellsOf 5=1:=by kernel_rfl
 have hE:=hel r hrl
 rw[c5,Nat.mul_one,List.getElem?_eq_getElem (by omega)] at hE
 obtain⟨z,e1,e2,_⟩:=DataW.trod_int Tryz.underlying5 hE
 have e3:(xs.map (·.1))=deB.map fun (n:Nat) => .lit (.int .u8 (n:Int)):=(DataW.agg.inj (Prod.mk.inj ex).1).symm
 have e4:(xs.map (·.1))[r]? = (deB.map fun (n:Nat)=>(DataW.lit (.int .u8 (n:Int)):DataW Unit))[r]? := by rw[e3]
 rw[List.getElem?_map,List.getElem?_map,List.getElem?_eq_getElem (by omega:r<xs.length),hr,e2] at e4
 have hz:z=(n:Int):=by
  simpa only[Option.map_some,Option.some.injEq,DataW.lit.injEq,Lit.int.injEq,true_and] using e4
 rw[World.var?_cell hg hv r,<- hz]
 have:cs.toList[r]? = some (.int .u8 z):=by
  have h0:((cs.toList.drop r).take 1)[0]? = some (.int .u8 z):=by rw[e1];rfl
  simpa using h0
 simpa using this
theorem B48 (h:laidMetH Tryz.prog X16 W):GlW W:=fun x hx=>by
 rw[List.mem_singleton.1 hx]
 have h0:=C44 h 0 0 rfl
 constructor
 .unfold World.cell? at h0
  rcases Nat.lt_or_ge 0 W.heap.size with g | g
  .exact g
  .rw[Array.getElem?_eq_none g] at h0;cases h0
 .intro i v hv
  simp only[List.getElem?_map,Option.map_eq_some_iff] at hv
  obtain⟨n,hn,rfl⟩:=hv
  exact C44 h i n hn
section
variable {X:Type} {enc:TypeId × Value->X} {W:World} {b0 base:Nat} {spare:Nat->Bool} {held:Bool}
theorem N48(ht:P.underlying t=some (.slice e))(h:Cell.okWide P W r b0 t (.slice A len cap)):Cell.ok P W r b0 t (.slice A len cap):=by
 simp only[Cell.okWide,ht] at h;exact h
theorem Y49{α:Type}(f:α->Value)(xs:List α):(xs.flatMap fun a=>[f a])=xs.map f:=by
 induction xs with
 | nil=>rfl
 | cons a xs ih=>simp[ih]
end
theorem D64{X:Type}{enc:TypeId × Value->X}{fn:Func}{s:ChangeSpec}{W':World}{args:Array Value}{ds gs:List (DataW X)}{E p:List MemPlace}
  (hW:DataW.Whole enc gQ fn.params.toList s.vars false W args.toList ds gs E)(hv:s.vars=[])(Q:(s.fn X (ds++gs)).results=[.lit (.bool true)])(J:(s.fn X (ds++gs)).vars=[])
  (O:(s.fn X (ds++gs)).args=ds)(V:fn.resultTypes = #[4])(U:∀ t ∈ fn.params.toList,gQ.readableRec t=true/\t<gQ.types.size)(hb:Below W.heap.size W W')
  (hA:DataW.TrodAll enc gQ W 0 (fun _=>true) true fn.params.toList args.toList ds p)(hp:∀ x ∈ p,x ∈ E):
  s.post enc gQ fn false true false false W args (.bool true) W':=by
 refine J41 (pa:=p) (pv:=[]) hW hb (fun _ _ _ => ?_) ?_ ?_
 .rw[Q,V]
  exact trodAll_cons_mk (shut_bool Tryz.underlying4 _) trodAll_mk0
 .rw[O]
  exact N24 V68 hb _ _ _ _ U hA fun x hx=>hW.lt x (hp x hx)
 .rw[hv,J];rfl
theorem Q69 (os:Os):(World.laidAll Tryz.prog os X16).Shaped Tryz.prog:=World.shaped_of_ZipB (by kernel_rfl) (by kernel_rfl)
theorem met (os:Os) (args:Array Value):laidMetH Tryz.prog X16 ((World.laidAll Tryz.prog os X16).forCall (fun _ _=>0) ⟨#[],args,[]⟩).memory:=by
 rw[MakeChecks.laidMetH_plain _ _ _ (by kernel_rfl)];exact laidMet_laidAll _ (by kernel_rfl) (by kernel_rfl)
end
section
open Go.ChangeShapes Go.WideShapes Go.ChangeAt Go.RowKit Go.Joins Go.Deep Go.Clo
variable {n:Nat}
section
variable {X:Type} {enc:TypeId × Value->X} {W:World} {b0 base:Nat} {spare:Nat->Bool} {held:Bool}
theorem V67:gQ.cellTypes gQ.depth 24=some [3,22]:=by kernel_rfl
theorem V55{v:Value}{d:DataW X}{p:List MemPlace}(hv:Value.okWide gQ W .any b0 24 v)(h:DataW.Trod enc gQ W base spare held 24 v d p):
  ∃(N:Int) (A:Option Addr) (len cap n:Nat) (y:DataW X × List MemPlace),v = .agg #[.int .i64 N,.slice A len cap]/\(Lit.int .i64 N).wf=true/\Cell.ok gQ W .any b0 22 (.slice A len cap) /\
   DataW.trod enc gQ W base spare held n 22 [.slice A len cap]=some y:=by
 have J:=hv;obtain⟨v0,v1,y0,y1,n,rfl,rfl,rfl,h0,h1⟩:=open_agg2 Tryz.underlying24 (by kernel_rfl) (by kernel_rfl) hv h;obtain⟨N,e0,_,hN⟩:=DataW.trod_int Tryz.underlying3 h0;simp only[fM,and_true] at e0;subst e0;simp only[Value.okWide,Tryz.underlying24] at J;obtain⟨cs,e,_,ts,E,_,O⟩:=J
 cases e
 rw[V67] at E
 cases E
 obtain⟨u,hu,hc⟩:=O 1 v1 rfl
 cases hu
 obtain⟨A,len,cap,rfl⟩:∃ A len cap,v1 = .slice A len cap:=by
  simp only[Cell.okWide,Tryz.underlying22] at hc
  cases v1<;>simp_all [Cell.ok]
 exact⟨N,A,len,cap,n,y1,rfl,hN,N48 Tryz.underlying22 hc,h1⟩
theorem E62{cs:List Value}{y:DataW X × List MemPlace}(h:DataW.trod enc gQ W base spare held n 56 cs=some y):∃ a:Nat,[cD .u32 (a:Int)]=cs/\a<4294967296:=by
 obtain⟨z,rfl,_,hz⟩:=DataW.trod_int Tryz.underlying56 h;simp only[Lit.wf,aG,decide_eq_true_eq,show eW.min=0 from rfl,show eW.max=4294967295 from rfl] at hz;exact⟨z.toNat,by rw[Int.toNat_of_nonneg O0],O0⟩
theorem E52{F:FM}{H:Y0}{nx:Nat}(hi:In W F H nx){A:Option Addr}{len cap:Nat}{y:DataW X × List MemPlace}(E:Cell.ok gQ W .any b0 22 (.slice A len cap))(h:DataW.trod enc gQ W base spare held n 22 [.slice A len cap]=some y):
  ∃(F':FM) (H':Y0) (nx':Nat) (A':Option Addr) (es:List Nat),In W F' H' nx'/\F.le F'/\VR F' (.slice A' es.length cap) (.slice A len cap)/\U14 es/\Sl H' nx' A' (K12 es)/\D0 H nx H' nx'/\Has H' nx' A':=by
 obtain⟨F',H',nx',A',xs,h1,h2,h3,rfl,h5,h6,h7,_,h9⟩:=hi.sliceH (f:=fun a:Nat=>[cD .u32 (a:Int)]) (Pr:=fun a=>a<4294967296) (sz:=1) Tryz.underlying22 (by kernel_rfl) (fun _=>rfl) E h (fun n cs y h=>E62 h) (fun _=>rfl);rw[Y49] at h6;exact⟨F',H',nx',A',xs,h1,h2,h3,h5,h6,h7,h9⟩
end
end
end Go.Proofs.YtoiioigihocgbaaGreatDoor
namespace Go.Clo
def mpF(e:Nat->Nat)(n:Nat):Option Value:=if e n=0 then none else some (.int .u32 (e n:Int))
theorem Q61(i:Nat)(s:Nat × (Nat->Nat)):shN i none s=s:=rfl
end Go.Clo
namespace Go.Proofs.YtoiioigihocgbaaGreatDoor
open Go.Clo
theorem C68{n:Nat}(hn:n<=32)(H:Y0)(nx:Nat):Q2 gQ 35 [.int .i64 (n:Int)] H nx (Z56 (.int .u32 ((2^n-1:Nat):Int)) H nx):=by
 refine spec35 ?_;unfold F35;simp only[W1,M26 hn,Y5];exact⟨rfl,rfl,rfl⟩
section
variable {aL:List Nat} {N:Nat} (hN:N<=6) (hL:NbL aL N)
include hN hL
theorem K45{inn f:Nat}(hi:inn<2^N)(hf:f<=N)(H:Y0)(nx:Nat):
  Q2 gQ 36 [.agg ⟨K12 aL⟩,.int .u32 (inn:Int),.int .i64 (f:Int)] H nx fun r H' nx'=>(∃ q,r = .tuple ⟨[.int .i64 ((J4 aL N inn f f).1:Int),.map (some q)]⟩/\D4 H' q (mpF (J4 aL N inn f f).2)/\q<nx')/\D0 H nx H' nx':=by
 have bf:2^N<=64:=aK (n:=2) O0 hN;have ax:0<2^N:=aQ N;have bd:2^f<=2^N:=aK (n:=2) O0 hf;have bv:0<2^f:=aQ f;have al:=M44 hN hL;have b3:inn<4294967296:=O0;refine spec36 ?_;unfold F36;have g1:J0 (hs (hs H nx (some (.cells (K12 aL) 0))) (nx+1) (some (.map [] 0))) nx=some (.cells (K12 aL) 0):=by rw[Z1 _ O0,Z11]
 have m1:D4 (hs (hs H nx (some (.cells (K12 aL) 0))) (nx+1) (some (.map [] 0))) (nx+1) (fun _=>none):=D4.nil (Z11 _ _ _);have ab:D0 H nx (hs (hs H nx (some (.cells (K12 aL) 0))) (nx+1) (some (.map [] 0))) (nx+1+1):=((D0.refl H nx).new _ (aD _) (m:=nx+1) O0).new _ O0 O0;simp(disch:=first | omega | assumption | exact G0 O1 | exact U10 O1 | exact X0 O0 | fail   )only[W0,Q0.val,W5 aL,E66];generalize hs (hs H nx (some (.cells (K12 aL) 0))) (nx+1) (some (.map [] 0))=H1 at *
 refine B1 (m:=f) (fun m L' H' nx'=>∃ i:Nat,m+i=f/\L'=[.int .i64 ((J4 aL N inn f i).1:Int),.int .i64 (i:Int)]/\D4 H' (nx+1) (mpF (J4 aL N inn f i).2)/\KB (nx+1) H1 (nx+1+1) H' nx') ?_
  ⟨0,O0,rfl,m1,⟨aD _,fun _ _ _=>rfl⟩⟩
 rintro m ih L1 H2 n2 ⟨i,hm,rfl,hM,hK⟩ aq
 by_cases bw:i<f
 case neg=>
  obtain rfl:i=f:=O0;have a7:¬ (i:Int)<(i:Int):=O0;simp(disch:=first | omega | assumption | exact G0 O1 | exact U10 O1 | exact X0 O0 | fail   )only[W0,a7];have:=hK.le;exact⟨⟨nx+1,rfl,hM,O0⟩,⟨by have:=ab.le;omega,fun j hj=>by rw[hK.get j O0 O0];exact ab.get j hj⟩⟩
 have a7:(i:Int)<(f:Int):=O0;have g2:=(hK.get nx O0 O0).trans g1;have ba:=hK.le;obtain⟨x,gx,au,ac⟩:=hL.at (u:=i) O0;have gx:=Q3 gx;have bt:i<32:=O0;have bh:x<4294967296:=O0;have ap:2^f-1<4294967296:=O0;have n1:Z2 (2^f-1) x<4294967296:=U10 ap;have pi:2^i<4294967296:=by have:=R27 (show i<N by omega);omega
 have a4:N14 aL f i=Z2 (Z2 (2^f-1) x) (2^i):=by unfold N14;rw[ac]
 have aj:N14 aL f i<2^N:=by rw[a4];exact Z6 (Z6 O0)
 have next:J4 aL N inn f (i+1)=shN i (shG aL inn (N14 aL f i) (J4 aL N inn f i).1 N 0 (x &&& inn) 2) (J4 aL N inn f i):=by rw[J4,ac]
 generalize J4 aL N inn f i=s at *
 obtain⟨len,ends⟩:=s;dsimp only at next hM ⊢;simp(config:={ maxSteps:=2000000 }) (disch:=first | omega | assumption | exact G0 O1 | exact U10 O1 | exact X0 O0 | fail  )only[W0,a7];refine N5 (fun L' H' nx'=>L'=[.int .i64 ((J4 aL N inn f (i+1)).1:Int)]/\D4 H' (nx+1) (mpF (J4 aL N inn f (i+1)).2)/\KB (nx+1) H1 (nx+1+1) H' nx') ?_ ?_
 case refine_2=>
  rintro L H3 n3 ⟨rfl,Z,Q⟩;exact aq (m-1) _ _ _ O0 ⟨i+1,O0,O2,Z,Q⟩
 intro jj a0;refine R0 (C68 (n:=f) O0 _ _) ?_;rintro _ _ _ ⟨rfl,rfl,rfl⟩;simp(config:={ maxSteps:=2000000 }) (disch:=first | omega | assumption | exact G0 O1 | exact U10 O1 | exact X0 O0 | fail  )only[W0,g2,gx];rw[<- a4];generalize N14 aL f i=far at *
 generalize hR:shG aL inn far len N 0 (x &&& inn) 2=R at *
 have ay:KB (nx+1) H1 (nx+1+1) H2 (n2+10):=⟨O0,hK.get⟩
 refine B1 (m:=N) (fun k L' H' nx'=>∃(c b st:Nat),L'=[.int .i64 (len:Int),.int .u32 (c:Int),.int .u32 (b:Int),.int .i64 (st:Int)]/\c<2^N/\b<2^N/\N<=k+(V5 N c).length/\(∀ w,b.testBit w=true->c.testBit w=false)/\shG aL inn far len k c b st=R/\k+st=N+2/\D4 H' (nx+1) (mpF ends)/\KB (nx+1) H1 (nx+1+1) H' nx') ?_
  ⟨0,x &&& inn,2,rfl,ax,W37 au,O0,O2,hR,rfl,hM,ay⟩
 rintro k bk L1 H3 n3 ⟨c,b,st,rfl,hc,hb,bg,hd,hG,b5,Z,Q⟩ ae;have bo:c<4294967296:=O0;have ag:b<4294967296:=O0;have b8:=Q.le;have g3:=(Q.get nx O0 O0).trans g1;have z1:decide ((len:Int)=0)=decide (len=0):=by congr 1;apply propext;omega
 have z2:decide ((st:Int)<=(len:Int))=decide (st<=len):=by congr 1;apply propext;omega
 have z3:decide ((st:Int)<(len:Int))=decide (st<len):=by congr 1;apply propext;omega
 have z4:decide ((b:Int)≠0)=decide (b≠0):=by congr 1;apply propext;omega
 refine N5 (fun L' H' nx'=>L'=[.bool (decide (b≠0/\(len=0\/st<=len)))]/\H3=H'/\n3=nx') ?_ ?_
 .intro j2 a6
  by_cases q0:b≠0
  .by_cases q1:len=0
   .simp(disch:=first | omega | assumption | exact G0 O1 | exact U10 O1 | exact X0 O0 | fail   )only[W0,z4,decide_eq_true q0,z1,decide_eq_true q1]
    exact a6 _ _ _ ⟨by simp[q0,q1],rfl,rfl⟩
   .simp(disch:=first | omega | assumption | exact G0 O1 | exact U10 O1 | exact X0 O0 | fail   )only[W0,z4,decide_eq_true q0,z1,decide_eq_false q1,z2]
    exact a6 _ _ _ ⟨by simp[q0,q1],rfl,rfl⟩
  .simp(disch:=first | omega | assumption | exact G0 O1 | exact U10 O1 | exact X0 O0 | fail   )only[W0,z4,decide_eq_false q0]
   exact a6 _ _ _ ⟨by simp[q0],rfl,rfl⟩
 rintro L1 _ _ ⟨rfl,rfl,rfl⟩
 by_cases a8:b≠0/\(len=0\/st<=len)
 case neg=>
  simp(disch:=first | omega | assumption | exact G0 O1 | exact U10 O1 | exact X0 O0 | fail   )only[W0,decide_eq_false a8];have ah:R=none:=by
   cases k with
   | zero=>exact hG.symm
   | succ k=>
    rw[shG,if_pos (by
     by_cases q0:b=0
     .exact .inl q0
     .right
      refine aI fun hh=>a8 ⟨q0,?_⟩
      by_cases q1:len=0
      .exact .inl q1
      .exact .inr O0)] at hG
    exact hG.symm
  rw[ah,Q61] at next;rw[next] at a0;exact a0 _ _ _ ⟨rfl,Z,Q⟩
 obtain⟨a3,ad⟩:=a8;obtain⟨k',rfl⟩:∃ k',k=k'+1:=by
  cases k with
  | zero=>exact absurd (X20 hb hd (by have:=Q15 N c;omega)) a3
  | succ k=>exact⟨k,rfl⟩
 rw[shG,if_neg (by
  rintro (h | h)
  .exact a3 h
  .omega)] at hG
 have ak:=Z14 (b:=b) hL.lt 32;have V:Q4 aL b 32<4294967296:=O0;have av:c ||| b<2^N:=Z26 hc hb;have az:c ||| b<4294967296:=O0;have hg:=R25 hb a3 hd;have an:far<4294967296:=O0;simp(disch:=first | omega | assumption | exact G0 O1 | exact U10 O1 | exact X0 O0 | fail  )only[W0,decide_eq_true (⟨a3,ad⟩:b≠0/\(len=0\/st<=len)),g3,M18 al];refine R0 (Z35 hN hL ag H3 n3) ?_;rintro _ H4 n4 ⟨rfl,a5⟩;have a9:=Z.ext (nx:=n3) O0 a5;have bc:=a5.le;have U:KB (nx+1) H1 (nx+1+1) H4 n4:=⟨O0,fun j hj J=>by rw[a5.get j O0];exact Q.get j hj J⟩
 have bx:Q4 aL b 32 &&& far<4294967296:=D52 V;have b4:Q4 aL b 32 &&& inn<4294967296:=D52 V;have z5:decide (((Q4 aL b 32 &&& far:Nat):Int)≠0)=decide (Q4 aL b 32 &&& far≠0):=by congr 1;apply propext;omega
 by_cases E:Q4 aL b 32 &&& far≠0
 case neg=>
  rw[if_neg E] at hG;simp(disch:=first | omega | assumption | exact G0 O1 | exact U10 O1 | exact X0 O0 | fail  )only[W0,z5,decide_eq_false E];have ao:Z2 (Q4 aL b 32 &&& inn) (c ||| b)<2^N:=Z6 (W37 ak);refine ae k' _ _ _ O0 ⟨c ||| b,_,st+1,O2,av,ao,O0,fun w hw => ?_,hG,O0,a9,U⟩;rw[N1,aG] at hw;simpa using hw.2
 rw[if_pos E] at hG;rw[<- hG] at next;simp(disch:=first | omega | assumption | exact G0 O1 | exact U10 O1 | exact X0 O0 | fail  )only[W0,z5,decide_eq_true E];generalize Q4 aL b 32 &&& far=last at *
 have next:J4 aL N inn f (i+1)=(st,fun y=>if y=i then last else if len=0\/st<len then 0 else ends y):=next;rw[next] at a0;have ew:∀ {H5:Y0} {n5:Nat} {M:Nat->Option Value},D4 H5 (nx+1) M->KB (nx+1) H1 (nx+1+1) H5 n5->(∀ y,mpF (fun y=>if y=i then last else if len=0\/st<len then 0 else ends y) y=if y=i then some (.int .u32 (last:Int)) else M y) ->
   W56 (.int .i64) (.map (some (nx+1))) (.int .i64 (i:Int)) (.int .u32 (last:Int)) H5 n5 fun bu aw aa=>jj [.int .i64 (st:Int)] aw aa:=fun {H5 n5 M} O a2 he=>by
  refine O.put i _ fun es cl ai => ?_
  exact a0 _ _ _ ⟨rfl,ai.congr he,⟨a2.le,fun j hj J=>by rw[Z1 _ J];exact a2.get j hj J⟩⟩
 by_cases W:len=0\/st<len
 .refine N5 (fun L' H' nx'=>L'=[.int .i64 (st:Int)]/\D4 H' (nx+1) (fun _=>none)/\KB (nx+1) H1 (nx+1+1) H' nx') ?_ ?_
  .intro j3 a1
   rw[N13];have clr:∀ k:Y0->Prop,(∀ c,D4 (Go.Clo.hs H4 (nx+1) (some (.map [] c))) (nx+1) (fun _=>none)->k (Go.Clo.hs H4 (nx+1) (some (.map [] c))))->M41 (.map (some (nx+1))) H4 k:=fun k hk=>a9.clr hk
   by_cases q1:len=0
   .simp(disch:=first | omega | assumption | exact G0 O1 | exact U10 O1 | exact X0 O0 | fail   )only[W0,decide_eq_true q1]
    refine clr _ fun cl O => ?_
    exact a1 _ _ _ ⟨rfl,O,⟨U.le,fun j hj J=>by rw[Z1 _ J];exact U.get j hj J⟩⟩
   .have q2:st<len:=O0
    simp(disch:=first | omega | assumption | exact G0 O1 | exact U10 O1 | exact X0 O0 | fail   )only[W0,decide_eq_false q1,z3,decide_eq_true q2];refine clr _ fun cl O => ?_
    exact a1 _ _ _ ⟨rfl,O,⟨U.le,fun j hj J=>by rw[Z1 _ J];exact U.get j hj J⟩⟩
  rintro L1 H5 n5 ⟨rfl,O,a2⟩;simp(disch:=first | omega | assumption | exact G0 O1 | exact U10 O1 | exact X0 O0 | fail   )only[W0];refine ew O a2 fun y => ?_
  unfold mpF
  by_cases hy:y=i
  .simp only[hy,if_true];rw[if_neg E]
  .simp only[hy,if_false,W,if_true]
 .refine N5 (fun L' H' nx'=>L'=[.int .i64 (st:Int)]/\H4=H'/\n4=nx') ?_ ?_
  .intro j3 a1
   rw[N13];have q1:¬ len=0:=fun h=>W (.inl h)
   have q2:¬ st<len:=fun h=>W (.inr h)
   have q3:len=st:=O0;simp(disch:=first | omega | assumption | exact G0 O1 | exact U10 O1 | exact X0 O0 | fail   )only[W0,decide_eq_false q1,z3,decide_eq_false q2];exact a1 _ _ _ ⟨by rw[q3],rfl,rfl⟩
  rintro L1 _ _ ⟨rfl,rfl,rfl⟩;simp(disch:=first | omega | assumption | exact G0 O1 | exact U10 O1 | exact X0 O0 | fail   )only[W0];refine ew a9 U fun y => ?_
  unfold mpF
  by_cases hy:y=i
  .simp only[hy,if_true];rw[if_neg E]
  .simp only[hy,if_false,W]
end
end Go.Proofs.YtoiioigihocgbaaGreatDoor
namespace Go.Clo
theorem K60 {aL:List Nat} {inn far lim N:Nat} (hf:far<2^N):∀ (k seen b st:Nat) {r:Nat × Nat},shG aL inn far lim k seen b st=some r->r.2<2^N/\r.1<=st+k
 | 0,_,_,_,r,h=>by cases h
 | k+1,seen,b,st,r,h=>by
  unfold shG at h
  split at h
  .cases h
  .split at h
   .cases h
    exact⟨Nat.lt_of_le_of_lt Nat.and_le_right hf,by show st<=_;omega⟩
   .obtain⟨h1,h2⟩:=K60 hf k _ _ _ h
    exact⟨h1,by omega⟩
end Go.Clo
namespace Go.Proofs.YtoiioigihocgbaaGreatDoor
open Go.Clo
theorem W61{H:Y0}{q:Nat}{e:Nat->Nat}(h:D4 H q (mpF e))(n:Nat)(k:VP):wLk (.int .i64) (.int .u32 0) (.map (some q)) (.int .i64 (n:Int)) false H k=k (.int .u32 (e n:Int)):=by
 by_cases he:e n=0
 .rw[h.lkN' (n:=n) (by unfold mpF;rw[if_pos he]),he];rfl
 .rw[h.lkS' (n:=n) (v := .int .u32 (e n:Int)) (by unfold mpF;rw[if_neg he])]
theorem W68{N f:Nat}(hN:N<=6)(hf:f<=N)(A:Option Addr)(es:List Nat)(cap:Nat)(a7:∀ e ∈ es,e<2^N)(av:es.length<=8)(H:Y0)(nx:Nat)(hS:Sl H nx A (K12 es)):
  Q2 gQ 14 [gv (N:Int) A es.length cap,.int .i64 (f:Int)] H nx fun r H' nx'=>(∃ v,r = .tuple ⟨[v,.bool (K24 (B2 es N) N f).isSome]⟩/\LsR ((K24 (B2 es N) N f).getD []) v H' nx')/\D0 H nx H' nx':=by
 have aq:2^N<=64:=aK (n:=2) O0 hN;have az:0<2^N:=aQ N;have au:2^f<=2^N:=aK (n:=2) O0 hf;have ay:0<2^f:=aQ f;have a4:U14 es:=fun e he=>by have:=a7 e he;omega
 have ad:N3 N es=0:=V11 O0 O0 fun i e he=>a7 e (aH he)
 have aj:Q6 (N:Int) (f:Int) es=0:=by
  unfold Q6;rw[ad];simp;omega
 refine spec14 ?_;unfold F14;have Z:D0 H nx (hs H nx (some (.cells [.int .i64 N,.slice A es.length cap] 0))) (nx+1):=(D0.refl H nx).nw _;have k1:J0 (hs H nx (some (.cells [.int .i64 N,.slice A es.length cap] 0))) nx=some (.cells [.int .i64 N,.slice A es.length cap] 0):=Z11 _ _ _;simp only[W0,Z0,Q0.val,C13];generalize hs H nx (some (.cells [.int .i64 N,.slice A es.length cap] 0))=K at *
 refine R0 (G56 N f A es cap _ _ (hS.ext Z) a4) ?_;rintro _ H2 nx2 ⟨rfl,J⟩;have d1:decide (Q6 N f es≠0)=false:=by simp[aj]
 have g2:=(J.gt nx).trans k1;have ap:=J.le;simp only[W0,d1,g2,C13];refine R0 (Z71 O0 A es cap _ _ (hS.ext (Z.trans J)) a7 O0 ad) ?_;rintro _ H3 E ⟨rfl,a3⟩;have g3:=(a3.gt nx).trans g2;have ao:=a3.le;have e1:(K12 (B2 es N)).length=32:=by rw[E1];exact N9 es N
 have e2:(K12 (aF 32 0)).length=32:=by rw[E1];simp
 have e3:=G24 (c:=K12 (aF 32 0)) (vs:=K12 (B2 es N)) (by rw[e1,e2]);have e4:=W5 (B2 es N);rw[Q27];have aa:D0 H3 E (hs (hs H3 E (some (.cells (K12 (aF 32 0)) 0))) E (some (.cells (K12 (B2 es N)) 0))) (E+1):=((D0.refl _ _).nw _ (m:=E+1)).h0;have a6:J0 (hs (hs H3 E (some (.cells (K12 (aF 32 0)) 0))) E (some (.cells (K12 (B2 es N)) 0))) E=some (.cells (K12 (B2 es N)) 0):=Z11 _ _ _;have ah:J0 (hs (hs H3 E (some (.cells (K12 (aF 32 0)) 0))) E (some (.cells (K12 (B2 es N)) 0))) nx=some (.cells [.int .i64 N,.slice A es.length cap] 0):=(aa.gt nx).trans g3;simp only[W0,e1,e2,e3,e4,ah];generalize hs (hs H3 E (some (.cells (K12 (aF 32 0)) 0))) E (some (.cells (K12 (B2 es N)) 0))=H4 at *
 have U:=((Z.trans J).trans a3).trans aa;have hL:=R60 es N;have W:=M37 (es:=es) (N:=N) O0;generalize B2 es N=aL at *
 have ag:∀ u w,(aL.getD u 0).testBit w=true->w<32:=fun u w h=>by
  cases hg:aL[u]? with
  | none=>rw[aP,hg] at h;simp at h
  | some x=>
   rw[aP,hg] at h;have:=R7 (hL.lt u x hg) h;omega
 refine R0 (C59 (n:=N) O0 _ _) ?_;rintro _ _ _ ⟨rfl,rfl,rfl⟩;refine R0 (C59 (n:=f) O0 _ _) ?_;rintro _ _ _ ⟨rfl,rfl,rfl⟩;have a1:2^N-1<4294967296:=O0;have a2:2^f-1<4294967296:=O0;have V:K10 N f<2^N:=Z6 O0;simp(disch:=omega)only[W0,a6,M18 e1];rw[show Z2 (2^N-1) (2^f-1)=K10 N f from rfl];unfold K24;generalize K10 N f=inn at *
 refine R0 (K45 hN hL V hf _ _) ?_;rintro _ H5 ac ⟨⟨q,rfl,hM,hq⟩,O⟩;have ab:=fun x=>E47 (aL:=aL) (N:=N) (inn:=inn) (f:=f) f x
 have ai:=(O.gt E).trans a6;have an:=O.le;generalize J4 aL N inn f f=s at *
 obtain⟨len,ends⟩:=s;dsimp only at ab hM ⊢;simp only[W0];refine B1 (m:=f) (fun m L' H' nx'=>∃ i:Nat,m+i=f/\L'=[.int .i64 (i:Int)]/\(∀ u,u<i->ends u=0)/\H5=H'/\ac=nx') ?_ ⟨0,O0,rfl,fun u h=>O0,rfl,rfl⟩;rintro m ih L1 _ _ ⟨i,hm,rfl,a9,rfl,rfl⟩ ak
 by_cases al:i<f
 case neg=>
  obtain rfl:i=f:=O0;have Q:¬ (i:Int)<(i:Int):=O0;simp only[W0,Q];rw[D58 (fun u hu=>by simp[a9 u hu])];exact⟨⟨_,rfl,C66 _ _⟩,U.trans O⟩
 have Q:(i:Int)<(f:Int):=O0;have z1:decide ((ends i:Int)≠0)=decide (ends i≠0):=by congr 1;apply propext;omega
 by_cases he:ends i≠0
 case neg=>
  simp(disch:=omega)only[W0,Q,W61 hM,z1,decide_eq_false he];refine ak (m-1) _ _ _ O0 ⟨i+1,O0,O2,fun u hu => ?_,rfl,rfl⟩
  by_cases e:u=i
  .subst e;exact aI fun h=>he h
  .exact a9 u O0
 rw[J55 (v:=i) (fun u hu=>by simp[a9 u hu]) al (by simpa using he)];simp only[W0,Q,W61 hM,z1,decide_eq_true he,ai,M18 e1];obtain⟨_,aw,a8⟩:=ab i he;have a0:N14 aL f i<2^N:=Z6 (Z6 O0);obtain⟨l1,l2⟩:=K60 a0 N 0 _ 2 a8;obtain⟨l3,_⟩:=K15 (b0:=aL.getD i 0 &&& inn) N 0 _ 2 (fun w hw=>hw) (aD _) a8;have a5:=G55 (st:=0) W ag a8;dsimp only at l1 l2 l3 a5;rw[Nat.and_comm] at a5;refine R0 (E64 hN hL W V l1 O0 O0 O0 a5 H5 ac) ?_;rintro v H6 ax ⟨hv,ae⟩;exact⟨⟨v,rfl,hv⟩,(U.trans O).trans ae⟩
section
variable {H:Y0}
theorem X109(N free:Int)(A:Option Addr)(es:List Nat)(cap:Nat)(H:Y0)(nx:Nat)(hS:Sl H nx A (K12 es))(U:U14 es):
  Q2 gQ 74 [gv N A es.length cap,.int .i64 free] H nx fun r H' nx'=>r = .bool (decide (Q6 N free es=0))/\D0 H nx H' nx':=by
 refine spec74 ?_;unfold F74;have O:D0 H nx (hs H nx (some (.cells [.int .i64 N,.slice A es.length cap] 0))) (nx+1):=(D0.refl H nx).nw _;simp only[W0,Z0,Q0.val,C13];refine R0 (N11 N A es cap _ _ (hS.ext O) U) ?_;rintro _ H2 nx2 ⟨rfl,Q⟩;have E:=O.trans Q;have J:=Q.gt nx;rw[Z11] at J
 by_cases h0:N3 N es=0
 .have d1:decide (N3 N es=0)=true:=by simp[h0]
  have hF:Q6 N free es=if free<0\/N<free then 3 else 0:=by rw[Q6,if_neg (by simp[h0])]
  by_cases h1:free ≥ 0
  .by_cases h2:free<=N
   .have e:decide (Q6 N free es=0)=true:=by rw[hF,if_neg O0];simp
    simp only[W0,d1,h1,h2,J,e];exact E
   .have e:decide (Q6 N free es=0)=false:=by rw[hF,if_pos O0];simp
    simp only[W0,d1,h1,h2,J,e];exact E
  .have e:decide (Q6 N free es=0)=false:=by rw[hF,if_pos O0];simp
   simp only[W0,d1,h1,J,e];exact E
 .have d1:decide (N3 N es=0)=false:=by simp[h0]
  have e:decide (Q6 N free es=0)=false:=by rw[Q6,if_pos h0];simp[h0]
  simp only[W0,d1,e];exact E
def TT(es:List Nat)(a b c:Nat):Prop:=adj es a b=false/\adj es a c=true/\adj es b c=true
def TrR(es:List Nat)(f:Nat):Option (Nat × Nat × Nat)->Prop
 | none=>∀ a b c,a<b->b<c->c<f->¬ TT es a b c
 | some (a,b,c)=>a<b/\b<c/\c<f/\TT es a b c/\(∀ a' b' c',a'<b'->b'<c'->c'<f->TT es a' b' c'->a<a'\/(a=a'/\(b<b'\/(b=b'/\c<=c'))))
theorem V101{q4 q5:Nat}{x y z:Int}{c4 c5:List Value}{s4 s5:Nat}{m:Nat}(g4:J0 H q4=some (.cells c4 s4))(h4:c4.length=3)(g5:J0 H q5=some (.cells c5 s5))(h5:c5.length=1)(l4:q4<m)(l5:q5<m)(E:q4≠q5):
  Q2 gQ 39 [.agg ⟨[.int .i64 x,.int .i64 y,.int .i64 z]⟩,.pointer (some ⟨q4,0,none⟩),.pointer (some ⟨q5,0,none⟩)] H m fun r H' m'=>
   r = .bool false/\J0 H' q4=some (.cells [.int .i64 x,.int .i64 y,.int .i64 z] s4)/\J0 H' q5=some (.cells [.bool true] s5)/\m<=m'/\∀ i,i<m->i≠q4->i≠q5->J0 H' i=J0 H i:=by
 refine spec39 ?_;unfold F39;have p4:B12 c4 0 [.int .i64 x,.int .i64 y,.int .i64 z]=[.int .i64 x,.int .i64 y,.int .i64 z]:=G24 (by rw[h4];rfl);have p5:B12 c5 0 [.bool true]=[.bool true]:=G24 (by rw[h5];rfl);have n1:q5≠q4:=fun e=>E e.symm
 have n2:q4≠m:=O0;have n3:q5≠m:=O0;simp(disch:=omega)only[W0,Z0,Q0.val,Nat.reduceAdd,Y12,g4,g5,p4,p5,h4,h5];refine⟨O0,fun i hi e4 e5 => ?_⟩;rw[Z1 _ e5,Z1 _ e4,gN _]
theorem Y102{N f:Nat}(hN:N<=6)(hf:f<=N)(A:Option Addr)(es:List Nat)(cap:Nat)(a7:∀ e ∈ es,e<2^N)(bt:es.length<=8){q4 q5:Nat}{m:Nat}(hS:Sl H m A (K12 es))
  (g4:J0 H q4=some (.cells [.int .i64 0,.int .i64 0,.int .i64 0] 0))(g5:J0 H q5=some (.cells [.bool false] 0))(l4:q4<m)(l5:q5<m)(b4:q4≠q5):
  Q2 gQ 38 [gv (N:Int) A es.length cap,.int .i64 (f:Int),.func (.func 39) ⟨[]⟩ ⟨[.pointer (some ⟨q4,0,none⟩),.pointer (some ⟨q5,0,none⟩)]⟩] H m fun r H' m'=>
   m<=m'/\(∀ i,i<m->i≠q4->i≠q5->J0 H' i=J0 H i) /\
   ((TrR es f none/\J0 H' q4=some (.cells [.int .i64 0,.int .i64 0,.int .i64 0] 0)/\J0 H' q5=some (.cells [.bool false] 0)) \/
    ∃ a b c:Nat,TrR es f (some (a,b,c))/\J0 H' q4=some (.cells [.int .i64 (a:Int),.int .i64 (b:Int),.int .i64 (c:Int)] 0)/\J0 H' q5=some (.cells [.bool true] 0)):=by
 have ba:2^N<=64:=aK (n:=2) O0 hN;have a5:U14 es:=fun e he=>by have:=a7 e he;omega
 have ap:N3 N es=0:=V11 O0 O0 fun i e he=>a7 e (aH he)
 have ay:Q6 (N:Int) (f:Int) es=0:=by
  unfold Q6;rw[ap];simp;omega
 refine spec38 ?_;unfold F38;have ab:D0 H m (hs H m (some (.cells [.int .i64 N,.slice A es.length cap] 0))) (m+1):=(D0.refl H m).new _ (aD _) O0;have k1:J0 (hs H m (some (.cells [.int .i64 N,.slice A es.length cap] 0))) m=some (.cells [.int .i64 N,.slice A es.length cap] 0):=Z11 _ _ _;simp(disch:=first | omega | assumption | exact G0 O1 | exact U10 O1 | exact X0 O0 | fail   )only[W0,Z0,Q0.val,C13];generalize hs H m (some (.cells [.int .i64 N,.slice A es.length cap] 0))=K at *
 refine R0 (X109 N f A es cap _ _ (hS.ext ab) a5) ?_;rintro _ H2 n2 ⟨rfl,a3⟩;have d1:decide (Q6 N f es=0)=true:=by simp[ay]
 have k2:=(a3.get m O0).trans k1;have b8:=a3.le;simp(disch:=first | omega | assumption | exact G0 O1 | exact U10 O1 | exact X0 O0 | fail   )only[W0,d1,M27 (n:=f) O0,C23];have ag:D0 H2 n2 (hs H2 n2 (some (.cells (K12 (aF f 0)) 0))) (n2+1):=(D0.refl _ _).new _ (aD _) O0;have gn:J0 (hs H2 n2 (some (.cells (K12 (aF f 0)) 0))) n2=some (.cells (K12 (aF f 0)) 0):=Z11 _ _ _;generalize hs H2 n2 (some (.cells (K12 (aF f 0)) 0))=H3 at *
 have al:=(ab.trans a3).trans ag;have k3:=(ag.get m O0).trans k2;refine B1 (m:=f) (fun q L' H' nx'=>∃(v:Nat) (ns:List Nat),q+v=f/\L'=[.int .i64 (v:Int)]/\ns.length=f/\(∀ j,j<v->ns[j]? = some (Q1 (adj es j) N))/\J0 H' n2=some (.cells (K12 ns) 0)/\J0 H' m=some (.cells [.int .i64 N,.slice A es.length cap] 0)/\D0 H m H' nx'/\n2+1<=nx') ?_
  ⟨0,_,O0,rfl,O2,fun j h=>O0,gn,k3,al,aD _⟩
 rintro q bg L1 H4 n4 ⟨v,ns,hq,rfl,au,a1,a4,k4,e4,bv⟩ ak
 by_cases hv:v<f
 .have a2:(v:Int)<(f:Int):=O0
  simp(disch:=first | omega | assumption | exact G0 O1 | exact U10 O1 | exact X0 O0 | fail  )only[W0,a2,k4,C13];refine R0 (U61 O0 (show v<N by omega) A es cap _ _ (hS.ext e4) a7 O0 ap) ?_;rintro _ H5 n5 ⟨rfl,h5⟩;have aw:=(h5.get n2 O0).trans a4;have k5:=(h5.get m O0).trans k4;have b5:=h5.le;have aq:v+1<=(K12 ns).length:=by rw[E1];omega
  have a9:B12 (K12 ns) v [.int .u32 (Q1 (adj es v) N:Int)]=K12 (ns.set v (Q1 (adj es v) N)):=V10 O0;simp(disch:=first | omega | assumption | exact G0 O1 | exact U10 O1 | exact X0 O0 | fail   )only[W0,aw,aq,a9];refine ak (q-1) _ _ _ O0 ⟨v+1,ns.set v (Q1 (adj es v) N),O0,O2,by rw[dO];exact au,fun j hj => ?_,Z11 _ _ _,by rw[Z1 _ O0];exact k5,(e4.trans h5).hs O0,O0⟩
  by_cases e:j=v
  .subst e;rw[dG O0]
  .rw[bL (fun h=>e h.symm)];exact a1 j O0
 obtain rfl:v=f:=O0;have a2:¬ (v:Int)<(v:Int):=O0;simp(disch:=first | omega | assumption | exact G0 O1 | exact U10 O1 | exact X0 O0 | fail   )only[W0,a2];have a6:∀ a b,a<v->b<v->(Q1 (adj es a) N).testBit b=adj es a b:=fun a b ha hb=>by
  rw[E26];simp;intro h;omega
 have ah:∀ a,Q1 (adj es a) N<4294967296:=fun a=>R19 O0 _
 have a0:m<=n4/\(∀ i,i<m->i≠q4->i≠q5->J0 H4 i=J0 H i):=⟨e4.le,fun i hi _ _=>e4.get i hi⟩
 have ao:=(e4.get q4 l4).trans g4;have ai:=(e4.get q5 l5).trans g5;refine B1 (m:=v) (fun q L' H' nx'=>∃ a:Nat,q+a=v/\L'=[.int .i64 (a:Int)]/\(∀ x y z,x<a->x<y->y<z->z<v->¬ TT es x y z)/\H4=H'/\n4<=nx') ?_ ⟨0,O0,rfl,fun x y z h=>O0,rfl,aD _⟩;rintro q1 bz L1 _ n6 ⟨a,bo,rfl,hA,rfl,av⟩ an
 by_cases ha:a<v
 case neg=>
  have a8:¬ (a:Int)<(v:Int):=O0;simp(disch:=first | omega | assumption | exact G0 O1 | exact U10 O1 | exact X0 O0 | fail   )only[W0,a8];refine⟨O0,a0.2,.inl ⟨fun x y z h1 h2 h3=>hA x y z O0 h1 h2 h3,ao,ai⟩⟩
 have a8:(a:Int)<(v:Int):=O0;simp(disch:=first | omega | assumption | exact G0 O1 | exact U10 O1 | exact X0 O0 | fail  )only[W0,a8];refine B1 (m:=v) (fun q L' H' nx'=>∃ b:Nat,q+b=v+a+1/\a<b/\L'=[.int .i64 (b:Int)]/\(∀ y z,y<b->a<y->y<z->z<v->¬ TT es a y z)/\H4=H'/\n4<=nx') ?_ ⟨a+1,O0,O0,O2,fun y z h=>O0,rfl,av⟩;rintro q2 bh L1 _ n7 ⟨b,bk,b3,rfl,hB,rfl,aj⟩ Z
 by_cases hb:b<v
 case neg=>
  have Q:¬ (b:Int)<(v:Int):=O0;simp(disch:=first | omega | assumption | exact G0 O1 | exact U10 O1 | exact X0 O0 | fail   )only[W0,Q];refine an (q1-1) _ _ _ O0 ⟨a+1,O0,O2,fun x y z h1 h2 h3 h4 => ?_,rfl,aj⟩
  by_cases e:x=a
  .subst e;exact hB y z O0 h2 h3 h4
  .exact hA x y z O0 h2 h3 h4
 have Q:(b:Int)<(v:Int):=O0;have na:=Q3 (a1 a ha);have nb:=Q3 (a1 b hb);have az:=ah a;have bw:=ah b;have bd:b<32:=O0;have U:=a6 a b ha hb;have O:(∀ z,b<z->z<v->¬ TT es a b z)->∀ y z,y<b+1->a<y->y<z->z<v->¬ TT es a y z:=fun h y z h1 h2 h3 h4=>by
  by_cases e:y=b
  .subst e;exact h z h3 h4
  .exact hB y z O0 h2 h3 h4
 cases E:adj es a b with
 | true=>
  rw[E] at U;simp(disch:=try exact O4)only[W0,Q,N13,a4,na,U];exact Z (q2-1) _ _ _ O0 ⟨b+1,O0,O0,O2,O (fun z _ _ h=>by rw[h.1] at E;cases E),rfl,aj⟩
 | false=>
  rw[E] at U;have bf:Q1 (adj es a) N &&& Q1 (adj es b) N<4294967296:=D52 az;simp(disch:=try exact O4)only[W0,Q,N13,a4,na,nb,U];refine B1 (m:=v) (fun q L' H' nx'=>∃ c:Nat,q+c=v+b+1/\b<c/\L'=[.int .i64 (c:Int)]/\(∀ z,z<c->b<z->¬ TT es a b z)/\H4=H'/\n4<=nx') ?_ ⟨b+1,O0,O0,O2,fun z h=>O0,rfl,O0⟩;rintro q3 bx L1 _ n8 ⟨c,c4,ax,rfl,hC,rfl,ae⟩ aa
  by_cases hc:c<v
  case neg=>
   have V:¬ (c:Int)<(v:Int):=O0;simp(disch:=first | omega | assumption | exact G0 O1 | exact U10 O1 | exact X0 O0 | fail   )only[W0,V];exact Z (q2-1) _ _ _ O0 ⟨b+1,O0,O0,O2,O (fun z h1 h2=>hC z O0 h1),rfl,ae⟩
  have V:(c:Int)<(v:Int):=O0;have bu:c<32:=O0;have bc:(Q1 (adj es a) N &&& Q1 (adj es b) N).testBit c=(adj es a c&&adj es b c):=by rw[bI,a6 a c ha hc,a6 b c hb hc]
  have W:∀ k,U11 [.int .i64 0,.int .i64 0,.int .i64 0] [(0,1),(1,1),(2,1)] [(0,.int .i64 (a:Int)),(1,.int .i64 (b:Int)),(2,.int .i64 (c:Int))] k=k (.agg ⟨[.int .i64 (a:Int),.int .i64 (b:Int),.int .i64 (c:Int)]⟩):=fun k=>rfl
  cases J:adj es a c&&adj es b c with
  | false=>
   rw[J] at bc;simp(disch:=try exact O4)only[W0,V,bc];refine aa (q3-1) _ _ _ O0 ⟨c+1,O0,O0,O2,fun z h1 h2 => ?_,rfl,ae⟩
   by_cases e:z=c
   .subst e;intro h;rw[h.2.1,h.2.2] at J;cases J
   .exact hC z O0 h2
  | true=>
   rw[J] at bc;simp(disch:=try exact O4)only[W0,V,bc,W];refine V22 (V101 (x:=a) (y:=b) (z:=c) ao rfl ai rfl O0 O0 b4) ?_;rintro _ H9 n9 ⟨rfl,r4,r5,r6,r7⟩;simp(disch:=first | omega | assumption | exact G0 O1 | exact U10 O1 | exact X0 O0 | fail   )only[W0];rw[aG] at J;refine⟨O0,fun i hi ac ad=>by rw[r7 i O0 ac ad];exact a0.2 i hi ac ad,.inr ⟨a,b,c,⟨b3,ax,hc,⟨E,J.1,J.2⟩,fun x y z h1 h2 h3 h4 => ?_⟩,r4,r5⟩⟩;refine aI fun c3 => ?_
   by_cases e1:x<a
   .exact hA x y z e1 h1 h2 h3 h4
   obtain rfl:x=a:=O0
   by_cases e2:y<b
   .exact hB y z e2 h1 h2 h3 h4
   obtain rfl:y=b:=O0;exact hC z O0 h2 h4
def trV:Option (Nat × Nat × Nat)->Value
 | none => .tuple ⟨[.agg ⟨[.int .i64 0,.int .i64 0,.int .i64 0]⟩,.bool false]⟩
 | some (a,b,c) => .tuple ⟨[.agg ⟨[.int .i64 (a:Int),.int .i64 (b:Int),.int .i64 (c:Int)]⟩,.bool true]⟩
theorem X87 {N f:Nat} (hN:N<=6) (hf:f<=N) (A:Option Addr) (es:List Nat) (cap:Nat) (hsm:∀ e ∈ es,e<2^N) (hle:es.length<=8) (H:Y0) (nx:Nat) (hS:Sl H nx A (K12 es)):
  Q2 Tryz.prog 15 [gv (N:Int) A es.length cap,.int .i64 (f:Int)] H nx fun r H' nx'=>(∃ o,TrR es f o/\r=trV o)/\D0 H nx H' nx':=by
 refine spec15 ?_
 unfold F15
 have hp1:∀ a b:Value,B12 [a] 0 [b]=[b]:=fun _ _=>rfl
 simp (disch:=first | omega | assumption | exact G0 (by assumption) | exact U10 (by assumption) | exact X0 (by omega) | fail  ) only[W0,Z0,Q0.val,hp1]
 generalize hK:hs (hs (hs (hs (hs H nx (some (.cells [.int .i64 (N:Int),.slice A es.length cap] 0))) (nx+1) (some (.cells [.int .i64 0,.int .i64 0,.int .i64 0] 0))) (nx+1+1) (some (.cells [.int .i64 0,.int .i64 0,.int .i64 0] 0))) (nx+1+1+1) (some (.cells [.bool false] 0))) (nx+1+1+1) (some (.cells [.bool false] 0))=K
 have hE:D0 H nx K (nx+1+1+1+1):=by rw[<- hK];exact (((((D0.self (by omega):D0 H nx H (nx+1+1+1+1)).hs (by omega)).hs (by omega)).hs (by omega)).hs (by omega)).hs (by omega)
 have k2:J0 K nx=some (.cells [.int .i64 (N:Int),.slice A es.length cap] 0):=by rw[<- hK,Z1 _ (by omega),Z1 _ (by omega),Z1 _ (by omega),Z1 _ (by omega),Z11]
 have k3:J0 K (nx+1)=some (.cells [.int .i64 0,.int .i64 0,.int .i64 0] 0):=by rw[<- hK,Z1 _ (by omega),Z1 _ (by omega),Z1 _ (by omega),Z11]
 have k4:J0 K (nx+1+1)=some (.cells [.int .i64 0,.int .i64 0,.int .i64 0] 0):=by rw[<- hK,Z1 _ (by omega),Z1 _ (by omega),Z11]
 have k5:J0 K (nx+1+1+1)=some (.cells [.bool false] 0):=by rw[<- hK,Z11]
 clear hK
 try simp (disch:=first | omega | assumption | exact G0 (by assumption) | exact U10 (by assumption) | exact X0 (by omega) | fail   ) only[C13]
 refine R0 (Y102 hN hf A es cap hsm hle (hS.ext hE) k4 k5 (by omega) (by omega) (by omega)) ?_
 rintro r H6 n6 ⟨hn6,hfr,hres⟩
 have j3:=(hfr (nx+1) (by omega) (by omega) (by omega)).trans k3
 have hE6:D0 H nx H6 n6:=⟨by omega,fun i hi=>by rw[hfr i (by omega) (by omega) (by omega)];exact hE.get i hi⟩
 rcases hres with ⟨ht,r4,r5⟩ | ⟨a,b,c,ht,r4,r5⟩
 .simp (disch:=first | omega | assumption | exact G0 (by assumption) | exact U10 (by assumption) | exact X0 (by omega) | fail  ) only[W0,Z0,Nat.reduceAdd,r4,r5,j3,Y12,D7]
  exact⟨⟨none,ht,rfl⟩,(hE6.more (by omega)).hs (by omega)⟩
 .simp (disch:=first | omega | assumption | exact G0 (by assumption) | exact U10 (by assumption) | exact X0 (by omega) | fail  ) only[W0,Z0,Nat.reduceAdd,r4,r5,j3,Y12,D7]
  exact⟨⟨some (a,b,c),ht,rfl⟩,(hE6.more (by omega)).hs (by omega)⟩
end
def K36(N free:Int)(es:List Nat):Prop:=es.length<=8/\(N<=6\/32<N)/\(0<=free->free<=N->N<=32->N-free<=4)
theorem J67(N free:Int)(A:Option Addr)(es:List Nat)(cap:Nat)(H:Y0)(nx:Nat):
  Q2 gQ 9 [gv N A es.length cap,.int .i64 free] H nx fun r H' nx'=>(∃ c:Bool,r = .bool c/\(c=true->K36 N free es))/\D0 H nx H' nx':=by
 refine spec9 ?_;unfold F9;have J:D0 H nx (hs H nx (some (.cells [.int .i64 N,.slice A es.length cap] 0))) (nx+1):=(D0.refl H nx).nw _
 by_cases h1:(es.length:Int)<=8
 case neg=>
  simp only[W0,Z0,Q0.val,h1];exact⟨⟨false,rfl,fun h=>(by cases h)⟩,J⟩
 have E:∀ c:Bool,(c=true->(N<=6\/32<N)/\(0<=free->free<=N->N<=32->N-free<=4))->(∃ c':Bool,dU c = .bool c'/\(c'=true->K36 N free es))/\D0 H nx (hs H nx (some (.cells [.int .i64 N,.slice A es.length cap] 0))) (nx+1):=
  fun c hc=>⟨⟨c,rfl,fun h=>⟨O0,hc h⟩⟩,J⟩
 have hw:0<=free->free<=N->N<=32->IntKind.i64.wrap (N-free)=N-free:=fun a b c=>Y23 O0 O0
 by_cases h4:IntKind.i64.wrap (N-free)<=4
 .by_cases h2:N<=6
  .simp only[W0,Z0,Q0.val,h1,h2,R11,h4]
   exact E _ fun _=>⟨.inl h2,fun a b c=>by rw[hw a b c] at h4;exact h4⟩
  .by_cases h3:32<N
   .simp only[W0,Z0,Q0.val,h1,h2,h3,R11,h4]
    exact E _ fun _=>⟨.inr h3,fun a b c=>O0⟩
   .simp only[W0,Z0,Q0.val,h1,h2,h3]
    exact⟨⟨false,rfl,fun h=>(by cases h)⟩,J⟩
 .have hf:∀ c:Bool,c=decide (free<0)->c=true->(0<=free->free<=N->N<=32->N-free<=4):=fun c hc h a=>by
   rw[hc] at h;simp at h;omega
  by_cases h2:N<=6
  .simp only[W0,Z0,Q0.val,h1,h2,R11,h4]
   exact E _ fun h=>⟨.inl h2,hf _ rfl h⟩
  .by_cases h3:32<N
   .simp only[W0,Z0,Q0.val,h1,h2,h3,R11,h4]
    exact E _ fun h=>⟨.inr h3,hf _ rfl h⟩
   .simp only[W0,Z0,Q0.val,h1,h2,h3]
    exact⟨⟨false,rfl,fun h=>(by cases h)⟩,J⟩
theorem G87{v:Value}{l:List Nat}{H:Y0}{nx:Nat}(h:LsR l v H nx)(hl:l.length<=1000):Q2 gQ 26 [v] H nx fun r H' nx'=>LsR l r H' nx'/\D0 H nx H' nx':=by
 obtain⟨A,rfl,O,hS⟩:=h;refine spec26 ?_;unfold F26;simp only[W1];rw[G21]
 cases A with
 | none=>
  have Q:=O.1 rfl;subst Q;simp only[W0,Q0.val,Option.isNone];exact⟨C66 _ _,D0.refl _ _⟩
 | some a=>
  have J:l≠[]:=fun e=>by have:=O.2 e;cases this
  have E:=List.length_pos_iff.2 J;simp only[W0,Q0.val,Option.isNone,U21];have hX:D0 H nx (hs H nx (some (.cells [] 0))) (nx+1):=(D0.refl H nx).nw _;refine R20 (lo:=nx) (H0:=H) (l:=U4 (l.map fun(x:Nat)=>(x:Int))) (Z11 _ _ _) (aD _) O0 (B68 (hS.ext hX) (by rw[J6];omega) O0) (K13 _) O0 O0 hX ?_;intro v1 H1 W _ U V;obtain⟨P,rfl,hP,_⟩:=U.sl;rw[J6];refine⟨⟨P,rfl,⟨fun e => ?_,fun e=>absurd e J⟩,hP⟩,V⟩;subst e;obtain⟨b,o,row,e,_⟩:=hP.open (i:=0) (by rw[J6];exact E)
  cases e
def W14(es:List Nat)(N:Nat):Bool:=(aY N).all fun v=>R10 es (2^v)
theorem W49{N:Nat}(hN:N<=6)(A:Option Addr)(es:List Nat)(cap:Nat)(U:U14 es)(Z:es.length<=8)(H:Y0)(nx:Nat)(hS:Sl H nx A (K12 es)):
  Q2 gQ 28 [gv (N:Int) A es.length cap] H nx fun r H' nx'=>r = .bool (W14 es N)/\D0 H nx H' nx':=by
 refine spec28 ?_;unfold F28;have J:D0 H nx (hs H nx (some (.cells [.int .i64 N,.slice A es.length cap] 0))) (nx+1):=(D0.refl H nx).nw _;have k1:J0 (hs H nx (some (.cells [.int .i64 N,.slice A es.length cap] 0))) nx=some (.cells [.int .i64 N,.slice A es.length cap] 0):=Z11 _ _ _;simp only[W0,Z0,Q0.val];generalize hs H nx (some (.cells [.int .i64 N,.slice A es.length cap] 0))=K at *
 refine B1 (m:=N) (fun m L H' nx'=>∃ i:Nat,m+i=N/\L=[.int .i64 (i:Int)]/\(∀ v,v<i->R10 es (2^v)=true)/\K=H'/\nx+1=nx') ?_ ⟨0,O0,rfl,fun v h=>O0,rfl,rfl⟩;rintro m ih L _ _ ⟨i,hm,rfl,O,rfl,rfl⟩ W
 by_cases hi:i<N
 .have E:(i:Int)<(N:Int):=O0
  have Q:2^i<4294967296:=by
   have:2^i<=2^6:=aK O0 O0;omega
  have a0:i<32:=O0;have V:i<18446744073709551616:=O0;simp(disch:=omega)only[W0,k1,E,Z10 V];refine R0 (B45 Q A es cap _ _ (hS.ext J) U O0) ?_;rintro _ _ _ ⟨rfl,rfl,rfl⟩;have hz:(R10 es (2^i) || decide (2^i=0))=R10 es (2^i):=by
   have:0<2^i:=aQ i;have e:decide (2^i=0)=false:=O2;rw[e,Bool.or_false]
  rw[hz]
  cases hb:R10 es (2^i) with
  | false=>
   simp only[W0];refine⟨?_,J⟩;have:W14 es N=false:=by
    rw[bN];intro h;have:=bW.1 h i (by simpa using hi);rw[hb] at this;cases this
   rw[this]
  | true=>
   simp only[W0];refine W (m-1) _ _ _ O0 ⟨i+1,O0,O2,fun v hv => ?_,rfl,rfl⟩
   by_cases e:v=i
   .subst e;exact hb
   .exact O v O0
 .have E:¬ (i:Int)<(N:Int):=O0
  simp only[W0,k1,E];refine⟨?_,J⟩;have:W14 es N=true:=bW.2 fun v hv=>O v (by have:=cW.1 hv;omega)
  rw[this]
def C5(N free:Int)(es:List Nat):Int:=if Q6 N free es≠0 then Q6 N free es else if W14 es N.toNat=true then 0 else 9
theorem C58{N free:Int}(A:Option Addr)(es:List Nat)(cap:Nat)(J:U14 es)(hF:K36 N free es)(H:Y0)(nx:Nat)(hS:Sl H nx A (K12 es)):
  Q2 gQ 11 [gv N A es.length cap,.int .i64 free] H nx fun r H' nx'=>r = .int .i64 (C5 N free es)/\D0 H nx H' nx':=by
 refine spec11 ?_;unfold F11;have O:D0 H nx (hs H nx (some (.cells [.int .i64 N,.slice A es.length cap] 0))) (nx+1):=(D0.refl H nx).nw _;have k1:J0 (hs H nx (some (.cells [.int .i64 N,.slice A es.length cap] 0))) nx=some (.cells [.int .i64 N,.slice A es.length cap] 0):=Z11 _ _ _;simp only[W0,Z0,Q0.val,C13];generalize hs H nx (some (.cells [.int .i64 N,.slice A es.length cap] 0))=K at *
 refine R0 (N11 N A es cap _ _ (hS.ext O) J) ?_;rintro _ H2 nx2 ⟨rfl,Q⟩;have k2:=(Q.gt nx).trans k1;have E:=O.trans Q
 by_cases hg:N3 N es≠0
 .have d1:decide (N3 N es≠0)=true:=by simp[hg]
  simp only[W0,d1];refine⟨?_,E⟩;have hf:Q6 N free es=N3 N es:=by unfold Q6;rw[if_pos hg]
  unfold C5;rw[hf,if_pos hg]
 have W:N3 N es=0:=aI hg;have d1:decide (N3 N es≠0)=false:=by simp[W]
 have hf:Q6 N free es=if free<0\/N<free then 3 else 0:=by unfold Q6;rw[if_neg hg]
 have c1:decide (free > N)=decide (N<free):=rfl;simp only[W0,d1];refine N5 (fun L' H' nx'=>L'=[.bool (decide (free<0\/N<free))]/\H2=H'/\nx2=nx') ?_ ?_
 .intro j hj
  by_cases q0:free<0
  .simp only[W0,decide_eq_true q0]
   exact hj _ _ _ ⟨by simp[q0],rfl,rfl⟩
  .simp only[W0,decide_eq_false q0,k2]
   exact hj _ _ _ ⟨by simp[q0],rfl,rfl⟩
 rintro L _ _ ⟨rfl,rfl,rfl⟩
 by_cases hr:free<0\/N<free
 .simp only[W0,decide_eq_true hr]
  refine⟨?_,E⟩;rw[if_pos hr] at hf;unfold C5;rw[hf];rfl
 rw[if_neg hr] at hf;obtain⟨n,f,rfl,rfl,_,_,_,a0⟩:=U27 hf;have V:n<=6:=by have:=hF.2.1;omega
 simp only[W0,decide_eq_false hr,k2,C13];refine R0 (W49 V A es cap J hF.1 _ _ (hS.ext E)) ?_;rintro _ H3 Z ⟨rfl,U⟩;have hw:C5 n f es=if W14 es n=true then 0 else 9:=by
  unfold C5;rw[hf,if_neg O2]
  rfl
 rw[hw]
 cases W14 es n with
 | true=>
  simp only[W0];exact E.trans U
 | false=>
  simp only[W0];exact E.trans U
theorem M67 {N:Nat} {es:List Nat} (hsm:∀ e ∈ es,e<2^N):W14 es N=true<->orF es es.length=2^N-1:=by
 have hb:∀ v,R10 es (2^v)=true<->∃ e ∈ es,e.testBit v=true:=fun v=>by
  unfold R10
  rw[List.any_eq_true]
  constructor
  .rintro⟨e,h1,h2⟩
   refine⟨e,h1,?_⟩
   have h3:=of_decide_eq_true h2
   have h4:=N1 (2^v) e v
   rw[h3,Nat.zero_testBit,Nat.testBit_two_pow_self] at h4
   simpa using h4.symm
  .rintro⟨e,h1,h2⟩
   refine⟨e,h1,decide_eq_true ?_⟩
   apply Nat.eq_of_testBit_eq
   intro w
   rw[N1,Nat.testBit_two_pow,Nat.zero_testBit]
   by_cases hw:v=w
   .subst hw;simp[h2]
   .simp[hw]
 unfold W14
 rw[List.all_eq_true]
 constructor
 .intro h
  apply Nat.eq_of_testBit_eq
  intro w
  rw[Nat.testBit_two_pow_sub_one]
  by_cases hw:w<N
  .rw[decide_eq_true hw]
   exact X37.2 ((hb w).1 (h w (by simpa using hw)))
  .rw[decide_eq_false hw,Bool.eq_false_iff]
   intro hh
   obtain⟨e,h1,h2⟩:=X37.1 hh
   exact hw (R7 (hsm e h1) h2)
 .intro h v hv
  rw[hb]
  exact X37.1 (by rw[h,Nat.testBit_two_pow_sub_one];simpa using hv)
end Go.Proofs.YtoiioigihocgbaaGreatDoor
namespace Go.Clo
theorem G40{a:Nat}(h:1<=a)(ha:a<4294967296)(k:VP):D10 .sub (.int .u32 (a:Int)) (.int .u32 1) k=k (.int .u32 ((a-1:Nat):Int)):=by
 rw[R11];have e:eW.wrap ((a:Int)-1)=((a-1:Nat):Int):=by
  simp only[eY,eK,dW];simp;omega
 rw[e]
end Go.Clo
namespace Go.Proofs.YtoiioigihocgbaaGreatDoor
open Go.Clo
theorem Y36{N free:Int}(A:Option Addr)(es:List Nat)(cap:Nat)(ag:U14 es)(hF:K36 N free es)(H:Y0)(nx:Nat)(hS:Sl H nx A (K12 es)):
  Q2 gQ 25 [gv N A es.length cap,.int .i64 free] H nx fun r H' nx'=>r = .int .i64 (C5 N free es)/\D0 H nx H' nx':=by
 refine spec25 ?_;unfold F25;have a8:D0 H nx (hs H nx (some (.cells [.int .i64 N,.slice A es.length cap] 0))) (nx+1):=(D0.refl H nx).nw _;have k1:J0 (hs H nx (some (.cells [.int .i64 N,.slice A es.length cap] 0))) nx=some (.cells [.int .i64 N,.slice A es.length cap] 0):=Z11 _ _ _;simp only[W0,Z0,Q0.val,C13];generalize hs H nx (some (.cells [.int .i64 N,.slice A es.length cap] 0))=K at *
 refine R0 (N11 N A es cap _ _ (hS.ext a8) ag) ?_;rintro _ H2 nx2 ⟨rfl,a1⟩;have k2:=(a1.gt nx).trans k1;have E:=a8.trans a1;have b8:=a1.le
 by_cases hg:N3 N es≠0
 .have d1:decide (N3 N es≠0)=true:=by simp[hg]
  simp only[W0,d1];refine⟨?_,E⟩;have hf:Q6 N free es=N3 N es:=by unfold Q6;rw[if_pos hg]
  unfold C5;rw[hf,if_pos hg]
 have ay:N3 N es=0:=aI hg;have d1:decide (N3 N es≠0)=false:=by simp[ay]
 have hf:Q6 N free es=if free<0\/N<free then 3 else 0:=by unfold Q6;rw[if_neg hg]
 simp only[W0,d1];refine N5 (fun L' H' nx'=>L'=[.bool (decide (free<0\/N<free))]/\H2=H'/\nx2=nx') ?_ ?_
 .intro j hj
  by_cases q0:free<0
  .simp only[W0,decide_eq_true q0]
   exact hj _ _ _ ⟨by simp[q0],rfl,rfl⟩
  .simp only[W0,decide_eq_false q0,k2]
   exact hj _ _ _ ⟨by simp[q0],rfl,rfl⟩
 rintro L _ _ ⟨rfl,rfl,rfl⟩
 by_cases hr:free<0\/N<free
 .simp only[W0,decide_eq_true hr]
  refine⟨?_,E⟩;rw[if_pos hr] at hf;unfold C5;rw[hf];rfl
 rw[if_neg hr] at hf;obtain⟨n,f,rfl,rfl,_,ap,_,Z⟩:=U27 hf;have W:n<=6:=by have:=hF.2.1;omega
 have a9:=hF.1;have bf:2^n<=64:=aK (n:=2) O0 W;have c6:0<2^n:=aQ n;have bh:2^f<=2^n:=aK (n:=2) O0 ap;have c3:0<2^f:=aQ f;have hw:C5 n f es=if W14 es n=true then 0 else 9:=by
  unfold C5;rw[hf,if_neg O2]
  rfl
 have ad:=M67 Z;simp(disch:=omega)only[W0,decide_eq_false hr,k2];have a0:=R58 Z;refine B1 (m:=es.length) (fun m L H' nx'=>∃ i:Nat,m+i=es.length/\L=[.int .u32 (orF es i:Int),.int .i64 (i:Int)]/\H2=H'/\nx2=nx') ?_ ⟨0,O0,rfl,rfl,rfl⟩;rintro m2 bo L2 _ _ ⟨i2,c4,rfl,rfl,rfl⟩ a5
 by_cases ao:i2<es.length
 .have J:(i2:Int)<(es.length:Int):=O0
  obtain⟨e,he⟩:∃ e,es[i2]? = some e:=⟨_,aE ao⟩
  obtain⟨B,o,row,rfl,b3,O,Q⟩:=(hS.ext E).open (i:=i2) (by rw[E1];omega);have q0:=Q _ _ (Q3 he);have bc:=ag.get he;have h1:=a0 i2 O0;have b5:orF es i2<4294967296:=O0;simp(disch:=omega)only[W0,J,X3 O,q0];exact a5 (m2-1) _ _ _ O0 ⟨i2+1,O0,by rw[C47 he];simp,rfl,rfl⟩
 have J:¬ (i2:Int)<(es.length:Int):=O0;obtain rfl:i2=es.length:=O0;have bd:=a0 es.length (aD _);have bx:n<32:=O0;have bv:f<32:=O0;have ae:2^n<4294967296:=O0;have ai:2^f<4294967296:=O0;have s1:=fun k=>G40 (a:=2^n) O0 ae k
 have s2:=fun k=>G40 (a:=2^f) O0 ai k
 have z1:decide ((orF es es.length:Int)≠((2^n-1:Nat):Int))=decide (orF es es.length≠2^n-1):=by congr 1;apply propext;omega
 by_cases V:orF es es.length≠2^n-1
 .have a4:W14 es n=false:=by rw[bN];exact fun h=>V (ad.1 h)
  simp(disch:=omega)only[W0,J,k2,s1,z1,decide_eq_true V];rw[hw,a4];exact⟨rfl,E⟩
 have a4:W14 es n=true:=ad.2 (aI V);have aw:2^n-1<4294967296:=O0;have ac:Z2 (2^n-1) (2^f-1)<4294967296:=U10 aw;simp(config:={ maxSteps:=2000000 }) (disch:=omega)only[W0,J,k2,s1,z1,decide_eq_false V,s2,C13];refine R0 (Q49 (hS.ext (E.more (show nx2<=nx2+9 by omega))) W Z a9 ac) ?_;rintro _ H6 n6 ⟨⟨B6,rfl,an,a6⟩,a2⟩;have bg:=a2.le;have bw:=K46 es (Z2 (2^n-1) (2^f-1));have a7:=U67 (s:=Z2 (2^n-1) (2^f-1)) Z;generalize D14 es (Z2 (2^n-1) (2^f-1))=il at *
 have k6:=(a2.gt nx).trans k2;simp(config:={ maxSteps:=2000000 })only[W0,Z0,Nat.reduceAdd,gv,G26,C13];have al:D0 H6 (nx2+7) (hs (hs H6 (nx2+7) (some (.cells [.int .i64 0,.slice none 0 0] 0))) (nx2+7) (some (.cells [.int .i64 (n:Int),.slice B6 il.length il.length] 0))) n6:=((D0.sf:D0 H6 (nx2+7) H6 n6).h0).h0;have au:Sl (hs (hs H6 (nx2+7) (some (.cells [.int .i64 0,.slice none 0 0] 0))) (nx2+7) (some (.cells [.int .i64 (n:Int),.slice B6 il.length il.length] 0))) n6 B6 (K12 il):=fun i u hu=>by
  obtain⟨b,o,row,rfl,h2,h3,h4⟩:=an i u hu;have:=a6 b o none rfl;refine⟨b,o,row,rfl,h2,?_,h4⟩;unfold Q5;rw[gN _,gN _];exact h3
 generalize hs (hs H6 (nx2+7) (some (.cells [.int .i64 0,.slice none 0 0] 0))) (nx2+7) (some (.cells [.int .i64 (n:Int),.slice B6 il.length il.length] 0))=H8 at *
 have ah:D0 H nx H8 n6:=⟨O0,fun i hi=>by rw[al.gt i,a2.gt i];exact E.get i hi⟩
 refine R0 (U41 (cap:=il.length) au W a7 O0) ?_;rintro _ H9 n9 ⟨⟨B9,rfl,av⟩,ak⟩;obtain⟨az,_,_⟩:=M56 (es:=il) W;have bt:(D19 il n).length<=n:=E40 _ _ _ _;generalize D19 il n=cs at *
 simp only[W0];refine B1 (m:=cs.length) (fun m L H' nx'=>∃ i:Nat,m+i=cs.length/\L=[.int .i64 (i:Int)]/\D0 H9 n9 H' nx') ?_ ⟨0,O0,rfl,D0.refl _ _⟩;rintro m ih L bk bz ⟨i,hm,rfl,U⟩ ax
 by_cases hi:i<cs.length
 .have a3:(i:Int)<(cs.length:Int):=O0
  obtain⟨c,hc⟩:∃ c,cs[i]? = some c:=⟨_,aE hi⟩
  obtain⟨B,o,row,rfl,b3,O,Q⟩:=(av.ext U).open (i:=i) (by rw[E1];omega);have q0:=Q _ _ (Q3 hc);obtain⟨cv,_,aj⟩:=az c (aH hc);have ab:c<64:=by have:=aj.lt;omega
  have ba:E9 c<=6:=Q15 _ _;simp(disch:=omega)only[W0,a3,X3 O,q0];refine R0 (R44 ab _ _) ?_;rintro _ bu b4 ⟨rfl,aa⟩;have aq:¬ (E9 c:Int) > 8:=O0;simp only[W0,aq];exact ax (m-1) _ _ _ O0 ⟨i+1,O0,O2,U.trans aa⟩
 .have a3:¬ (i:Int)<(cs.length:Int):=O0
  simp only[W0,a3];rw[hw,a4];exact⟨rfl,(ah.trans ak).trans U⟩
open Go.Inv
section
variable {N free:Int}
theorem Q48{es:List Nat}(h:C5 N free es=0):∃ n f:Nat,N=n/\free=f/\n<=32/\f<=n/\(∀ e ∈ es,e<2^n)/\∀ v,v<n->Q21 es v:=by
 have E:Q6 N free es=0:=by
  unfold C5 at h
  split at h
  .rename_i h1;exact absurd h h1
  .rename_i h1;exact aI h1
 obtain⟨n,f,rfl,rfl,Q,O,_,U⟩:=U27 E;have eN:((n:Nat):Int).toNat=n:=O0;have J:W14 es n=true:=by
  unfold C5 at h;rw[E,if_neg O2,eN] at h
  cases hc:W14 es n with
  | true=>rfl
  | false=>rw[hc] at h;simp at h
 refine⟨n,f,rfl,rfl,Q,O,U,fun v hv => ?_⟩;unfold W14 at J;rw[bW] at J;obtain⟨e,h1,h2⟩:=K58.1 (J v (cW.2 hv));exact⟨e,h1,h2 v (by rw[Nat.testBit_two_pow_self])⟩
def NeaR(es:List Nat)(N free:Int)(r:Value)(H:Y0)(nx:Nat):Prop:=∃(B:Option Addr) (len:Nat) (m G6:Int),r = .tuple ⟨[.slice B len len,.int .i64 m,.int .i64 G6]⟩ /\
 ((C5 N free es≠0/\len=0/\m=0/\G6=C5 N free es)\/(C5 N free es=0/\((X45 es N.toNat free.toNat=none/\len=0/\m=0/\(PE es->G6=25)/\(¬ PE es->G6=24)) \/
  ∃ b,X45 es N.toNat free.toNat=some b/\len=b.length/\m=(J13 b:Int)/\G6=0/\Sl H nx B (U36 b))))
theorem K86(A:Option Addr)(es:List Nat)(cap:Nat)(W:U14 es)(hF:K36 N free es)(H:Y0)(nx:Nat)(hS:Sl H nx A (K12 es))(hH:Has H nx A):
  Q2 gQ 17 [gv N A es.length cap,.int .i64 free] H nx fun r H' nx'=>NeaR es N free r H' nx'/\D0 H nx H' nx':=by
 refine spec17 ?_;unfold F17;have a6:D0 H nx (hs H nx (some (.cells [.int .i64 N,.slice A es.length cap] 0))) (nx+1):=(D0.refl H nx).nw _;have k1:J0 (hs H nx (some (.cells [.int .i64 N,.slice A es.length cap] 0))) nx=some (.cells [.int .i64 N,.slice A es.length cap] 0):=Z11 _ _ _;simp only[W0,Z0,Q0.val,C13];generalize hs H nx (some (.cells [.int .i64 N,.slice A es.length cap] 0))=K at *
 refine R0 (Y36 A es cap W hF K _ (hS.ext a6)) ?_;rintro _ H2 n2 ⟨rfl,Z⟩;have k2:=(Z.gt nx).trans k1;have E:=a6.trans Z;have ab:=Z.le
 by_cases hw:C5 N free es≠0
 .simp only[W0,decide_eq_true hw]
  exact⟨⟨none,0,0,_,rfl,.inl ⟨hw,rfl,rfl,rfl⟩⟩,E⟩
 have a2:C5 N free es=0:=aI hw;obtain⟨n,f,rfl,rfl,ac,J,a0,_⟩:=Q48 a2;have U:n<=6:=by have:=hF.2.1;omega
 have a1:=hF.1;have eN:((n:Nat):Int).toNat=n:=O0;have eF:((f:Nat):Int).toNat=f:=O0;have h8:¬ (f:Int) > 8:=O0;have fail:∀ {G6:Int} {H':Y0} {n':Nat},X45 es n f=none->(PE es->G6=25)->(¬ PE es->G6=24)->NeaR es n f (.tuple ⟨[.slice none 0 0,.int .i64 0,.int .i64 G6]⟩) H' n':=fun h1 h2 h3=>
  ⟨none,0,0,_,rfl,.inr ⟨a2,.inl ⟨by rw[eN,eF];exact h1,rfl,rfl,h2,h3⟩⟩⟩
 simp only[W0,decide_eq_false hw,h8,k2,C13];refine R0 (V106 U A es cap H2 n2 (hS.ext E) (hH.ext E) a0 a1) ?_;rintro _ H3 n3 ⟨⟨c,rfl,hc⟩,a3⟩;have k3:=(a3.gt nx).trans k2;have Q:=E.trans a3;have aa:=a3.le
 cases c with
 | false=>
  have a7:¬ PE es:=fun h=>by have:=hc.2 h;cases this
  simp only[W0];exact⟨fail (Z84 J fun h=>a7 h.1) (fun h=>absurd h a7) (fun _=>rfl),Q⟩
 | true=>
  have hp:=hc.1 rfl;simp only[W0,k3,C13];refine R0 (W68 U J A es cap a0 a1 H3 n3 (hS.ext Q)) ?_;rintro _ H4 n4 ⟨⟨v4,rfl,_⟩,a4⟩;have a5:=W67 (es:=es) U J;have k4:=(a4.gt nx).trans k3;have O:=Q.trans a4
  cases hq:(K24 (B2 es n) n f).isSome with
  | true=>
   simp only[W0];exact⟨fail (Z84 J fun h=>h.2 (a5.1 hq)) (fun _=>rfl) (fun h=>absurd hp h),O⟩
  | false=>
   have a8:¬ U25 (N10 es) n f []:=fun h=>by have:=a5.2 h;rw[hq] at this;cases this
   simp only[W0,k4,C13];refine R0 (K112 U J A es cap a0 a1 H4 n4 (hS.ext O)) ?_;rintro _ H5 n5 ⟨⟨B,rfl,hB⟩,a9⟩;rw[V114 J ⟨hp,a8⟩] at hB ⊢;have V:=O.trans a9
   cases hr:X45 es n f with
   | none=>
    simp only[W0,gO];exact⟨fail hr (fun _=>rfl) (fun h=>absurd hp h),V⟩
   | some b=>
    rw[hr] at hB;simp only[W0,Option.isSome_some,Option.getD_some,K79];exact⟨⟨B,b.length,_,0,rfl,.inr ⟨a2,.inr ⟨b,by rw[eN,eF];exact hr,rfl,rfl,rfl,hB⟩⟩⟩,V⟩
end
end Go.Proofs.YtoiioigihocgbaaGreatDoor
namespace Go.Clo
theorem V111(b:Nat)(k:VP):D90 (.pointer (some ⟨b,0,none⟩)) 3 1 none none none k=k (.slice (some ⟨b,0,none⟩) 3 3):=by
 have e:B26 (some ⟨b,0,none⟩) 3 3 1 none none none false=some (.slice (some ⟨b,0,none⟩) 3 3):=rfl;unfold D90;simp only[e,E7]
theorem bV0(k:VP):U11 [.int .i64 0,.slice none 0 0,.slice none 0 0] [(0,1),(1,1),(2,1)] [] k=k (.agg ⟨[.int .i64 0,.slice none 0 0,.slice none 0 0]⟩):=V14 _ _
theorem bV2(x:Int)(A:Option Addr)(n c:Nat)(k:VP):U11 [.int .i64 0,.slice none 0 0,.slice none 0 0] [(0,1),(1,1),(2,1)] [(0,.int .i64 x),(2,.slice A n c)] k=k (.agg ⟨[.int .i64 x,.slice none 0 0,.slice A n c]⟩):=V14 _ _
theorem bV1(x:Int)(A:Option Addr)(n c:Nat)(k:VP):U11 [.int .i64 0,.slice none 0 0,.slice none 0 0] [(0,1),(1,1),(2,1)] [(0,.int .i64 x),(1,.slice A n c)] k=k (.agg ⟨[.int .i64 x,.slice A n c,.slice none 0 0]⟩):=V14 _ _
theorem LsR.sub{l:List Nat}{v:Value}{H:Y0}{nx:Nat}{H':Y0}(h:LsR l v H nx)(e:Sub H nx H'):LsR l v H' nx:=by
 obtain⟨A,h1,h2,h3⟩:=h;exact⟨A,h1,h2,h3.sub' e⟩
theorem E67{H:Y0}{q n:Nat}{b:Option V3}:Sub (D6 H [q]) n (hs H q b):=V74 (H':=hs H q b) (qs':=[]) (fun i _ hi=>Z1 _ (by simpa using hi)) (fun q hq=>by simp at hq)
theorem Sl.er1{H:Y0}{nx:Nat}{A:Option Addr}{l:List Value}{H':Y0}{nx' q:Nat}(h:Sl H nx A l)(e:D0 H nx H' nx')(hq:nx<=q):Sl (D6 H' [q]) nx' A l:=fun i v hv=>by
 obtain⟨b,o,row,e1,h2,h3,h4⟩:=h i v hv;refine⟨b,o,row,e1,aO h2 e.le,?_,h4⟩;unfold Q5;rw[Q50 O5,e.get b h2];exact h3
end Go.Clo
namespace Go.Proofs.YtoiioigihocgbaaGreatDoor
open Go.Clo
def LsI(l:List Int)(v:Value)(H:Y0)(nx:Nat):Prop:=∃ A,v = .slice A l.length l.length/\Sl H nx A (U4 l)/\Has H nx A
theorem V91(H:Y0)(nx:Nat):LsI [] (.slice none 0 0) H nx:=⟨none,rfl,Sl.nil _ _ _,.inl rfl⟩
theorem _root_.Go.Clo.Has.sub{H:Y0}{nx:Nat}{A:Option Addr}{H':Y0}(h:Has H nx A)(e:Sub H nx H'):Has H' nx A:=by
 rcases h with h | ⟨b,o,row,h1,h2,h3⟩
 .exact .inl h
 .refine .inr ⟨b,o,row,h1,h2,?_⟩
  unfold Q5 at h3 ⊢
  cases hb:J0 H b with
  | none=>rw[hb] at h3;cases h3
  | some x=>rw[e b x h2 hb];rw[hb] at h3;exact h3
def C56(es:List Nat)(N f:Nat)(E:Int)(p:List Int)(w:List Nat):Prop:=
 (Z74 es (B2 es N) N≠[]/\E=1/\p=[]/\w=Z74 es (B2 es N) N) \/
 (Z74 es (B2 es N) N=[]/\K24 (B2 es N) N f=some w/\E=2/\p=[]) \/
 (Z74 es (B2 es N) N=[]/\K24 (B2 es N) N f=none/\E=3/\p=[]/\∃ a b c,TrR es f (some (a,b,c))/\w=[a,b,c]) \/
 (Z74 es (B2 es N) N=[]/\K24 (B2 es N) N f=none/\E=0/\TrR es f none/\p=R82 es N f/\w=[])
theorem G94{es:List Nat}{N:Nat}(hN:N<=6)(E:∀ e ∈ es,e<2^N):(Z74 es (B2 es N) N).length<=100:=by
 have J:=(U93 (aL:=B2 es N) (N:=N) (fun u w within=>D81 hN (R60 es N)) N).1;have h1:(scF (B2 es N) N).length<=11:=by
  unfold scF
  split
  .simp
  .have:=Z90 (aL:=B2 es N) (N:=N) (L:=cyV (B2 es N) N N) N
   omega
 have h2:∀ most,(D83 es (B2 es N) N most).length<=N:=fun most=>K95 (K88 E (aQ N))
 have key:∀ cy cq:List Nat,cy.length<=100->cq.length<=100->(X90 cy cq).length<=100:=fun cy cq a b=>by
  unfold X90
  split
  .exact a
  .split
   .exact b
   .exact a
 exact key _ _ O0 (bK (h2 _) O0)
theorem K92{aL:List Nat}{N f:Nat}(hf:f<=N)(hN:N<=6){l:List Nat}(h:K24 aL N f=some l):l.length<=100:=by
 unfold K24 at h
 split at h
 .cases h
 .rename_i x hx
  cases h
  have h1:=List.find?_some hx;obtain⟨U,Q,J⟩:=E47 (aL:=aL) (N:=N) (inn:=K10 N f) (f:=f) f x (by simpa using h1);have E:N14 aL f x<2^N:=by
   have O:2^f<=2^N:=aK (n:=2) O0 hf;have:=aQ f;exact Z6 (Z6 O0)
  obtain⟨_,l2⟩:=K60 E N 0 _ 2 J;simp only[gM,List.length_range];dsimp only at l2;omega
def R66(es:List Nat)(N free:Int)(r:Value)(H:Y0)(nx:Nat):Prop:=
 (C5 N free es≠0/\r = .tuple ⟨[.agg ⟨[.int .i64 0,.slice none 0 0,.slice none 0 0]⟩,.int .i64 (C5 N free es)]⟩) \/
 (C5 N free es=0/\∃ E p w pv wv,r = .tuple ⟨[.agg ⟨[.int .i64 E,pv,wv]⟩,.int .i64 0]⟩/\C56 es N.toNat free.toNat E p w/\LsI p pv H nx/\LsR w wv H nx)
theorem Y99{N free:Int}(A:Option Addr)(es:List Nat)(cap:Nat)(ap:U14 es)(hF:K36 N free es)(H:Y0)(nx:Nat)(hS:Sl H nx A (K12 es)):
  Q2 gQ 10 [gv N A es.length cap,.int .i64 free] H nx fun r H' nx'=>R66 es N free r H' nx'/\D0 H nx H' nx':=by
 refine spec10 ?_;unfold F10;simp(disch:=try exact O3)only[W0,Z0,Q0.val,C13];generalize hK:hs (hs H nx (some (.cells [.int .i64 N,.slice A es.length cap] 0))) (nx+1) (some (.cells [.int .i64 0,.slice none 0 0,.slice none 0 0] 0))=K;have k1:J0 K nx=some (.cells [.int .i64 N,.slice A es.length cap] 0):=by rw[<- hK,gN _,Z11]
 have v1:J0 K (nx+1)=some (.cells [.int .i64 0,.slice none 0 0,.slice none 0 0] 0):=by rw[<- hK,Z11]
 have ax:D0 H nx K (nx+1+1):=by
  rw[<- hK];exact(((D0.refl H nx).nw _:D0 H nx _ (nx+1)).nw _)
 clear hK;refine R0 (Y36 A es cap ap hF K _ (hS.ext ax)) ?_;rintro _ H3 c4 ⟨rfl,ad⟩;have k3:=(ad.gt nx).trans k1;have v3:=(ad.gt (nx+1)).trans v1;have a8:=ax.trans ad;have bw:=ad.le
 by_cases hw:C5 N free es≠0
 .have d1:decide (C5 N free es≠0)=true:=by simp[hw]
  simp(disch:=try exact O3)only[W0,Z0,Nat.reduceAdd,d1,bV0,v3,D7,Y12];exact⟨.inl ⟨hw,rfl⟩,a8.h0⟩
 have W:C5 N free es=0:=aI hw;have ai:Q6 N free es=0:=by
  unfold C5 at W
  split at W
  .rename_i h;exact absurd W h
  .rename_i h;exact aI h
 obtain⟨n,f,rfl,rfl,_,ae,_,a3⟩:=U27 ai;have a2:n<=6:=by have:=hF.2.1;omega
 have ac:=hF.1;have eN:((n:Nat):Int).toNat=n:=O0;have eF:((f:Nat):Int).toNat=f:=O0;have bk:W14 es n=true:=by
  unfold C5 at W;rw[ai,if_neg O2,eN] at W
  cases hc:W14 es n with
  | true=>rfl
  | false=>rw[hc] at W;simp at W
 have bf:=(M67 a3).1 bk;have d1:decide (C5 n f es≠0)=false:=by simp[W]
 have c3:=G94 a2 a3;have ag:∀ {ak:Int} {p:List Int} {w:List Nat} {pv wv:Value} {H':Y0} {n':Nat},C56 es n f ak p w->LsI p pv H' n'->LsR w wv H' n'->R66 es n f (.tuple ⟨[.agg ⟨[.int .i64 ak,pv,wv]⟩,.int .i64 0]⟩) H' n':=fun h1 h2 h3=>
  .inr ⟨W,_,_,_,_,_,rfl,by rw[eN,eF];exact h1,h2,h3⟩
 simp(disch:=try exact O3)only[W0,d1,k3,C13];refine X65 (qs:=[nx+1]) (fun q hq=>by have:q=nx+1:=(by simpa using hq);omega) (G79 a2 A es cap a3 ac _ _ (hS.er1 a8 O0)) (fun _ _ _ h=>h.2) ?_;rintro _ H5 n5 H0 ⟨⟨v5,rfl,aw⟩,c7⟩ aa bo _;have aw:=aw.sub bo;have k5:=(aa.gt nx).trans k3;have w5:=(aa.gt (nx+1)).trans v3;have a5:=a8.trans aa;have bv:=aa.le
 by_cases ho:Z74 es (B2 es n) n≠[]
 .simp(disch:=try exact O3)only[W0,decide_eq_true ho]
  refine X65 (qs:=[nx+1]) (fun q hq=>by have:q=nx+1:=(by simpa using hq);omega) (G87 aw O0) (fun _ _ _ h=>h.2) ?_;rintro r6 H6 n6 aq ⟨J,au⟩ O Z _;have J:=J.sub Z;have w6:=(O.gt (nx+1)).trans w5;have a7:=O.le;have a6:=fun b=>J.sub (E67 (H:=H6) (q:=nx+1) (n:=n6) (b:=b))
  obtain⟨C,rfl,_⟩:=J;have Q:=a5.trans O;simp(disch:=try exact O3)only[W0,Z0,Nat.reduceAdd,bV2,w6,D7,Y12];exact⟨ag (.inl ⟨ho,rfl,rfl,rfl⟩) (V91 _ _) (a6 _),Q.h0⟩
 have an:Z74 es (B2 es n) n=[]:=aI ho;simp(disch:=try exact O3)only[W0,decide_eq_false ho,k5,C13];refine X65 (qs:=[nx+1]) (fun q hq=>by have:q=nx+1:=(by simpa using hq);omega) (W68 a2 ae A es cap a3 ac _ _ (hS.er1 a5 O0)) (fun _ _ _ h=>h.2) ?_;rintro _ H8 n8 bx ⟨⟨v8,rfl,ah⟩,bz⟩ ab bh _;have ah:=ah.sub bh;have k8:=(ab.gt nx).trans k5;have w8:=(ab.gt (nx+1)).trans w5;have a9:=a5.trans ab;have bu:=ab.le
 cases hp:K24 (B2 es n) n f with
 | some l=>
  rw[hp] at ah;have bc:=K92 ae a2 hp;simp(disch:=try exact O3)only[W0,Option.isSome_some];refine X65 (qs:=[nx+1]) (fun q hq=>by have:q=nx+1:=(by simpa using hq);omega) (G87 (l:=l) ah O0) (fun _ _ _ h=>h.2) ?_;rintro r6 H6 n6 aq ⟨J,au⟩ O Z _;have J:=J.sub Z;have w6:=(O.gt (nx+1)).trans w8;have a7:=O.le;have a6:=fun b=>J.sub (E67 (H:=H6) (q:=nx+1) (n:=n6) (b:=b))
  obtain⟨C,rfl,_⟩:=J;have Q:=a9.trans O;simp(disch:=try exact O3)only[W0,Z0,Nat.reduceAdd,bV2,w6,D7,Y12];exact⟨ag (.inr (.inl ⟨an,hp,rfl,rfl⟩)) (V91 _ _) (a6 _),Q.h0⟩
 | none=>
 simp(disch:=try exact O3)only[W0,gO,k8,C13];refine R0 (X87 a2 ae A es cap a3 ac _ _ (hS.ext a9)) ?_;rintro _ a0 E ⟨⟨o,b3,rfl⟩,a1⟩;have az:=(a1.gt nx).trans k8;have b4:=(a1.gt (nx+1)).trans w8;have a4:=a9.trans a1;have b8:=a1.le
 cases o with
 | some t=>
  obtain⟨a,b,c⟩:=t;have U:D0 a0 E (hs (hs a0 E (some (.cells [.int .i64 0,.int .i64 0,.int .i64 0] 0))) E (some (.cells [.int .i64 (a:Int),.int .i64 (b:Int),.int .i64 (c:Int)] 0))) (E+1):=((D0.refl _ _).nw _ (m:=E+1)).h0;have ba:J0 (hs (hs a0 E (some (.cells [.int .i64 0,.int .i64 0,.int .i64 0] 0))) E (some (.cells [.int .i64 (a:Int),.int .i64 (b:Int),.int .i64 (c:Int)] 0))) E=some (.cells [.int .i64 (a:Int),.int .i64 (b:Int),.int .i64 (c:Int)] 0):=Z11 _ _ _;simp(disch:=try exact O3)only[W0,Z0,Nat.reduceAdd,trV,D7,V111];generalize hs (hs a0 E (some (.cells [.int .i64 0,.int .i64 0,.int .i64 0] 0))) E (some (.cells [.int .i64 (a:Int),.int .i64 (b:Int),.int .i64 (c:Int)] 0))=H13 at *
  have av:=(U.gt (nx+1)).trans b4;have V:=a4.trans U;have bg:LsR [a,b,c] (.slice (some ⟨E,0,none⟩) 3 3) (D6 H13 [nx+1]) (E+1):=⟨some ⟨E,0,none⟩,rfl,O2,fun i u hu=>⟨E,0,_,rfl,O0,by unfold Q5;rw[Q50 O5,ba];rfl,by rw[cF];exact hu⟩⟩
  refine X65 (qs:=[nx+1]) (fun q hq=>by have:q=nx+1:=(by simpa using hq);omega) (G87 bg O2) (fun _ _ _ h=>h.2) ?_;rintro r6 H6 n6 aq ⟨J,au⟩ O Z _;have J:=J.sub Z;have w6:=(O.gt (nx+1)).trans av;have a7:=O.le;have a6:=fun b=>J.sub (E67 (H:=H6) (q:=nx+1) (n:=n6) (b:=b))
  obtain⟨C,rfl,_⟩:=J;have Q:=V.trans O;simp(disch:=try exact O3)only[W0,Z0,Nat.reduceAdd,bV2,w6,D7,Y12];exact⟨ag (.inr (.inr (.inl ⟨an,hp,rfl,rfl,a,b,c,b3,rfl⟩))) (V91 _ _) (a6 _),Q.h0⟩
 | none=>
 have U:D0 a0 E (hs (hs a0 E (some (.cells [.int .i64 0,.int .i64 0,.int .i64 0] 0))) E (some (.cells [.int .i64 0,.int .i64 0,.int .i64 0] 0))) (E+1):=((D0.refl _ _).nw _ (m:=E+1)).h0;have b5:=(U.gt nx).trans az;simp(disch:=try exact O3)only[W0,Z0,Nat.reduceAdd,trV,D7,az,C13];generalize hs (hs a0 E (some (.cells [.int .i64 0,.int .i64 0,.int .i64 0] 0))) E (some (.cells [.int .i64 0,.int .i64 0,.int .i64 0] 0))=H13 at *
 have av:=(U.gt (nx+1)).trans b4;have V:=a4.trans U;refine X65 (qs:=[nx+1]) (fun q hq=>by have:q=nx+1:=(by simpa using hq);omega) (M96 (hS.er1 V O0) a2 ae a3 ac) (fun _ _ _ h=>h.1) ?_;rintro r6 H6 n6 aq ⟨au,J⟩ O Z _;rcases J with ⟨bt,_⟩ | ⟨_,B,w,rfl,hB,bd,ao⟩
 .exact absurd bf bt
 obtain⟨c6,rfl,al⟩:=bd.num;have hB:=hB.sub' Z;have ao:=ao.sub Z;have w6:=(O.gt (nx+1)).trans av;have a7:=O.le;have Q:=V.trans O;have d0:decide ((0:Int)≠0)=false:=by decide
 simp(config:={ maxSteps:=2000000 }) (disch:=try exact O3)only[W0,Z0,Nat.reduceAdd,al.three,al.one,G24 (show c6.length=[dU false,.slice none 0 0,.slice none 0 0].length from al.three),d0,bV1,w6,D7,Y12];have aj:∀ X,Sub (D6 H6 [nx+1]) n6 (Go.Clo.hs (Go.Clo.hs (Go.Clo.hs H6 n6 (some (.cells [.bool false,.slice none 0 0,.slice none 0 0] 0))) n6 (some (.cells c6 0))) (nx+1) X):=fun X i b hi hb=>by
  have ay:i≠nx+1:=by
   rintro rfl;rw[U73 O2] at hb
   cases hb
  rw[Q50 (by simpa using ay)] at hb;rw[Z1 _ ay,gN _,gN _];exact hb
 refine⟨ag (.inr (.inr (.inr ⟨an,hp,rfl,b3,rfl,rfl⟩))) ⟨B,rfl,?_,?_⟩ (C66 _ _),((Q.more (show n6<=n6+1 by omega)).h0).h0 |>.h0⟩
 .exact(hB.sub' (aj _)).ext (D0.sf)
 .exact(ao.sub (aj _)).ext (D0.sf)
open Go.Inv
section
variable {a b c f n:Nat} {es q w:List Nat} {kind:Int} {p:List Int}
theorem X67:TT es a b c<->N10 es a c/\N10 es b c/\¬ N10 es a b:=by
 unfold TT;rw[M43,M43,<- M43 (a:=a) (b:=b),Bool.not_eq_true];exact⟨fun h=>⟨h.2.1,h.2.2,h.1⟩,fun h=>⟨h.2.2,h.1,h.2.1⟩⟩
theorem D68(h:TrR es f none):¬ R52 es f:=fun⟨a,b,c,h1,h2,h3,h4⟩=>h a b c h1 h2 h3 (X67.2 h4)
theorem E68(h:TrR es f (some (a,b,c))):R52 es f:=⟨a,b,c,h.1,h.2.1,h.2.2.1,X67.1 h.2.2.2.1⟩
theorem R67{es:List Nat}(hn:n<=6)(hf:f<=n)(E:∀ e ∈ es,e<2^n)(h:C56 es n f kind p w):
  (¬ PE es/\kind=1)\/(PE es/\U25 (N10 es) n f []/\kind=2)\/(PE es/\¬ U25 (N10 es) n f []/\R52 es f/\kind=3)\/(U78 es n f/\kind=0):=by
 have J:∀ v,(Z7 es).testBit v=true<->Q21 es v:=fun v=>by rw[V107,dY];exact Iff.rfl
 have hP:=J73 hn E J;have hF:=W67 (es:=es) hn hf;have no:K24 (B2 es n) n f=none->¬ U25 (N10 es) n f []:=fun h2 g=>by have:=hF.2 g;rw[h2] at this;cases this
 rcases h with ⟨h1,rfl,_⟩ | ⟨h1,h2,rfl,_⟩ | ⟨h1,h2,rfl,_,a,b,c,ht,_⟩ | ⟨h1,h2,rfl,ht,_⟩
 .exact .inl ⟨fun g=>h1 (hP.2 g),rfl⟩
 .exact .inr (.inl ⟨hP.1 h1,hF.1 (by rw[h2];rfl),rfl⟩)
 .exact .inr (.inr (.inl ⟨hP.1 h1,no h2,E68 ht,rfl⟩))
 .exact .inr (.inr (.inr ⟨⟨hP.1 h1,no h2,D68 ht⟩,rfl⟩))
theorem N58{es:List Nat}(hn:n<=6)(hf:f<=n)(E:∀ e ∈ es,e<2^n)(h:C56 es n f kind p w):
  (kind=1<->¬ PE es)/\(kind=2<->PE es/\U25 (N10 es) n f [])/\(kind=0<->U78 es n f):=by
 rcases R67 hn hf E h with ⟨h1,rfl⟩ | ⟨h1,h2,rfl⟩ | ⟨h1,h2,h3,rfl⟩ | ⟨h1,rfl⟩
 .exact⟨⟨fun _=>h1,fun _=>rfl⟩,⟨fun g=>O0,fun g=>absurd g.1 h1⟩,⟨fun g=>O0,fun g=>absurd g.1 h1⟩⟩
 .exact⟨⟨fun g=>O0,fun g=>absurd h1 g⟩,⟨fun _=>⟨h1,h2⟩,fun _=>rfl⟩,⟨fun g=>O0,fun g=>absurd h2 g.2.1⟩⟩
 .exact⟨⟨fun g=>O0,fun g=>absurd h1 g⟩,⟨fun g=>O0,fun g=>absurd g.2 h2⟩,⟨fun g=>O0,fun g=>absurd h3 g.2.2⟩⟩
 .exact⟨⟨fun g=>O0,fun g=>absurd h1.1 g⟩,⟨fun g=>O0,fun g=>absurd g.2 h1.2.1⟩,⟨fun _=>h1,fun _=>rfl⟩⟩
theorem U60{es:List Nat}(hn:n<=32)(hf:f<=n)(hl:es.length<=64)(E:∀ e ∈ es,e<2^n)(hc:∀ v,v<n->Q21 es v):C5 n f es=0:=by
 have h1:Q6 n f es=0:=by
  unfold Q6;rw[V11 hn hl fun i e he=>E e (aH he),if_neg O2,if_neg O0]
 unfold C5;rw[h1,if_neg O2,show((n:Nat):Int).toNat=n by omega,if_pos];unfold W14;rw[bW];intro v hv;obtain⟨e,h2,h3⟩:=hc v (cW.1 hv);refine K58.2 ⟨e,h2,fun w hw => ?_⟩;rw[aR,decide_eq_true_eq] at hw;subst hw;exact h3
theorem IsF.sm{es q:List Nat}(h:IsF f q)(hf:f<=n)(J:∀ e ∈ es,e<2^n):∀ e ∈ G25 es q,e<2^n:=fun e' E=>by
 obtain⟨e,he,hb⟩:=(h.ren es).b e' E;refine Nat.lt_pow_two_of_testBit _ fun w hw => ?_
 rw[hb];refine bN.2 fun g => ?_
 have h1:=R7 (J e he) g;have h2:=(h.sgm_n hf w).1 h1;omega
theorem IsF.covd(h:IsF f q)(hf:f<=n)(hc:∀ v,v<n->Q21 es v):∀ v,v<n->Q21 (G25 es q) v:=fun v hv=>(h.ren es).cov.2 (hc _ ((h.sgm_n hf v).2 hv))
theorem U112(h:IsF f q):V72 (q.map fun(x:Nat)=>(x:Int)) 0 f:=by
 refine⟨by rw[gM];have:=h.len;omega,fun x hx => ?_,List.Pairwise.map _ (fun a b E J=>E O0) h.nd⟩;obtain⟨y,hy,rfl⟩:=gN.1 hx;have:=h.lt y hy;omega
theorem X68{n:Nat}(hn:n<=32)(A:Option Addr)(l:List Int)(cap:Nat)(H:Y0)(nx:Nat)(hS:Sl H nx A (U4 l)):
  Q2 gQ 22 [.slice A l.length cap,.int .i64 0,.int .i64 (n:Int)] H nx fun r H' nx'=>(∃ b:Bool,r = .bool b/\(b=true<->V72 l 0 n))/\H=H'/\nx<=nx':=by
 by_cases h:l.length<=40
 .exact C72 (f:=0) (Nat.zero_le _) hn A l cap H nx hS h
 .refine spec22 ?_
  unfold F22;have d:decide ((l.length:Int)≠(n:Int)-0)=true:=by simp;omega
  simp(disch:=omega)only[W0,d];exact⟨false,rfl,fun g=>(by cases g),fun g=>by have:=g.1;omega⟩
theorem bG(x:Int)(A:Option Addr)(n c:Nat)(k:VP):U11 [.int .i64 0,.slice none 0 0] [(0,1),(1,1)] [(0,.int .i64 x),(1,.slice A n c)] k=k (.agg ⟨[.int .i64 x,.slice A n c]⟩):=V14 _ _
theorem J64{N free:Int}{r:Value}{H:Y0}{nx:Nat}(hw:C5 N free es=0)(h:R66 es N free r H nx):
  ∃ kind p w P lp cp W lw cw,r = .tuple ⟨[.agg ⟨[.int .i64 kind,.slice P lp cp,.slice W lw cw]⟩,.int .i64 0]⟩/\C56 es N.toNat free.toNat kind p w:=by
 rcases h with ⟨h,_⟩ | ⟨_,kind,p,w,pv,wv,rfl,hV,⟨P,rfl,_⟩,⟨W,rfl,_,_⟩⟩
 .exact absurd hw h
 .exact⟨kind,p,w,_,_,_,_,_,_,rfl,hV⟩
end
theorem law5(N free:Int)(A:Option Addr)(es:List Nat)(cap:Nat)(H:Y0)(nx:Nat)(hS:Sl H nx A (K12 es))(hH:Has H nx A)(O:U14 es):
  Q2 gQ 5 [gv N A es.length cap,.int .i64 free] H nx fun r _ _=>r = .bool true:=by
 refine spec5 ?_;unfold F5;have ae:D0 H nx (hs H nx (some (.cells [.int .i64 N,.slice A es.length cap] 0))) (nx+1):=(D0.refl H nx).nw _;have k1:J0 (hs H nx (some (.cells [.int .i64 N,.slice A es.length cap] 0))) nx=some (.cells [.int .i64 N,.slice A es.length cap] 0):=Z11 _ _ _;simp only[gv];rw[M12,Y31];refine(@if_pos _ _ (show Z0 [cD .i64 N,.slice A es.length cap]=true from rfl) _ _ _).mpr ?_;rw[Q37];simp only[Q0.val];generalize hs H nx (some (.cells [.int .i64 N,.slice A es.length cap] 0))=K at *
 refine R0 (X60 K _) ?_;rintro _ _ _ ⟨rfl,rfl,rfl⟩;simp only[W0,Q0.val];refine N5 (fun L H' nx'=>(∃ c:Bool,L=[.bool c]/\(c=false->K36 N free es/\C5 N free es=0))/\D0 K (nx+1) H' nx') ?_ ?_
 .intro j hj
  simp only[W0,k1,C13];refine R0 (J67 N free A es cap K _) ?_;rintro _ H3 n3 ⟨⟨c,rfl,hF⟩,E⟩;have k3:=(E.gt nx).trans k1;have ah:=E.le
  cases c with
  | false=>
   simp only[W0];exact hj _ _ _ ⟨⟨true,rfl,fun h=>by cases h⟩,E⟩
  | true=>
   have hF:=hF rfl
   by_cases h5:free > 5
   .simp only[W0,h5]
    exact hj _ _ _ ⟨⟨true,rfl,fun h=>by cases h⟩,E⟩
   simp only[W0,h5,k3,C13];refine R0 (C58 A es cap O hF H3 n3 (hS.ext (ae.trans E))) ?_;rintro _ H4 n4 ⟨rfl,a0⟩;simp only[W0];exact hj _ _ _ ⟨⟨_,rfl,fun h=>⟨hF,by simpa using h⟩⟩,E.trans a0⟩
 rintro _ H3 n3 ⟨⟨c,rfl,hF⟩,E⟩
 cases c with
 | true=>simp only[W0]
 | false=>
 obtain⟨hX,ac⟩:=hF rfl;clear hF;have hF:=hX;clear hX;obtain⟨n,f,rfl,rfl,ay,U,ab,a8⟩:=Q48 ac;have a3:n<=6:=by have:=hF.2.1;omega
 have aw:=hF.1;have eN:((n:Nat):Int).toNat=n:=O0;have eF:((f:Nat):Int).toNat=f:=O0;have k3:=(E.gt nx).trans k1;have aa:=ae.trans E;have ah:=E.le;simp only[W0,k3,C13];refine R0 (Y99 A es cap O hF H3 n3 (hS.ext aa)) ?_;rintro r4 H4 n4 ⟨hD,a0⟩;obtain⟨J,p,w,P1,lp,cp,W1,lw,cw,rfl,hV⟩:=J64 ac hD;rw[eN,eF] at hV;have k4:=(a0.gt nx).trans k3;have ai:=aa.trans a0;have bf:=a0.le;have aj:D0 H4 n4 (hs (hs H4 n4 (some (.cells [.int .i64 0,.slice none 0 0,.slice none 0 0] 0))) n4 (some (.cells [.int .i64 J,.slice P1 lp cp,.slice W1 lw cw] 0))) (n4+1):=((D0.refl _ _).nw _ (m:=n4+1)).h0;have g6:J0 (hs (hs H4 n4 (some (.cells [.int .i64 0,.slice none 0 0,.slice none 0 0] 0))) n4 (some (.cells [.int .i64 J,.slice P1 lp cp,.slice W1 lw cw] 0))) n4=some (.cells [.int .i64 J,.slice P1 lp cp,.slice W1 lw cw] 0):=Z11 _ _ _;have k6:=(aj.gt nx).trans k4;simp only[W0,Z0,Nat.reduceAdd,D7,k6,C13];generalize hs (hs H4 n4 (some (.cells [.int .i64 0,.slice none 0 0,.slice none 0 0] 0))) n4 (some (.cells [.int .i64 J,.slice P1 lp cp,.slice W1 lw cw] 0))=H6 at *
 have V:=ai.trans aj;refine R0 (K86 A es cap O hF H6 (n4+1) (hS.ext V) (hH.ext V)) ?_;rintro _ H7 n7 ⟨⟨B,len,m,G6,rfl,hD⟩,a7⟩;have k7:=(a7.gt nx).trans k6;have g7:=(a7.gt n4).trans g6;have an:=V.trans a7;have bg:=a7.le;obtain⟨v1,v2,v0⟩:=N58 a3 U ab hV;rw[eN,eF] at hD;have c1:decide ((25:Int)≠0)=true:=by decide
 have c2:decide ((24:Int)≠0)=true:=by decide
 have c3:decide ((2:Int)=1)=false:=by decide
 have c4:decide ((25:Int)=24)=false:=by decide
 have c5:decide ((2:Int)=2)=true:=by decide
 have c6:decide ((25:Int)=25)=true:=by decide
 have c7:decide ((1:Int)=1)=true:=by decide
 have c8:decide ((24:Int)=24)=true:=by decide
 rcases hD with ⟨hw,_⟩ | ⟨_,⟨hr,rfl,rfl,b8,ap⟩ | ⟨b,hr,rfl,rfl,rfl,hB⟩⟩
 .exact absurd ac hw
 .by_cases hp:PE es
  .have az:U25 (N10 es) n f []:=aI fun hn=>by
    obtain⟨b,hb⟩:=K111 U a8 ⟨hp,hn⟩;rw[hr] at hb;cases hb
   obtain rfl:=v2.2 ⟨hp,az⟩;obtain rfl:=b8 hp;simp only[W0,g7,c1,c3]
  .obtain rfl:=v1.2 hp
   obtain rfl:=ap hp;simp only[W0,g7,c2]
 obtain⟨hq,hA⟩:=C95 hr;have hz:=R109 hr;have bh:=hq.len;have W:=hq.sm U ab;have a6:U14 (G25 es b):=fun e he=>by
  have h1:=W e he;have h2:2^n<=2^6:=aK O0 a3;omega
 have av:K36 n f (G25 es b):=⟨by rw[W46];exact hF.1,hF.2⟩
 have al:C5 n f (G25 es b)=0:=U60 ay U (by rw[W46];omega) W (hq.covd U a8);have d0:decide ((0:Int)≠0)=false:=by decide
 simp only[W0,d0,k7,g7];have a1:D0 H7 n7 H7 (n7+15):=D0.sf;have ad:=Y60 a3 A es cap B b b.length ab aw (fun x hx=>by have:=hq.lt x hx;omega) O0 H7 (n7+15) ((hS.ext an).ext a1) (hB.ext a1);refine R0 ad ?_;rintro _ H8 n8 ⟨⟨C,rfl,hC⟩,a5⟩;have k8:=(a5.gt nx).trans k7;have g8:=(a5.gt n4).trans g7;have bc:=a5.le;have ak:=Y99 (N:=n) (free:=f) C (G25 es b) es.length a6 av H8 n8 hC;rw[W46] at ak;simp only[bG];refine R0 ak ?_;rintro r9 H9 n9 ⟨aq,a4⟩;obtain⟨ax,p',w',P2,b3,b5,W2,au,ba,rfl,ag⟩:=J64 al aq;rw[eN,eF] at ag;have k9:=(a4.gt nx).trans k8;have g9:=(a4.gt n4).trans g8;have bd:=a4.le;obtain⟨_,_,u0⟩:=N58 a3 U W ag;obtain rfl:=u0.2 hA;have e1:decide (J13 b=0)=decide (J=0):=by
  congr 1;apply propext;rw[v0,<- hz]
 have hb:∀ b:Bool,(b==b)=true:=fun b=>by cases b<;>rfl
 have a2:D0 H7 n7 (hs (hs H9 (n7+12) (some (.cells [.int .i64 0,.slice none 0 0,.slice none 0 0] 0))) (n7+12) (some (.cells [.int .i64 0,.slice P2 b3 b5,.slice W2 au ba] 0))) n9:=(((a1.trans a5).trans a4).h0).h0;have b4:=(a2.gt n4).trans g7;have hm:(b.map fun(x:Nat)=>(x:Int)).length=b.length:=gM _;have a9:=X68 (n:=f) O0 B (b.map fun(x:Nat)=>(x:Int)) b.length _ n9 (hB.ext a2);have Q:∀ Z,n9<=Z->_:=fun Z hn=>D115 B (b.map fun(x:Nat)=>(x:Int)) b.length _ Z ((hB.ext a2).ext (D0.self hn)) (by rw[hm];omega)
 rw[hm] at a9;simp only[W0,Z0,Nat.reduceAdd,k8,b4,D7,J72,e1,hb,Bool.cond_false];refine R0 a9 ?_;rintro _ _ Z ⟨⟨c,rfl,hc⟩,rfl,ao⟩;obtain rfl:=hc.2 (U112 hq);simp only[W0];have Q:=Q Z ao;rw[hm] at Q;refine R0 Q ?_;rintro _ _ _ ⟨rfl,rfl,_⟩;simp only[W0,show inv (b.map fun(x:Nat)=>(x:Int))=J13 b from rfl]
end Go.Proofs.YtoiioigihocgbaaGreatDoor
namespace Go.Proofs.YtoiioigihocgbaaGreatDoor.dichotomyNear
section
open Go.ChangeShapes Go.WideShapes Go.ChangeAt Go.RowKit Go.Joins Go.Clo
theorem lifted(os:Os)(J:os.Started)(H:Type)(enc:TypeId × Value->H):
  ReturnsInHanded {} Tryz.checked os 5 .any (fun w args=>(Rows.dichotomyNearSpec.pre enc gQ Tryz.f5 Rows.dichotomyNearRow.domain false w args/\laidMetH gQ X16 w)/\sizedMet enc gQ Tryz.f5 (gP Rows.dichotomyNearSpec) false w args)
   (Rows.dichotomyNearSpec.post enc gQ Tryz.f5 false true false false):=by
 refine returnsInHanded_of_change_and (C:=Tryz.checked) (X:=fun w _=>laidMetH gQ X16 w) (fun _ _ _ hh h=>h.of_heap hh) own J (by kernel_rfl) Tryz.func5
  (ChangeSpec.witness_shaped (enc:=enc) (C:=Tryz.checked) (os:=os) (X:=fun w _=>laidMetH gQ X16 w) false (World.laidAll gQ os X16) #[.agg #[.int .i64 0,.slice none 0 0],.int .i64 0] 8 (World.laidAll_os _ _ _)
   (Q69 os) (by kernel_rfl) (by kernel_rfl) (by kernel_rfl) (met os _)) ?_
 intro W base args ds gs Z Q hW _ _ O _;have E:∀(j:Nat) t v,Tryz.f5.params[j]? = some t->args[j]? = some v->Value.okWide gQ W .any base t v:=Q;have a2:=hW;obtain⟨p,q,a1,hV,rfl,_,_⟩:=hW;have hA:DataW.TrodAll enc gQ W 0 (fun _=>true) true Tryz.f5.params.toList args.toList ds p:=a1;have U:=hA;rw[Tryz.params5] at hA E;obtain⟨v0,ae,d0,ad,p0,q0,a0,rfl,rfl,h0,r0⟩:=trodAll_cons hA;obtain⟨v1,ac,d1,aa,p1,q1,rfl,rfl,rfl,h1,r1⟩:=trodAll_cons r0;obtain⟨rfl,rfl,rfl⟩:=trodAll_nil r1;obtain rfl:args = #[v0,v1]:=by cases args;simp_all
 obtain⟨rfl,rfl⟩:=trodVars_none hV;obtain⟨N,A,len,cap,n0,y0,rfl,_,V,a8⟩:=V55 (E 0 24 v0 rfl rfl) h0;obtain⟨free,rfl,rfl,rfl,_⟩:=open_int Tryz.underlying3 (E 1 3 v1 rfl rfl) h1;obtain⟨F1,H1,a6,A',es,a5,a9,a7,a3,hS,ab,hH⟩:=E52 (In.start W (B48 O)) V a8;have a4:VL F1 [gv N A' es.length cap,.int .i64 free] [.agg #[.int .i64 N,.slice A len cap],.int .i64 free]:=
  .cons (VR.agg' (.cons (.int _ _) (.cons a7 .nil))) (.cons (.int _ _) .nil)
 refine(Y46 (law5 N free A' es cap H1 a6 hS hH a3) (fun _ _ _ h=>h) a5 a4).mono fun e W' ⟨he,hb⟩ => ?_
 subst he;refine⟨_,rfl,D64 a2 rfl rfl rfl rfl (by kernel_rfl) ?_ hb U fun x hx=>dX _ hx⟩;rw[Tryz.params5];intro t ht;simp only[aU,List.not_mem_nil,or_false] at ht;rcases ht with rfl | rfl<;>exact⟨by kernel_rfl,of_decide_eq_true (by kernel_rfl)⟩
theorem over:Rows.dichotomyNearRow.holds Tryz.pinned (gP Rows.dichotomyNearSpec):=
 OpenClaim.holds_of_wide 5 Tryz.f5 rfl rfl rfl rfl rfl rfl rfl ⟨rfl,rfl,rfl,rfl,rfl⟩ rfl rfl rfl rfl rfl (by kernel_rfl) Tryz.func5 (by kernel_rfl)
  (of_decide_eq_true (by kernel_rfl)) (by unfold Func.isWrapper;first | (rw[if_pos (by decide +kernel)];kernel_rfl) | (rw[if_neg (by decide +kernel)];exact⟨rfl,rfl⟩))
  (fun os E H enc _=>lifted os E H enc)
theorem proved:Rows.DichotomyNearCardSaid:=
 Claim7.holds_tied_plain_at .later [] [.data] true (true, "c5ae0ebca12fb395c0a3b7aa4c544d07c055311973735efb38106f23dc425963") false over (fun _ h => by cases h) (by kernel_rfl) (fun _ h => by cases h) dichotomyNear_row_tie rfl ⟨rfl, rfl⟩ (by kernel_rfl) rfl
  (fun f fn hf hfn=>by
   obtain rfl:f=5:=Option.some.inj ((show Tryz.prog.funcNamed Rows.dichotomyNearRow.func=some 5 by kernel_rfl).symm.trans hf) |>.symm
   obtain rfl:fn=Tryz.f5:=(Option.some.inj (Tryz.func5.symm.trans hfn)).symm
   exact⟨by kernel_rfl,fun j t ht=>by
    rw[Tryz.params5] at ht
    have hm:t ∈ [24,3]:=by simpa using Array.mem_of_getElem? ht
    have hall:([24,3].all fun u => !Tryz.prog.wantsStandIn u)=true:=by kernel_rfl
    exact (show Tryz.prog.wantsStandIn t=false by simpa using List.all_eq_true.1 hall t hm)⟩)
  (by kernel_rfl)
end
end Go.Proofs.YtoiioigihocgbaaGreatDoor.dichotomyNear
