/-
  The executor as a claim: closed runs as claims;the way in,from arguments that stand in the world.
  The executor as a claim: slices that may be empty,their rows;arrays in memory.
  The executor as a claim: contracts of the library,proved in the world itself,as claims on the abstract heap.
  Lemmas on claims that chapter 33 uses: append to a literal,the nil test,min,products.
  Sets of strings: maps from strings to bool all of whose values are true.
  Queries on the abstract heap: terms,atoms,conditions,rules,sort keys.
  Marked code out of the program itself: where a sequence is a join and what a loop carries is given;the rest is computed.
  The walk's rules,in one.
  What the generated texts of this seat lean on.
  MADE BY PROGRAM (wip/gen/gen.py): functions 129 107 78 93 64 63 92 62 6 23 35 50 66 67 as marked code,and their claims written out.
  slices.Values and slices.AppendSeq over strings,at this program: AppendSeq(nil,Values(s)) hands back a new slice that holds the strings of s.
  DERIVED: THE SHELF's CONTRACTS AT THIS DUMP,IN PLAIN WORDS (tools/lay-plain.mjs out of 'TryzMini.lean',which tools/lay-shelf.mjs wrote): THE SAME DECLARATIONS UNDER THE SAME NAMES: 'import','namespace','open','def','theorem' AND NOTHING ELSE: no command of the shelf's: FOR A HAND-IN. Each laying: the table of numbers ('.._ren') and one theorem,a field a fact of the dump's own or the kernel's comparison;each contract: ONE APPLICATION.
  slices.Sorted(slices.Values(s)) over strings,at this program: a new slice that holds the strings of s,sorted.
  The library's functions that chapter 56 calls,as claims on the abstract heap: strings.Join,strings.Index and strings.Count at one byte,slices.Sorted over slices.Values.
  Contracts: names of variables (the reference's and the program's).
  Contracts: valid names,with the number of a rule or without;the first name that is not valid.
  MADE BY PROGRAM (wip/gen/gen.py): functions 34 36 20 49 32 21 14 40 16 38 39 68 37 as marked code,and their claims written out.
  Contracts: a valid name,with the number of a rule or without;the names of a list.
  Contracts: slices.Compact over sorted strings;the error code of a list of names,as the program computes it.
  Contracts: the words of the kinds,the names of a list of numbers,the text of a verdict (the program's and the reference's).
  Contracts: the text of a verdict (the program's and the reference's),the printed list,the size limit.
  Plain: what ast.Check,ast.Vars and ast.Order answer.
  Contracts: a string split at its blanks (the reference's split;strings.Split),the index of a string,equal lists of numbers.
  Contracts: strings.Split at a blank,the index of a string in a list.
  Contracts: the verdict that a text says (the reference's Parse and the program's ParseVerdict).
  MADE BY PROGRAM (wip/gen/gen.py): functions 88 69 41 42 100 71 47 76 72 as marked code,and their claims written out.
  Contracts: value.Valid,ast.valid,checkHead,checkAggregate,checkAtom,checkItems.
  Contracts: checkHead,checkAggregate,checkAtom,checkItems.
  Contracts: checkAtom,checkItems.
  Contracts: ast.Vars and its closure,ast.positive.
  MADE BY PROGRAM (wip/gen/gen.py): functions 70 73 43 44 17 46 75 as marked code,and their claims written out.
  Contracts: slices.Clone over strings,slices.Grow at nil,slices.Concat of two,ast.positive.
  Contracts: slices.Grow at nil,slices.Concat of two lists,ast.positive.
  Contract: ast.positive.
  Contract: ast.checkRules.
  Contracts: ast.checkOrder,ast.Check.
  Contracts: slices.Clone over keys,ast.Order.
  Contract: ast.Order.
  Contract: strconv.Itoa at 1,2,3 by closed runs.
  Lists of names that grow: appending keeps other blocks.  Plain: the names.
  MADE BY PROGRAM (wip/gen/gen.py): functions 8 9 19 22 3 as marked code,and their claims written out.
  Contract: explain.names.
  What the law's names needs: one byte as a string,lists that outlast a put.
  Contract: the law's names.
  Plain: what Refusal answers.  Contract: explain.Refusal.
  Contract: the law's refused.
  MADE BY PROGRAM (wip/gen/gen.py): functions 5 as marked code,and their claims written out.
  Contract: the law's Great (on its claim F5;the text G9 would tie F5 to the program).
  Arguments opened,however deep: what is read at a type stands in the abstract heap (nested slices,structs),for any world.
-/
import Derived.Test.YthbdeaeghipliaaGreatDoorE2
import Derived.Carry
import Derived.ChangeArms
import Derived.DataReads
import Derived.Below
import Derived.Laws.AppendOwn
import Derived.MapKept
import Derived.KernelRfl
import Derived.Test.YthbdeaeghipliaaGreatDoorProg
import Derived.Test.YthbdeaeghipliaaGreatDoorE1
import Derived.RangeFuncBox
import Derived.RangeFuncLeaves
import Derived.Shelf.Abstract
import Derived.WalkKit
import Derived.OwnWalkIn
import Derived.TacticsInMore
import Derived.LoopNIn
import Derived.LoopIn
import Derived.Maps.AppendAt
import Derived.Shelf.Strings.Builder1
import Derived.Shelf.Strings.Builder2
import Derived.Shelf.Strings.OnBuilder
import Derived.Shelf.Strings.Search1
import Derived.Shelf.Strings.Search2
import Derived.Shelf.Strings.Search3
import Derived.Shelf.Strings.Count
import Derived.Shelf.SortM.Plain
import Derived.Shelf.SortM.SortNone
import Derived.Shelf.Spec.SlicesGrow
import Derived.Ground.NamesProg
import Derived.Ground.Names8Prog
import Derived.Ground.SlgmProg
import Derived.Sort.OwnSorted
import Derived.RangeFuncBound
import Derived.Lib.IndexLaws
import Derived.SizedLaws
import Derived.ChangeMaps5
set_option maxHeartbeats 8000000
set_option maxRecDepth 100000
set_option linter.all false
noncomputable section
open Array renaming getElem?_eq_none->fK,getElem?_toList->cL,replicate_succ->gS,replicate_zero->gW
open Bool renaming and_eq_true->aG,eq_iff_iff->eX,false_eq_true->dQ,or_eq_true->cO,true_and->iA
open ByteArray renaming data_append->cZ,size_append->aA
open Classical renaming byContradiction->aI
open Go.Builtin renaming zeroCells->fV
open Go.ByteArray renaming toList_eq->bB
open Go.DataW renaming TrodAll->hU,trod->eB,weights->gK
open Go.Instr renaming findNow->dP
open Go.Lib renaming joinTail->bP
open Go.Lit renaming int->gZ
open Go.Proofs.Tryz renaming prog->gQ
open Go.Value renaming bool->dU,int->cD,string->aB
open Go.World renaming cell?->cB
open Int renaming eq_ofNat_of_zero_le->fI,toNat_natCast->gR
open List renaming all_eq_true->iE,append_nil->gV,append_toArray->hJ,cons_append->dL,drop_zero->bW,ext_getElem?->dH,foldl_cons->dF,getD_cons_succ->gD,getD_cons_zero->fZ,getElem?_append_left->bQ,getElem?_append_right->bS,getElem?_cons_succ->dK,getElem?_drop->dB,getElem?_eq_getElem->aE,getElem?_eq_none->aT,getElem?_eq_some_iff->aJ,getElem?_map->cP,getElem?_set->cQ,getElem?_take->aX,getElem_of_mem->gL,length_append->bH,length_cons->cV,length_eq_zero_iff->dT,length_map->gM,length_nil->bE,length_replicate->iC,length_take->cK,map_cons->aC,mem_append->dN,mem_append_left->dX,mem_cons->aU,mem_cons_of_mem->eJ,mem_map->gN,mem_of_getElem?->aH,mem_singleton->dJ,nil_append->eR,nodup_append->gT,nodup_cons->hO,pairwise_cons->iH,pairwise_iff_getElem->fD,range->aY,replicate->aF,take_of_length_le->gJ
open List.Nodup renaming length_le_of_subset->iB
open Nat renaming add_assoc->eH,add_mul->dM,add_zero->eM,beq->bR,ble->dD,eq_zero_or_pos->cI,le_of_lt->eG,le_refl->aD,le_trans->bK,log2->iG,lt_of_lt_of_le->aO,lt_or_ge->aW,mod_lt->eZ,mul_add->bJ,mul_comm->cG,mul_le_mul->eL,mul_le_mul_right->dS,mul_one->eQ,zero_add->cF,zero_le->aL
open Option renaming bind_eq_some_iff->eA,elim_some->aN,map_eq_some_iff->bU
open Option.some renaming injEq->aZ
namespace Go.Clo
section
variable {F:FM} {H:Y0} {P:Program} {args:List Value} {c':Array Value} {e:TypeId} {f:FuncId} {m:Nat × Nat} {nx sz:Nat} {v:Value} {w:World}
theorem B55{n:Nat}{E:Orc}(hm:P.follows .mixedOrders=true)(B:J18 P)(ho:B42 P E)(hr:U46 P E n f args=some v)(ha:args.all M4=true)(hv:X7 v=true)(H:Y0)(nx:Nat):
  Q2 P f args H nx fun v' H' nx'=>v=v'/\H=H'/\nx=nx':=by
 have hE:Enters P f:=by
  unfold U46 at hr;rcases W22 (β:=Option Value) hm B ho n f args .leaf 0 none (fun v _ _=>some v) with h | ⟨v',H',nx',h,hcs⟩
  .rw[h] at hr;cases hr
  .exact hcs.1
 refine⟨v,H,nx,⟨hE,fun F J w hh hl => ?_⟩,rfl,rfl,rfl⟩;have e:=J19 hl ha;subst e;refine(B56 hm B ho hr ha hv w hh.gl.1).mono fun e w' ⟨he,hb⟩=>⟨v,F,he,C6 F v hv,?_⟩
 exact { le:=aD _,ext:=fun _ _=>rfl,os:=hb.os,tape:=hb.tape,output:=hb.output,size:=hb.size,frame:=fun b h _=>hb.block b h,own:=fun _ h => .inl h,keep:=fun _ _ h=>h,rom:=fun i b h _=>⟨hh.low h,h⟩,hr:=⟨fun i b hi hg=>let ⟨t,h1,h2⟩:=hh.blk i b hi hg;⟨t,h1,h2.mono (fun _ _ h=>h) (hb.block _ h2.lt)⟩,hh.inj,hh.fresh,hh.top,hh.gl.step (fun b h _=>hb.block b h) (fun _ h => .inl h)⟩ }
structure In (w:World) (F:FM) (H:Y0) (nx:Nat):Prop where
 hr:HR F H nx w
 rom:∀ i b,J0 H i=some b->b.isRom=true
theorem In.start(w:World)(B:GlW w):In w (fun _=>none) .leaf 0:=
 ⟨⟨fun i b hi=>O0,fun i j bi bj ti tj hi=>O0,fun _ _=>rfl,fun _ _=>rfl,⟨B,fun x hx ⟨i,_,_,hi,_⟩=>O0⟩⟩,fun i b h=>by rw[C40] at h;cases h⟩
theorem Y46{B:List Value}{Q:Value->Y0->Nat->Prop}(h:Q2 P f args H nx Q)(hQ:∀ v H' nx',Q v H' nx'->v = .bool true)(hi:In w F H nx)(hl:VL F args B):
  Calls P f B.toArray w fun e w'=>e = .returned (.bool true)/\RowKit.Below w.heap.size w w':=by
 obtain⟨v,H',nx',L,hq⟩:=h;have:=hQ _ _ _ hq;subst this;refine(L.2 F B w hi.hr hl).mono fun e w' ⟨v',F',he,J,E⟩ => ?_
 cases J
 refine⟨he,E.os,E.tape,E.output,E.size,fun b hb=>E.frame b hb ?_⟩;rintro⟨i,k,t,_,hg,hk,_⟩;rw[hi.rom i k hg] at hk;cases hk
def N26(F:FM)(i:Nat)(t:J7):FM:=fun j=>if j=i then some t else F j
theorem M36(h:In w F H nx)(t:J7):F.le (N26 F nx t):=by
 intro i u hu;have:i≠nx:=by
  intro e;subst e;rw[h.hr.fresh i (aD _)] at hu;cases hu
 simp[N26,this,hu]
theorem In.name(h:In w F H nx)(t:J7):In w (N26 F nx t) H (nx+1):=by
 have B:=M36 h t;refine⟨⟨fun i b hi hg => ?_,fun i j bi bj ti tj hi hj J E _ _ _ => .inr ⟨h.rom _ _ J,h.rom _ _ E⟩,fun i hi => ?_,fun i hi=>h.hr.top i O0,⟨h.hr.gl.1,fun x hx ⟨i,k,u,_,hg,hk,_⟩=>by rw[h.rom i k hg] at hk;cases hk⟩⟩,h.rom⟩
 .obtain⟨u,h1,h2⟩:=h.hr.blk i b (h.hr.low hg) hg
  exact⟨u,B _ _ h1,h2.mono B rfl⟩
 .have:i≠nx:=O0
  simp[N26,this];exact h.hr.fresh i O0
theorem In.row(h:In w F H nx){a:Nat}{off:Nat}{c:List Value}(hb:w.heap[a]? = some (.cells c' e m))(J:off+c.length<=c'.size)(hv:VL F c ((c'.toList.drop off).take c.length)):In w (N26 F nx ⟨a,off,c.length,0,c'.size⟩) (hs H nx (some (.rom c))) (nx+1):=by
 have h1:=h.name ⟨a,off,c.length,0,c'.size⟩;have E:=M36 h ⟨a,off,c.length,0,c'.size⟩;have B:∀ i b,J0 (hs H nx (some (.rom c))) i=some b->b.isRom=true:=by
  intro i b hg;rw[N7] at hg
  split at hg
  .cases hg;rfl
  .exact h.rom i b hg
 refine⟨⟨fun i b hi hg => ?_,fun i j bi bj ti tj hi hj M L _ _ _ => .inr ⟨B _ _ M,B _ _ L⟩,h1.hr.fresh,fun i hi => ?_,⟨h.hr.gl.1,fun x hx ⟨i,k,u,_,hg,hk,_⟩=>by rw[B i k hg] at hk;cases hk⟩⟩,B⟩
 .rw[N7] at hg
  split at hg
  .rename_i O
   subst O
   cases hg
   refine⟨_,by simp[N26];rfl,?_⟩;exact⟨c',e,m,hb,rfl,rfl,rfl,J,VL.mono E hv⟩
  .exact h1.hr.blk i b hi hg
 .rw[N7,if_neg O0];exact h.hr.top i O0
theorem Z49{α:Type}{f:α->List Value}(hf:∀ a,(f a).length=sz)(xs:List α):(xs.flatMap f).length=xs.length*sz:=by
 induction xs with
 | nil=>simp
 | cons a xs ih=>simp[hf,ih,dM];omega
section
variable {X:Type} {enc:TypeId × Value->X} {P:Program} {w:World} {base:Nat} {spare:Nat->Bool} {held:Bool}
theorem N61{a:Addr}(hb:w.heap[a.block]? = some (.cells c' e m))(hs:a.spot=none){k:Nat}{cs:List Value}(h:w.cells? base (a.add k) sz=some cs):
  (c'.toList.drop (a.off+k)).take sz=cs:=by
 obtain⟨_,hl,hc⟩:=World.cells?_some h;apply dH;intro i;rw[aX]
 split
 .rename_i hi
  rw[<- hc i hi,dB];have B:∀(b:Addr) (n:Nat),b.spot=none->b.add n=⟨b.block,b.off+n,none⟩:=by
   intro b n hn;unfold Addr.add
   split
   .rename_i h0
    subst h0
    cases b;simp at hn;subst hn;rfl
   .rfl
  rw[B a k hs,B _ i rfl];simp[cB,hb,eH]
 .rw[aT O0]
theorem N24(hl:laidOutB P=true){W W':World}(hb:RowKit.Below W.heap.size W W'):∀(ts:List TypeId) (vs:List Value) (ds:List (DataW X)) (ps:List MemPlace),(∀ t ∈ ts,P.readableRec t=true/\t<P.types.size) ->
  hU enc P W 0 (fun _=>true) true ts vs ds ps->(∀ x ∈ ps,x.block<W.heap.size)->hU enc P W' 0 (fun b=>decide (b<W.heap.size)) true ts vs ds ps
 | [],[],[],ps,_,h,_=>h
 | t :: ts,v :: vs,d :: ds,ps,ht,⟨p,q,h1,h2,e⟩,hlt=>by
  subst e;refine⟨p,q,?_,N24 hl hb ts vs ds q (fun u hu=>ht u (eJ _ hu)) h2 fun x hx=>hlt x (List.mem_append_right _ hx),rfl⟩;obtain⟨h3,h4⟩:=ht t List.mem_cons_self;exact RowKit.Below.trod hl h3 h4 h1 hb fun x hx=>hlt x (dX _ hx)
theorem J41{f:Func}{s:ChangeSpec}{J fresh E:Bool}{W W':World}{args:Array Value}{ds gs:List (DataW X)}{B pa pv:List MemPlace}(hW:DataW.Whole enc P f.params.toList s.vars J W args.toList ds gs B)(hb:RowKit.Below W.heap.size W W')(O:∀(b:Nat) (sp:Nat->Bool) (hd:Bool),hU enc P W' b sp hd f.resultTypes.toList (v.resultList f.resultTypes.size) (s.fn X (ds++gs)).results [])(L:hU enc P W' 0 (fun b=>decide (b<W.heap.size)) true f.params.toList args.toList (s.fn X (ds++gs)).args pa)(M:DataW.TrodVars enc P W' (fun b=>decide (b<W.heap.size)) s.vars (s.fn X (ds++gs)).vars pv):s.post enc P f J fresh E false W args v W':=
 ⟨ds,gs,B,[],pa,pv,hW,O _ _ _,L,M,hb.frame _,fun h=>by cases h⟩
end
end
section
variable {A:Option Addr} {H:Y0} {cap i nx size:Nat} {l:List Nat} {x:Value}
theorem E56{p:Program}{Q14:TypeId->Bool}{d:Nat}{e:TypeId}{B off n:Nat}(h:rowAt p Q14 d e B off n=true):off<=B*p.cellsOf e:=by
 cases d with
 | zero=>simp[rowAt] at h
 | succ d=>
  unfold rowAt at h;simp only at h
  split at h
  .cases h
  .rename_i hs
   have h1:=Nat.div_add_mod off (p.cellsOf e);have h3:off%p.cellsOf e<p.cellsOf e:=eZ _ O0;rw[cO] at h;rcases h with h | h
   .simp only[aG,beq_iff_eq,decide_eq_true_eq] at h
    obtain⟨⟨hr,hi⟩,_⟩:=h;rw[hr,eM,cG] at h1;rw[<- h1];exact dS _ O0
   .simp only[aG,decide_eq_true_eq] at h
    have h2:(off/p.cellsOf e+1)*p.cellsOf e<=B*p.cellsOf e:=dS _ O0;rw[dM,Nat.one_mul,cG] at h2;omega
theorem C32{p:Program}{e:TypeId}{B off:Nat}:∀ {d:Nat} {u:TypeId} {n:Nat},liesAt p d e B off u n=true->off<=B*p.cellsOf e
 | 0,_,_,h=>by simp[liesAt] at h
 | d+1,u,n,h=>by
  unfold liesAt at h;rw[cO] at h;rcases h with h | h
  .exact E56 h
  .split at h
   .exact C32 h
   .cases h
def U9(H:Y0)(nx:Nat)(A:Option Addr):Prop:=A=none\/∃ b o row,A=some ⟨b,o,none⟩/\b<nx/\Q5 H b=some row
theorem U9.ext{H':Y0}{nx':Nat}(h:U9 H nx A)(e:D0 H nx H' nx'):U9 H' nx' A:=by
 rcases h with h | ⟨b,o,row,h1,h2,h3⟩
 .exact .inl h
 .exact .inr ⟨b,o,row,h1,aO h2 e.le,by rw[e.row h2];exact h3⟩
theorem Y62(h:U9 H nx A):Src H size (.slice A 0 cap) 0 []:=by
 refine⟨rfl,fun k => ?_,O2⟩;rcases h with rfl | ⟨b,o,row,rfl,_,hrow⟩
 .rfl
 .unfold Q5 at hrow
  cases hg:J0 H b with
  | none=>rw[hg] at hrow;cases hrow
  | some blk=>
   rw[hg] at hrow;show B19 H ⟨b,o,none⟩ (0*size) False k=k [];unfold B19;simp only;rw[Y4,hg,Nat.zero_mul]
   cases blk with
   | cells c sl=>rfl
   | map es c=>simp[V3.row] at hrow
   | rom c=>rfl
theorem C27{m:Nat}{l:List Value}(h:Sl H nx A l)(h0:U9 H nx A)(hl:l.length=m*size)(B:0<size):Src H size (.slice A m cap) m l:=by
 cases m with
 | zero=>
  have:l=[]:=by simpa using hl
  subst this;exact Y62 h0
 | succ m=>exact B68 h hl (Nat.mul_pos O0 B)
theorem V141{bytes:Nat}(hx:Src H size x 0 [])(hb:bytes<=1000)(k:EP):B5 O6 x size bytes H nx k=k O6 H nx:=by
 unfold B5 Z22;rw[hx.len];dsimp only;have h1:(2*(0+0)+1000)*bytes<=281474976710656:=O0;rw[G1,V6 h1,V6 (show 0+0<=1000000000 by omega)];simp only[Bool.and_self,cond_true];rw[hx.first]
 rfl
theorem N31{c:List Value}{o:Nat}(h:o<c.length):B12 c o [x]=c.set o x:=by
 unfold B12;rw[List.set_eq_take_append_cons_drop,if_pos h];simp
theorem X62{x:Nat}:(K12 l).set i (O9 (x:Int))=K12 (l.set i x):=by simp[K12,List.map_set]
theorem V10{x:Nat}(h:i<l.length):B12 (K12 l) i [O9 (x:Int)]=K12 (l.set i x):=by rw[N31 (by rw[C3];exact h),X62]
end
section
variable {F:FM} {H:Y0} {b i nx o:Nat} {t:J7} {v:Value} {w w':World} {xs:List Value}
theorem N2.below(hh:HR F H nx w)(hb:RowKit.Below w.heap.size w w'):N2 F H nx w F H nx w':=
 { le:=aD _,ext:=fun _ _=>rfl,os:=hb.os,tape:=hb.tape,output:=hb.output,size:=hb.size,frame:=fun b h _=>hb.block b h,own:=fun _ h => .inl h,keep:=fun _ _ h=>h,rom:=fun i b h _=>⟨hh.low h,h⟩,hr:=⟨fun i b hi hg=>let ⟨t,h1,h2⟩:=hh.blk i b hi hg;⟨t,h1,h2.mono (fun _ _ h=>h) (hb.block _ h2.lt)⟩,hh.inj,hh.fresh,hh.top,hh.gl.step (fun b h _=>hb.block b h) (fun _ h => .inl h)⟩ }
theorem X130{P:Program}{f:FuncId}{args:List Value}(hE:Enters P f)(ha:args.all M4=true)(hv:X7 v=true)(h:∀ w,Calls P f args.toArray w fun e w'=>e = .returned v/\w'=w)(H:Y0)(nx:Nat):
  Q2 P f args H nx fun r H' nx'=>v=r/\H=H'/\nx=nx':=by
 refine⟨v,H,nx,⟨hE,fun F B w hh hl => ?_⟩,rfl,rfl,rfl⟩;have e:=J19 hl ha;subst e;refine(h w).mono fun e w' ⟨he,hw⟩ => ?_
 subst hw;exact⟨v,F,he,C6 F v hv,N2.refl hh⟩
theorem U23(hh:HR F H nx w)(hF:F b=some t)(hS:Sl H nx (some ⟨b,o,none⟩) xs)(hi:xs[i]? = some v):
  ∃ v',w.cell? ⟨t.blk,t.base+o+i,none⟩=some v'/\VR F v v':=by
 obtain⟨b',o',row,e,hb,B,hv⟩:=hS i v hi
 cases e
 unfold Q5 at B
 cases hg:J0 H b with
 | none=>rw[hg] at B;cases B
 | some blk=>
  rw[hg] at B;have L:=hh.hb.get hF hg;have J:∀(c:List Value) (c':Array Value),row=c->VL F c ((c'.toList.drop t.base).take c.length)->∃ v',c'[t.base+o+i]? = some v'/\VR F v v':=by
   intro c c' e E;subst e;obtain⟨v',h1,h2⟩:=E.some hv;refine⟨v',?_,h2⟩;rw[aX] at h1
   split at h1
   .rw[dB,cL] at h1
    rw[<- h1];congr 1;omega
   .cases h1
  cases blk with
  | map es q=>cases B
  | cells c sl=>
   obtain⟨c',e,hw,_,_,_,_,E⟩:=L;simp only[Option.bind_some,V3.row,aZ] at B;obtain⟨v',h1,h2⟩:=J c c' B.symm E;exact⟨v',by simp[cB,hw,h1],h2⟩
  | rom c=>
   obtain⟨c',e,m,hw,_,_,_,_,E⟩:=L;simp only[Option.bind_some,V3.row,aZ] at B;obtain⟨v',h1,h2⟩:=J c c' B.symm E;exact⟨v',by simp[cB,hw,h1],h2⟩
theorem W40(hh:HR F H nx w)(hF:F b=some t)(hS:Sl H nx (some ⟨b,o,none⟩) xs)(h0:0<xs.length):t.blk<w.heap.size:=by
 obtain⟨v',h1,_⟩:=U23 hh hF hS (aE h0);unfold cB at h1;rcases aW t.blk w.heap.size with g | g
 .exact g
 .rw[fK g] at h1;cases h1
theorem N2.row(hh:HR F H nx w)(hb:RowKit.Below w.heap.size w w'){g cap:Nat}{B:Array Value}{e:TypeId}(hg:w.heap.size<=g)(hc:w'.heap[g]? = some (.cells B e (0,0)))(h1:xs.length<=cap)(h2:B.size=cap)(h3:B.toList.take xs.length=xs)(J:cap<=9223372036854775807)(E:xs.all M4=true):
  ∃ F',VR F' (.slice (some ⟨nx,0,none⟩) xs.length xs.length) (.slice (some ⟨g,0,none⟩) xs.length cap)/\N2 F H nx w F' (hs H nx (some (.cells xs 1))) (nx+1) w':=by
 refine⟨upd F nx ⟨g,0,xs.length,1,cap⟩,?_,N2.name hh rfl hb.os hb.tape hb.output hb.size (fun k hk=>hb.block k hk) ?_ hg⟩
 .have:=VR.slice (F:=upd F nx ⟨g,0,xs.length,1,cap⟩) (b:=nx) (o:=0) (n:=xs.length) (c:=xs.length) (c':=cap) (t:=⟨g,0,xs.length,1,cap⟩) (Y6 _ _ _) (.inr ⟨Nat.one_pos,h1,O2,O2,J⟩)
  exact this
 .refine⟨B,e,hc,⟨h2,V77.low _ O0⟩,rfl,rfl,by simpa using h1,?_⟩
  simp only[bW];rw[h3];exact J10 _ _ E
theorem J6.of_new(H:Y0)(nx:Nat)(xs:List Value):J6 nx (Go.Clo.hs H nx (some (.cells xs 1))) (nx+1) 1 (.slice (some ⟨nx,0,none⟩) xs.length xs.length) xs.length xs:=
 ⟨O2,.inr ⟨nx,aD _,O0,rfl,Z11 _ _ _⟩⟩
def Y18(H:Y0)(nx:Nat)(A:Option Addr)(n cap:Nat):Prop:=(U9 H nx A/\(A=none->cap=0))\/∃ s,A=some ⟨0,0,some s⟩/\n=0/\cap=0
theorem Y18.ext{H:Y0}{nx:Nat}{A:Option Addr}{n cap:Nat}{H':Y0}{nx':Nat}(h:Y18 H nx A n cap)(e:D0 H nx H' nx'):Y18 H' nx' A n cap:=h.imp (fun h=>⟨h.1.ext e,h.2⟩) id
def N0(zs:List ByteArray):List Value:=zs.map aB
theorem B6{zs:List ByteArray}{z:ByteArray}(h:zs[i]? = some z):(N0 zs)[i]? = some (.string z):=by simp[N0,h]
theorem W2(zs:List ByteArray):(N0 zs).length=zs.length:=by simp[N0]
theorem J133(zs:List ByteArray):(N0 zs).all M4=true:=by simp[N0,M4]
theorem K93:∀ zs:List ByteArray,Z0 (N0 zs)=true
 | []=>rfl
 | z :: zs=>K93 zs
end
section
variable {H H0:Y0} {b bytes lo m n nx size:Nat} {c l:List Value} {k:EP} {x:Value}
theorem U21(z:List Value)(k:List Value->Prop):K6 0 1 z [] k=k []:=by
 rw[Q66];show(if Z0 []=true then k [] else False)=_;exact if_pos (show Z0 []=true from rfl)
theorem B52{cap sl:Nat}{c:List Value}(B:0<size)(hg:J0 H b=some (.cells c sl))(hl:c.length=n*size)(k:List Value->Prop):Z5 H size n (.slice (some ⟨b,0,none⟩) n cap) False k=k c:=by
 rcases cI n with h0 | h0
 .subst h0
  simp at hl;subst hl;unfold Z5 B19;dsimp only;rw[Y4,hg];simp only[aN,Nat.zero_mul,G5];exact V14 _ _
 .exact(J9 hg hl (Nat.mul_pos h0 B)).first k
theorem K44(M:0<size)(hg:J0 H b=O7 c)(hl:c.length=n*size)(hx:Src H size x m l)(hm:0<m)(ho:Z0 l=true)(L:(2*(n+m)+1000)*bytes<=281474976710656)(E:n+m<=1000000000):B5 (.slice (some ⟨b,0,none⟩) n n) x size bytes H nx k=k (.slice (some ⟨nx,0,none⟩) (n+m) (n+m)) (hs H nx (some (.cells (c++l) size))) (nx+1):=by
 have B:(c++l).length=(n+m)*size:=by rw[bH,hl,hx.size,dM]
 unfold B5 Z22;rw[hx.len];dsimp only;rw[G1,V6 L,V6 E];simp only[Bool.and_self,cond_true];rw[hx.first,ho,E27 (show n<n+m by omega)];simp only[cond_true,cond_false];rw[B52 M hg hl,V14,B,D13];simp only[cond_true,D22];rw[Y4,hg];simp only[aN];have J:N8 (.cells c 0) 0 n size=some false:=rfl;rw[J];dsimp only;simp only[K11];rw[G1,G1,G4]
theorem Y58(hg:J0 H b=O7 c)(hl:c.length=n*size)(hx:Src H size x 0 [])(E:(2*n+1000)*bytes<=281474976710656)(B:n<=1000000000):B5 (.slice (some ⟨b,0,none⟩) n n) x size bytes H nx k=k (.slice (some ⟨b,0,none⟩) n n) (hs H b (O7 c)) nx:=by
 unfold B5 Z22;rw[hx.len];dsimp only;rw[G1,V6 (show(2*(n+0)+1000)*bytes<=281474976710656 from E),V6 (show n+0<=1000000000 from B)];simp only[Bool.and_self,cond_true];rw[hx.first];simp only[Z0,cond_true,eM,V6 (aD n),C42,G1];rw[J30,hg];simp only[U20,bE,eM,cF,B12,gV,List.take_append_drop,hl,aD,true_and]
theorem G21(t:TypeId)(A:Option Addr)(n c:Nat)(k:VP):D9 (.eqn false (.slice t)) [.slice A n c,O6] k=k (.bool A.isNone):=by
 have e:VF.ev (.eqn false (.slice t)) [.slice A n c,O6]=some (.bool A.isNone):=by cases A<;>rfl
 unfold D9;rw[e,J8];rfl
theorem sl_new{sl:Nat}(hb:b<nx)(hg:J0 H b=some (.cells c sl)):Sl H nx (some ⟨b,0,none⟩) c:=fun i u hu=>⟨b,0,c,rfl,hb,by simp[Q5,hg,V3.row],by simpa using hu⟩
def E23(lo:Nat)(H:Y0)(nx:Nat)(v:Value)(c:List Value):Prop:=
 J6 lo H nx 1 v c.length c\/(c=[]/\∃ b,lo<=b/\b<nx/\v = .slice (some ⟨b,0,none⟩) 0 0/\J0 H b=some (.cells [] 0))
theorem E23.ext{lo:Nat}{H:Y0}{nx:Nat}{v:Value}{c:List Value}{H':Y0}{nx':Nat}(h:E23 lo H nx v c)(e:D0 H nx H' nx'):E23 lo H' nx' v c:=by
 rcases h with h | ⟨h0,b,h1,h2,h3,h4⟩
 .exact .inl (h.ext e)
 .exact .inr ⟨h0,b,h1,aO h2 e.le,h3,by rw[e.get b h2];exact h4⟩
theorem E23.sl{lo:Nat}{H:Y0}{nx:Nat}{v:Value}{c:List Value}(h:E23 lo H nx v c):∃ A,v = .slice A c.length c.length/\Sl H nx A c/\U9 H nx A:=by
 rcases h with h | ⟨rfl,b,h1,h2,rfl,h4⟩
 .obtain⟨A,rfl,hS⟩:=h.sl
  refine⟨A,rfl,hS,?_⟩;rcases h.2 with ⟨_,e⟩ | ⟨b,_,h2,e,h4⟩
  .injection e with e1
   exact .inl e1
  .injection e with e1
   subst e1;exact .inr ⟨b,0,c,rfl,h2,by simp[Q5,h4,V3.row]⟩
 .exact⟨_,rfl,Sl.nil _ _ _,.inr ⟨b,0,[],rfl,h2,by simp[Q5,h4,V3.row]⟩⟩
theorem K38{v:Value}{y:Value}(hA:E23 lo H nx v c)(hx:Src H 1 x 1 [y])(ho:Z0 [y]=true)(hb:bytes<=16)(L:c.length<=1000000)(hE:D0 H0 lo H nx)(B:lo<=nx)(hk:∀ v' H',E23 lo H' (nx+1) v' (c++[y])->D0 H0 lo H' (nx+1)->(∀ i,i<lo->J0 H' i=J0 H i)->k v' H' (nx+1)):B5 v x 1 bytes H nx k:=by
 have E:(2*(c.length+1)+1000)*bytes<=281474976710656:=by
  have:=eL (show 2*(c.length+1)+1000<=2*1000001+1000 by omega) hb;omega
 rcases hA with hA | ⟨rfl,b,h1,h2,rfl,h4⟩
 .have J:∀ A n' c',v = .slice (some A) n' c'->lo<=A.block:=fun A n' c' e=>by
   rcases hA.2 with ⟨_,e'⟩ | ⟨b,h1,_,e',_⟩
   .rw[e'] at e;cases e
   .rw[e'] at e;cases e;exact h1
  refine Y20 O0 hA hx O0 ho E O0 hE B fun v' H' h1 h2 h3=>hk v' H' (.inl ?_) h2 fun i hi=>h3 i O0 fun A n' c' e=>by have:=J A n' c' e;omega
  rw[bH];exact h1
 .rw[K44 (n:=0) O0 h4 O2 hx O0 ho (by simpa using E) O0]
  exact hk _ _ (.inl ⟨rfl,.inr ⟨nx,B,O0,rfl,Z11 _ _ _⟩⟩) (hE.new _ B O0) fun i hi=>gN _
theorem V22{P:Program}{g:FuncId}{first cap args:List Value}{Q:EP}(h:Q2 P g (first++args++cap) H nx Q)(hk:∀ v H' nx',Q v H' nx'->k v H' nx'):
  M33 P (.func (.func g) ⟨first⟩ ⟨cap⟩) args H nx k:=by
 show spine (first++args++cap) (fun vs=>M8 P g vs H nx False k);rw[V14];exact .inr (h.mono hk)
theorem R20(hg:J0 H b=O7 [])(B:lo<=b)(hb:b<nx)(hx:Src H 1 x m l)(ho:Z0 l=true)(hm:m<=1000000)(E:bytes<=16)(hE:D0 H0 lo H nx)(hk:∀ v' H' nx',nx<=nx'->E23 lo H' nx' v' l->D0 H0 lo H' nx'->k v' H' nx'):B5 (.slice (some ⟨b,0,none⟩) 0 0) x 1 bytes H nx k:=by
 have J:(2*(0+m)+1000)*bytes<=281474976710656:=by
  have:=eL (show 2*(0+m)+1000<=2*1000000+1000 by omega) E;omega
 have hl:=hx.size;rcases cI m with h0 | h0
 .subst h0
  have:l=[]:=dT.1 O0;subst this;rw[Y58 (n:=0) hg (by rfl) hx O0 O0];exact hk _ _ _ (aD _) (.inr ⟨rfl,b,B,hb,rfl,Z11 _ _ _⟩) (hE.hs B)
 .rw[K44 (n:=0) O0 hg O2 hx h0 ho J O0]
  refine hk _ _ _ O0 (.inl ⟨O0,.inr ⟨nx,O0,O0,?_,?_⟩⟩) (hE.nw _)
  .rw[cF,hl,eQ]
  .rw[Z11];rfl
end
section
variable {H H':Y0} {nx r:Nat}
def J75(H:Y0)(r:Nat)(S:ByteArray->Bool):Prop:=
 ∃ es c,J0 H r=some (.map es c)/\(∀ x ∈ es,MapKept.IsKey .string x.key/\x.val = .bool true)/\∀ s,S s=true<->∃ x ∈ es,x.key = .string s
theorem J75.ext{S:ByteArray->Bool}{nx':Nat}(h:J75 H r S)(hr:r<nx)(e:D0 H nx H' nx'):J75 H' r S:=by
 obtain⟨es,c,h1,h2,h3⟩:=h;exact⟨es,c,by rw[e.get r hr];exact h1,h2,h3⟩
theorem J75.same{S:ByteArray->Bool}(h:J75 H r S)(e:J0 H' r=J0 H r):J75 H' r S:=by
 obtain⟨es,c,h1,h2,h3⟩:=h;exact⟨es,c,by rw[e];exact h1,h2,h3⟩
theorem J75.nil{c:Nat}(h:J0 H r=some (.map [] c)):J75 H r fun _=>false:=
 ⟨[],c,h,O2,fun s=>O2⟩
theorem J75.find{es:List MapEntry}{S:ByteArray->Bool}(h2:∀ x ∈ es,MapKept.IsKey .string x.key/\x.val = .bool true)(h3:∀ s,S s=true<->∃ x ∈ es,x.key = .string s)(s:ByteArray):
  (S s=false/\dP .string (.string s) es 0=some none)\/(S s=true/\∃ j e,dP .string (.string s) es 0=some (some (j,.bool true))/\es[j]? = some e/\e.key = .string s):=by
 rcases MapKept.findNow_spec (d := .string) (k := .string s) trivial es 0 (fun x hx=>(h2 x hx).1) with ⟨h,hn⟩ | ⟨j,e,h,hj,hk⟩
 .refine .inl ⟨?_,h⟩
  cases hS:S s with
  | false=>rfl
  | true=>
   obtain⟨x,hx,B⟩:=(h3 s).1 hS;exact absurd B (hn x hx)
 .have hm:=aH hj
  refine .inr ⟨(h3 s).2 ⟨e,hm,hk⟩,j,e,?_,hj,hk⟩;rw[h,(h2 e hm).2,cF]
theorem J75.lk{S:ByteArray->Bool}(h:J75 H r S)(s:ByteArray)(k:VP):wLk .string (.bool false) (.map (some r)) (.string s) false H k=k (.bool (S s)):=by
 obtain⟨es,c,h1,h2,h3⟩:=h;unfold wLk;rw[show Q9 .string (.string s)=true from rfl];simp only[cond_true];rw[Y4,h1];simp only[aN];rcases J75.find h2 h3 s with ⟨hS,hf⟩ | ⟨hS,j,e,hf,_⟩
 .rw[hf,hS];rfl
 .rw[hf,hS];rfl
theorem J75.put{S:ByteArray->Bool}(h:J75 H r S)(s:ByteArray){k:EP}(hk:∀ b,J75 (hs H r (some b)) r (fun t=>S t || decide (t=s))->k undef (hs H r (some b)) nx):W56 .string (.map (some r)) (.string s) (.bool true) H nx k:=by
 obtain⟨es,c,h1,h2,h3⟩:=h;unfold W56;dsimp only;rw[Y4,h1];simp only[aN,G52];rw[show Q9 .string (.string s)=true from rfl];rcases J75.find h2 h3 s with ⟨hS,hf⟩ | ⟨hS,j,e,hf,hj,E⟩
 .rw[hf]
  simp only[cond_true];rw[V14,G1,G4];refine hk _ ⟨_,_,Z11 _ _ _,?_,fun t => ?_⟩
  .intro x hx
   rcases dN.1 hx with hx | hx
   .exact h2 x hx
   .rw[dJ.1 hx];exact⟨trivial,rfl⟩
  .rw[cO,h3,decide_eq_true_eq]
   constructor
   .rintro (⟨x,hx,B⟩ | rfl)
    .exact⟨x,dX _ hx,B⟩
    .exact⟨_,List.mem_append_right _ (dJ.2 rfl),rfl⟩
   .rintro⟨x,hx,B⟩
    rcases dN.1 hx with hx | hx
    .exact .inl ⟨x,hx,B⟩
    .rw[dJ.1 hx] at B
     injection B with B;exact .inr B.symm
 .rw[hf]
  simp only[cond_true];rw[Q8,hj];simp only;rw[V14,G4,K25];have L:=(aJ.1 hj).1;refine hk _ ⟨_,_,Z11 _ _ _,?_,fun t => ?_⟩
  .intro x hx
   rcases List.mem_or_eq_of_mem_set hx with hx | rfl
   .exact h2 x hx
   .exact⟨trivial,rfl⟩
  .rw[cO,h3,decide_eq_true_eq]
   constructor
   .rintro (⟨x,hx,B⟩ | rfl)
    .obtain⟨i,hi,rfl⟩:=gL hx
     by_cases J:j=i
     .subst J
      refine⟨_,List.mem_set L _,?_⟩;rw[aE hi] at hj;injection hj with hj;rw[<- hj] at E;rw[B] at E;exact E.symm
     .refine⟨es[i],?_,B⟩
      have:(es.set j { key := .string s,val := .bool true,born:=e.born })[i]? = some es[i]:=by
       rw[cQ,if_neg J,aE hi]
      exact aH this
    .exact⟨_,List.mem_set L _,rfl⟩
   .rintro⟨x,hx,B⟩
    rcases List.mem_or_eq_of_mem_set hx with hx | rfl
    .exact .inl ⟨x,hx,B⟩
    .injection B with B
     exact .inr B.symm
theorem R129{α:Type}{f:α->List Value}{sz:Nat}(hf:∀ a,(f a).length=sz):∀ {xs:List α} {i:Nat} {a:α},xs[i]? = some a->∀(j:Nat) (v:Value),(f a)[j]? = some v->(xs.flatMap f)[i*sz+j]? = some v
 | [],i,a,h,j,v,_=>by simp at h
 | x :: xs,0,a,h,j,v,hv=>by
  simp at h;subst h;have hj:=(aJ.1 hv).1;rw[List.flatMap_cons,Nat.zero_mul,cF,bQ hj];exact hv
 | x :: xs,i+1,a,h,j,v,hv=>by
  have ih:=R129 hf (xs:=xs) (i:=i) (a:=a) (by simpa using h) j v hv;have e:(i+1)*sz+j=sz+(i*sz+j):=by rw[dM,Nat.one_mul];omega
  rw[List.flatMap_cons,e,bS (by rw[hf];omega),hf,Nat.add_sub_cancel_left];exact ih
theorem Sl.elem{α:Type}{f:α->List Value}{sz:Nat}{A:Option Addr}{xs:List α}(h:Sl H nx A (xs.flatMap f))(hf:∀ a,(f a).length=sz)(h0:0<sz){i:Nat}{a:α}(hi:xs[i]? = some a):
  ∃ b o row,A=some ⟨b,o,none⟩/\b<nx/\Q5 H b=some row/\(∀(j:Nat) (v:Value),(f a)[j]? = some v->row[o+i*sz+j]? = some v)/\∀ k:VP,B10 row (o+i*sz) (some sz) k=k (.agg ⟨f a⟩):=by
 obtain⟨v0,E⟩:∃ v,(f a)[0]? = some v:=⟨_,aE (by rw[hf];exact h0)⟩
 have g0:=R129 hf hi 0 v0 E;obtain⟨b,o,row,h1,h2,h3,h4⟩:=h.open (aJ.1 g0).1;have B:∀(j:Nat) (v:Value),(f a)[j]? = some v->row[o+i*sz+j]? = some v:=fun j v hv=>by
  have:=h4 _ _ (R129 hf hi j v hv);rw[<- eH] at this;exact this
 exact⟨b,o,row,h1,h2,h3,B,fun k=>M51 (hf a) B k h0⟩
theorem G123(x y z u v:Value)(k:VP):B10 [x,y,z,u,v] 0 (some 5) k=k (.agg ⟨[x,y,z,u,v]⟩):=K26 (l:=[x,y,z,u,v]) k
theorem D121(b o:Nat)(H:Y0)(k:VP):J1 (.pointer (some ⟨b,o,none⟩)) (some 4) H k=V7 (J0 H b) o (some 4) k:=W31 b o 3 H k
theorem R109(b o:Nat)(H:Y0)(k:VP):J1 (.pointer (some ⟨b,o,none⟩)) (some 5) H k=V7 (J0 H b) o (some 5) k:=W31 b o 4 H k
end
section
variable {A:Option Addr} {H:Y0} {nx:Nat}
structure R33 where
 var:ByteArray
 kind:Int
 int:Int
 str:ByteArray
def U118(t:R33):List Value:=[.string t.var,.int .i64 t.kind,.int .i64 t.int,.string t.str]
theorem V117(t:R33):(U118 t).length=4:=rfl
structure J90 where
 neg:Bool
 rel:ByteArray
 TA:Option Addr
 tc:Nat
 terms:List R33
def Q115(a:J90):List Value:=[.bool a.neg,.string a.rel,.slice a.TA a.terms.length a.tc]
theorem M117(t:J90):(Q115 t).length=3:=rfl
structure Q111 where
 var:ByteArray
 op:Int
 kind:Int
 int:Int
 str:ByteArray
def Y127(c:Q111):List Value:=[.string c.var,.int .i64 c.op,.int .i64 c.kind,.int .i64 c.int,.string c.str]
theorem C121(t:Q111):(Y127 t).length=5:=rfl
structure V32 where
 AA:Option Addr
 ac:Nat
 atoms:List J90
 CA:Option Addr
 cc:Nat
 conds:List Q111
def K111(r:V32):List Value:=[.slice r.AA r.atoms.length r.ac,.slice r.CA r.conds.length r.cc]
theorem G124(t:V32):(K111 t).length=2:=rfl
structure B94 where
 var:ByteArray
 desc:Bool
def D19(k:B94):List Value:=[.string k.var,.bool k.desc]
theorem B126(t:B94):(D19 t).length=2:=rfl
structure M13 where
 HA:Option Addr
 hc:Nat
 head:List ByteArray
 agg:Int
 aggvar:ByteArray
 RA:Option Addr
 rc:Nat
 rules:List V32
 OA:Option Addr
 oc:Nat
 order:List B94
def Z16(q:M13):List Value:=[.slice q.HA q.head.length q.hc,.int .i64 q.agg,.string q.aggvar,.slice q.RA q.rules.length q.rc,.slice q.OA q.order.length q.oc]
def V9(H:Y0)(nx:Nat)(A:Option Addr):Prop:=A=none\/∃ b o c,A=some ⟨b,o,none⟩/\b<nx/\J0 H b=some (.rom c)
theorem V9.ext{H':Y0}{nx':Nat}(h:V9 H nx A)(e:D0 H nx H' nx'):V9 H' nx' A:=by
 rcases h with h | ⟨b,o,c,h1,h2,h3⟩
 .exact .inl h
 .exact .inr ⟨b,o,c,h1,aO h2 e.le,by rw[e.get b h2];exact h3⟩
theorem V9.has(h:V9 H nx A):U9 H nx A:=by
 rcases h with h | ⟨b,o,c,h1,h2,h3⟩
 .exact .inl h
 .exact .inr ⟨b,o,c,h1,h2,by rw[Q5,h3];rfl⟩
theorem X131{b o n cap h:Nat}{c:List Value}(hg:J0 H b=some (.rom c))(hh:h<=cap)(k:VP):U5 (.slice (some ⟨b,o,none⟩) n cap) 1 none (some (O8 (h:Int))) none H k=k (.slice (some ⟨b,o,none⟩) h cap):=by
 have hb:Y13 none cap=some cap:=rfl;have B:hiA (some (O8 (h:Int))) none n cap=some h:=by
  show Y13 (some (O8 (h:Int))) cap=some h;show(match (cD .i64 (Int.ofNat h)) with | .int _ (.ofNat i)=>cond (dD i cap) (some i) none | _=>none)=_;simp[V6 hh]
 have e:B26 (some ⟨b,o,none⟩) n cap 1 none (some (O8 (h:Int))) none false=some (.slice (some ⟨b,o,none⟩) h cap):=by
  simp only[B26,hb,B];show cond ((false&&(none:Option Value).isNone&&bR cap 0 && !(bR 0 0)) || !(dD 0 cap)) none (some (Value.slice (some (cond (bR cap 0) ⟨b,o,none⟩ ⟨b,o+0*1,none⟩)) (h-0) (cap-0)))=_;rw[V6 (aL cap)]
  cases bR cap 0<;>rfl
 unfold U5;dsimp only;rw[Y4,hg];simp only[aN,slB];rw[show N8 (.rom c) o cap 1=some false from rfl];simp only[e,E7]
def D122(H:Y0)(nx:Nat)(a:J90):Prop:=Sl H nx a.TA (a.terms.flatMap U118)
structure V118 (H:Y0) (nx:Nat) (r:V32):Prop where
 atoms:Sl H nx r.AA (r.atoms.flatMap Q115)
 terms:∀ a ∈ r.atoms,D122 H nx a
 conds:Sl H nx r.CA (r.conds.flatMap Y127)
structure D66 (H:Y0) (nx:Nat) (q:M13):Prop where
 head:Sl H nx q.HA (N0 q.head)
 headH:V9 H nx q.HA
 hcap:q.head.length<=q.hc
 hnil:q.HA=none->q.hc=0
 rules:Sl H nx q.RA (q.rules.flatMap K111)
 rule:∀ r ∈ q.rules,V118 H nx r
 order:Sl H nx q.OA (q.order.flatMap D19)
 orderH:U9 H nx q.OA
theorem D122.ext{H:Y0}{nx:Nat}{a:J90}{H':Y0}{nx':Nat}(h:D122 H nx a)(e:D0 H nx H' nx'):D122 H' nx' a:=Sl.ext h e
theorem V118.ext{H:Y0}{nx:Nat}{r:V32}{H':Y0}{nx':Nat}(h:V118 H nx r)(e:D0 H nx H' nx'):V118 H' nx' r:=⟨h.atoms.ext e,fun a ha=>(h.terms a ha).ext e,h.conds.ext e⟩
theorem D66.ext{H:Y0}{nx:Nat}{q:M13}{H':Y0}{nx':Nat}(h:D66 H nx q)(e:D0 H nx H' nx'):D66 H' nx' q:=⟨h.head.ext e,h.headH.ext e,h.hcap,h.hnil,h.rules.ext e,fun r hr=>(h.rule r hr).ext e,h.order.ext e,h.orderH.ext e⟩
end
def K70:Option (Nat × Bool)->Option (Nat × Bool)->Bool
 | none,none=>true
 | some (a,x),some (b,y)=>bR a b&&(cond x y (!y))
 | _,_=>false
def W71:Option (Nat × Bool)->Option Nat->Bool
 | some (a,_),some b=>bR a b
 | _,_=>false
def K63(g:Option (Nat × Bool))(B:List S):List S->List G
 | []=>[(g,B.reverse)]
 | s :: l=>cond (K70 g s.guard && !(W71 g s.dst)) (K63 g (⟨none,s.dst,s.i⟩ :: B) l) ((g,B.reverse) :: K63 s.guard [⟨none,s.dst,s.i⟩] l)
def grp:List S->List G
 | []=>[]
 | s :: l=>K63 s.guard [⟨none,s.dst,s.i⟩] l
def G61(x:Nat):List Nat->Bool
 | []=>false
 | y :: l=>bR x y || G61 x l
def W52(ws:List Nat):List Nat->List Nat->List Nat
 | acc,[]=>acc
 | acc,x :: l=>cond (G61 x ws || G61 x acc) (W52 ws acc l) (W52 ws (x :: acc) l)
def V12{β:Type}:C->Nat->List (Nat × List Nat)->List (List Nat)->List HT->(D->Nat->List (Nat × List Nat)->List (List Nat)->List HT->β)->β
 | .skip,n,js,ls,hs,k=>k .skip n js ls hs
 | .ops l,n,js,ls,hs,k=>match grp l with
  | []=>k (.ops [] .nil) n js ls hs
  | [(none,m)]=>k (.ops [(none,m)] (.one .nil)) n js ls hs
  | gs=>match hs with
   | h :: hs=>k (.ops gs h) n js ls hs
   | []=>k (.ops gs .nil) n js ls hs
 | .draw ms l,n,js,ls,hs,k=>match grp l with
  | []=>k (.draw ms [] .nil) n js ls hs
  | [(none,m)]=>k (.draw ms [(none,m)] (.one .nil)) n js ls hs
  | gs=>match hs with
   | h :: hs=>k (.draw ms gs h) n js ls hs
   | []=>k (.draw ms gs .nil) n js ls hs
 | .seq a b,n,js,ls,hs,k=>match js with
  | []=>V12 a (n+1) [] ls hs fun a n js ls hs=>V12 b n js ls hs fun b n js ls hs=>k (.seq a b) n js ls hs
  | (i,ws) :: r=>cond (bR i n)
    (V12 a (n+1) r ls hs fun a n js ls hs=>V12 b n js ls hs fun b n js ls hs=>k (.join ws (W52 ws [] a.writes) a b) n js ls hs)
    (V12 a (n+1) js ls hs fun a n js ls hs=>V12 b n js ls hs fun b n js ls hs=>k (.seq a b) n js ls hs)
 | .cond x t e,n,js,ls,hs,k=>V12 t n js ls hs fun t n js ls hs=>V12 e n js ls hs fun e n js ls hs=>k (.cond x t e) n js ls hs
 | .block id c,n,js,ls,hs,k=>V12 c n js ls hs fun c n js ls hs=>k (.block id c) n js ls hs
 | .loop c,n,js,ls,hs,k=>match ls with
  | ws :: ls=>V12 c n js ls hs fun c n js ls hs=>k (.loop ws (W52 ws [] c.writes) c) n js ls hs
  | []=>V12 c n js [] hs fun c n js ls hs=>k (.loop [] c.writes c) n js ls hs
 | .exit id,n,js,ls,hs,k=>k (.exit id) n js ls hs
 | .ret,n,js,ls,hs,k=>k .ret n js ls hs
def X5(P:Program)(f:FuncId)(js:List (Nat × List Nat))(ls:List (List Nat))(hs:List HT):D:=match cfn P f with
 | some c=>V12 c.body 0 js ls hs fun d _ _ _ _=>d
 | none => .skip
def cN(P:Program)(f:FuncId):Nat:=match cfn P f with
 | some c=>c.n
 | none=>0
def cR(P:Program)(f:FuncId):List (X × Option (Option Nat)):=match cfn P f with
 | some c=>c.res
 | none=>[]
theorem D114{P:Program}(hm:P.follows .mixedOrders=true)(E:J18 P){f:FuncId}{args:List Value}{H:Y0}{nx:Nat}{Q:Value->Y0->Nat->Prop}{F:Prop}{js:List (Nat × List Nat)}{ls:List (List Nat)}{hs:List HT}(hc:cfn P f=some ⟨cN P f,iG (cN P f)+1,(X5 P f js ls hs).erase,cR P f⟩)(B:(X5 P f js ls hs).ok (cN P f) (iG (cN P f)+1)=true)(hl:dD args.length (cN P f)=true)(he:X55 P (cN P f) (iG (cN P f)+1) (X5 P f js ls hs) (cR P f) args H nx Q=F)(h:F):Q2 P f args H nx Q:=
 X44 hm E hc B (Nat.le_of_ble_eq_true hl) (he.symm ▸ h)
def K7(v:Value)(o:Nat)(H:Y0)(k:Value->VP):Prop:=B4 v o fun a=>J1 a none H (k a)
theorem N111(v:Value)(o:Nat)(H:Y0)(k:Value->VP):K7 v o H k=B4 v o fun a=>J1 a none H (k a):=rfl
def C81(v:Value)(o s:Nat)(H:Y0)(k:Value->VP):Prop:=B4 v o fun a=>J1 a (some s) H (k a)
theorem J109(v:Value)(o s:Nat)(H:Y0)(k:Value->VP):C81 v o s H k=B4 v o fun a=>J1 a (some s) H (k a):=rfl
def U6(v i:Value)(H:Y0)(k:Value->VP):Prop:=M3 v i none 1 fun a=>J1 a none H (k a)
theorem C112(v i:Value)(H:Y0)(k:Value->VP):U6 v i H k=M3 v i none 1 fun a=>J1 a none H (k a):=rfl
def B15(v i:Value)(s:Nat)(H:Y0)(k:Value->VP):Prop:=M3 v i none s fun a=>J1 a (some s) H (k a)
theorem D111(v i:Value)(s:Nat)(H:Y0)(k:Value->VP):B15 v i s H k=M3 v i none s fun a=>J1 a (some s) H (k a):=rfl
def M12(v:Value)(H:Y0)(nx:Nat)(k:EP):Prop:=E5 v fun c=>J3 (.cells c 0) .ptr H nx k
theorem C111(v:Value)(H:Y0)(nx:Nat)(k:EP):M12 v H nx k=E5 v fun c=>J3 (.cells c 0) .ptr H nx k:=rfl
def D24(n s:Nat)(z:List Value)(vs:List (Nat × Value))(H:Y0)(nx:Nat)(k:EP):Prop:=K6 n s z vs fun c=>J3 (.cells c 0) (.slice n n) H nx k
theorem B111(n s:Nat)(z:List Value)(vs:List (Nat × Value))(H:Y0)(nx:Nat)(k:EP):D24 n s z vs H nx k=K6 n s z vs fun c=>J3 (.cells c 0) (.slice n n) H nx k:=rfl
def G29(a b:Value)(z:List Value)(H:Y0)(nx:Nat)(k:EP):Prop:=D30 a b z fun c l m=>J3 (.cells c 0) (.slice l m) H nx k
theorem G111(a b:Value)(z:List Value)(H:Y0)(nx:Nat)(k:EP):G29 a b z H nx k=D30 a b z fun c l m=>J3 (.cells c 0) (.slice l m) H nx k:=rfl
def Q4(z:List Value)(H:Y0)(nx:Nat)(k:EP):Prop:=J3 (.cells z 0) .ptr H nx k
theorem R111(z:List Value)(H:Y0)(nx:Nat)(k:EP):Q4 z H nx k=J3 (.cells z 0) .ptr H nx k:=rfl
def Rt(v:Value)(H:Y0)(nx:Nat)(k:EP):Prop:=M0 v fun u=>k u H nx
theorem J80(v:Value)(H:Y0)(nx:Nat)(k:EP):Rt v H nx k=M0 v fun u=>k u H nx:=rfl
def cE(t:Value)(m:Option Nat)(H:Y0)(v:Value):Prop:=J1 t m H fun q=>q=v
theorem Z113(t:Value)(m:Option Nat)(H:Y0)(v:Value):cE t m H v=J1 t m H fun q=>q=v:=rfl
def z32:List Value:=[.int .u32 0,.int .u32 0,.int .u32 0,.int .u32 0,.int .u32 0,.int .u32 0,.int .u32 0,.int .u32 0,.int .u32 0,.int .u32 0,.int .u32 0,.int .u32 0,.int .u32 0,.int .u32 0,.int .u32 0,.int .u32 0,.int .u32 0,.int .u32 0,.int .u32 0,.int .u32 0,.int .u32 0,.int .u32 0,.int .u32 0,.int .u32 0,.int .u32 0,.int .u32 0,.int .u32 0,.int .u32 0,.int .u32 0,.int .u32 0,.int .u32 0,.int .u32 0]
theorem R112:z32=([O9 0,O9 0,O9 0,O9 0,O9 0,O9 0,O9 0,O9 0,O9 0,O9 0,O9 0,O9 0,O9 0,O9 0,O9 0,O9 0,O9 0,O9 0,O9 0,O9 0,O9 0,O9 0,O9 0,O9 0,O9 0,O9 0,O9 0,O9 0,O9 0,O9 0,O9 0,O9 0]:List Value):=rfl
def zR:List Value:=[.bool false,.slice none 0 0,.slice none 0 0]
theorem D113:zR=([.bool false,O6,O6]:List Value):=rfl
def i0:Value := .int .i64 0
theorem G114:i0=(O8 0:Value):=rfl
def i1:Value := .int .i64 1
theorem U114:i1=(O8 1:Value):=rfl
def u0:Value := .int .u32 0
theorem N113:u0=(O9 0:Value):=rfl
def u1:Value := .int .u32 1
theorem W114:u1=(O9 1:Value):=rfl
def bT:Value := .bool true
theorem X113:bT=(.bool true:Value):=rfl
def bF:Value := .bool false
theorem B114:bF=(.bool false:Value):=rfl
def _root_.List.a(l:List Value):Value:=l.getD 0 undef
theorem E113(l:List Value):l.a=l.getD 0 undef:=rfl
def _root_.List.b(l:List Value):Value:=l.getD 1 undef
theorem Q114(l:List Value):l.b=l.getD 1 undef:=rfl
def _root_.List.c(l:List Value):Value:=l.getD 2 undef
theorem N112(l:List Value):l.c=l.getD 2 undef:=rfl
def _root_.List.d(l:List Value):Value:=l.getD 3 undef
theorem M113(l:List Value):l.d=l.getD 3 undef:=rfl
def _root_.List.e(l:List Value):Value:=l.getD 4 undef
theorem C113(l:List Value):l.e=l.getD 4 undef:=rfl
def _root_.List.f(l:List Value):Value:=l.getD 5 undef
theorem E114(l:List Value):l.f=l.getD 5 undef:=rfl
def tA(x:Prop):Prop:=True/\x
theorem R113(x:Prop):tA x=(True/\x):=rfl
def tB(x:Prop):Prop:=x/\True
theorem V113(x:Prop):tB x=(x/\True):=rfl
def wK(a b:Prop):Prop:=(a/\b)\/False
theorem X114(a b:Prop):wK a b=((a/\b)\/False):=rfl
theorem W1:(type_of% @N111)/\(type_of% @J109)/\(type_of% @C112)/\(type_of% @D111)/\(type_of% @C111)/\(type_of% @B111)/\(type_of% @G111)/\(type_of% @R111)/\(type_of% @J80)/\(type_of% @Z113)/\(type_of% @R112)/\(type_of% @D113)/\(type_of% @G114)/\(type_of% @U114)/\(type_of% @N113)/\(type_of% @W114)/\(type_of% @X113)/\(type_of% @B114)/\(type_of% @E113)/\(type_of% @Q114)/\(type_of% @N112)/\(type_of% @M113)/\(type_of% @C113)/\(type_of% @E114)/\(type_of% @R113)/\(type_of% @V113)/\(type_of% @X114):=⟨@N111,@J109,@C112,@D111,@C111,@B111,@G111,@R111,@J80,@Z113,@R112,@D113,@G114,@U114,@N113,@W114,@X113,@B114,@E113,@Q114,@N112,@M113,@C113,@E114,@R113,@V113,@X114⟩
theorem W0:(type_of% @W1)/\(type_of% @fZ.{0})/\(type_of% @gD.{0})/\(type_of% @E45)/\(type_of% @Q43)/\(type_of% @G48)/\(type_of% @M42)/\(type_of% @V44)/\(type_of% @Z47)/\(type_of% @C46)/\(type_of% @M29)/\(type_of% @Z27)/\(type_of% @Y35)/\(type_of% @X29)/\(type_of% @Z50)/\(type_of% @G51)/\(type_of% @M50)/\(type_of% @W38)/\(type_of% @K40)/\(type_of% @J35)/\(type_of% @R28)/\(type_of% @Q37)/\(type_of% @W59)/\(type_of% @Y31)/\(type_of% @D45)/\(type_of% @N35)/\(type_of% @Y30)/\(type_of% @W41)/\(type_of% @Q45)/\(type_of% @W44)/\(type_of% @J48)/\(type_of% @V65)/\(type_of% @G65)/\(type_of% @X57)/\(type_of% @Y40)/\(type_of% @Y50)/\(type_of% @Q40)/\(type_of% @Z11)/\(type_of% @Z1)/\(type_of% @Y5)/\(type_of% @G1)/\(type_of% @G4)/\(type_of% @aN.{1,0})/\(type_of% @List.getElem?_cons_zero.{0})/\(type_of% @dK.{0})/\(type_of% @decide_true)/\(type_of% @decide_false)/\(type_of% @if_true.{1})/\(type_of% @if_false.{1})/\(type_of% @dQ)/\(type_of% @cF)/\(type_of% @eM)/\(type_of% @and_true)/\(type_of% @true_and)/\(type_of% @or_false)/\(type_of% @Bool.not_true)/\(type_of% @Bool.not_false)/\(type_of% @and_self)/\(type_of% @N32)/\(type_of% @N33)/\(type_of% @U33)/\(type_of% @K32)/\(type_of% @W47)/\(type_of% @gR)/\(type_of% @eQ)/\(type_of% @Nat.zero_mul)/\(type_of% @C49)/\(type_of% @D50)/\(type_of% @M47)/\(type_of% @R32)/\(type_of% @Z41)/\(type_of% @U51)/\(type_of% @C50)/\(type_of% @G47)/\(type_of% @U20)/\(type_of% @C36)/\(type_of% @V31)/\(type_of% @B44)/\(type_of% @V38)/\(type_of% @V15)/\(type_of% @R40)/\(type_of% @R39)/\(type_of% @V17)/\(type_of% @D39)/\(type_of% @D17)/\(type_of% @M35)/\(type_of% @E28)/\(type_of% @J28)/\(type_of% @cV.{0})/\(type_of% @bE.{0})/\(type_of% @aD)/\(type_of% @Int.toNat_zero)/\(type_of% @Int.toNat_one):=
 ⟨@W1,@fZ.{0},@gD.{0},@E45,@Q43,@G48,@M42,@V44,@Z47,@C46,@M29,@Z27,@Y35,@X29,@Z50,@G51,@M50,@W38,@K40,@J35,@R28,@Q37,@W59,@Y31,@D45,@N35,@Y30,@W41,@Q45,@W44,@J48,@V65,@G65,@X57,@Y40,@Y50,@Q40,@Z11,@Z1,@Y5,@G1,@G4,@aN.{1,0},@List.getElem?_cons_zero.{0},@dK.{0},@decide_true,@decide_false,@if_true.{1},@if_false.{1},@dQ,@cF,@eM,@and_true,@true_and,@or_false,@Bool.not_true,@Bool.not_false,@and_self,@N32,@N33,@U33,@K32,@W47,@gR,@eQ,@Nat.zero_mul,@C49,@D50,@M47,@R32,@Z41,@U51,@C50,@G47,@U20,@C36,@V31,@B44,@V38,@V15,@R40,@R39,@V17,@D39,@D17,@M35,@E28,@J28,@cV.{0},@bE.{0},@aD,@Int.toNat_zero,@Int.toNat_one⟩
end Go.Clo
namespace Go.Proofs.YthbdeaeghipliaaGreatDoor
open Go.Clo
theorem mixed:gQ.follows .mixedOrders=true:=by kernel_rfl
theorem D63 : (Tryz.prog.funcs.toList.all fun f => !(f.name == "runtime.NumGoroutine")) = true := by kernel_rfl
theorem J2:J18 gQ:=by
 intro f fn hf;have h1:=iE.1 D63 fn (aH (by simpa using hf))
 cases hx : (fn.name == "runtime.NumGoroutine") with
 | false=>rfl
 | true=>rw[hx] at h1;cases h1
theorem Q12{f:FuncId}{args:List Value}{H:Y0}{nx:Nat}{Q:Value->Y0->Nat->Prop}{F:Prop}(js:List (Nat × List Nat))(ls:List (List Nat))(hs:List HT)(hc:cfn gQ f=some ⟨cN gQ f,iG (cN gQ f)+1,(X5 gQ f js ls hs).erase,cR gQ f⟩:=by kernel_rfl)(B:(X5 gQ f js ls hs).ok (cN gQ f) (iG (cN gQ f)+1)=true:=by kernel_rfl)(hl:dD args.length (cN gQ f)=true:=by kernel_rfl)(he:X55 gQ (cN gQ f) (iG (cN gQ f)+1) (X5 gQ f js ls hs) (cR gQ f) args H nx Q=F:=by kernel_rfl)(h:F):Q2 gQ f args H nx Q:=
 D114 mixed J2 hc B hl he h
section
variable (a0 a1:Value) (H:Y0) (nx:Nat) (k:EP)
def F129:Prop:=
 D10 .geq a0 (.int .u8 65) fun b=>
 C1 true b (
 D10 .leq a0 (.int .u8 90) fun b=>
 C1 false b (
 D10 .geq a0 (.int .u8 97) fun b=>
 C1 true b (
 D10 .leq a0 (.int .u8 122) fun b=>
 Rt b H nx k) (
 Rt bF H nx k)) (
 Rt bT H nx k)) (
 D10 .geq a0 (.int .u8 97) fun b=>
 C1 true b (
 D10 .leq a0 (.int .u8 122) fun b=>
 Rt b H nx k) (
 Rt bF H nx k))
def F107:Prop:=
 V4 (fun b=>
 R4 a0 1 H fun c=>
 D10 .lss c i1 fun c=>
 C1 false c (
 R4 a0 1 H fun c=>
 D10 .gtr c (.int .i64 16) fun c=>
 C1 false c (
 D9 .sidx [a0,i0] fun c=>
 Y2 gQ 129 [c] H nx fun c d e=>
 C5 .not c fun c=>
 b [c] d e) (
 b [bT] H nx)) (
 b [bT] H nx)) (fun b c d=>
 B0 b.a (
 Rt bF c d k) (
 G3 (fun b c d e=>
 R4 a0 1 d fun f=>
 D10 .lss c.a f fun f=>
 B0 f (
 V4 (fun b=>
 D9 .sidx [a0,c.a] fun f=>
 Y2 gQ 129 [f] d e fun d e f=>
 C5 .not d fun d=>
 C1 true d (
 D9 .sidx [a0,c.a] fun d=>
 D10 .geq d (.int .u8 48) fun d=>
 C1 true d (
 D9 .sidx [a0,c.a] fun d=>
 D10 .leq d (.int .u8 57) fun d=>
 C5 .not d fun d=>
 C1 true d (
 D9 .sidx [a0,c.a] fun c=>
 D10 .neq c (.int .u8 95) fun c=>
 b [c] e f) (
 b [bF] e f)) (
 C5 .not bF fun d=>
 C1 true d (
 D9 .sidx [a0,c.a] fun c=>
 D10 .neq c (.int .u8 95) fun c=>
 b [c] e f) (
 b [bF] e f))) (
 b [bF] e f)) (fun d e f=>
 B0 d.a (
 Rt bF e f k) (
 D10 .add c.a i1 fun c=>
 b [c] e f))) (
 Rt bT d e k)) [i1] c d))
def F78:Prop:=
 R4 a0 1 H fun b=>
 V4 (fun c=>
 V4 (fun c=>
 D10 .gtr b (.int .i64 2) fun d=>
 C1 true d (
 D10 .sub b (.int .i64 2) fun d=>
 D9 .sidx [a0,d] fun d=>
 D10 .eql d (.int .u8 46) fun d=>
 C1 true d (
 D10 .sub b i1 fun d=>
 D9 .sidx [a0,d] fun d=>
 D10 .geq d (.int .u8 49) fun d=>
 C1 true d (
 D10 .sub b i1 fun b=>
 D9 .sidx [a0,b] fun b=>
 D10 .leq b (.int .u8 51) fun b=>
 c [b] H nx) (
 c [bF] H nx)) (
 c [bF] H nx)) (
 c [bF] H nx)) (fun d e f=>
 B0 d.a (
 D10 .sub b (.int .i64 2) fun b=>
 D9 (.ssl false true) [a0,b] fun b=>
 c [b] e f) (
 c [a0] e f))) (fun b c d=>
 Y2 gQ 107 [b.a] c d fun b c d=>
 Rt b c d k)
def F93:Prop:=
 V4 (fun b=>
 D10 .eql a0 (.string ⟨#[]⟩) fun c=>
 C1 false c (
 R4 a0 1 H fun c=>
 D10 .gtr c (.int .i64 16) fun c=>
 b [c] H nx) (
 b [bT] H nx)) (fun b c d=>
 B0 b.a (
 Rt bF c d k) (
 R4 a0 1 c fun b=>
 G3 (fun c d e f=>
 D10 .lss d.a b fun b=>
 B0 b (
 D9 .sidx [a0,d.a] fun b=>
 V4 (fun c=>
 D10 .geq b (.int .u8 97) fun d=>
 C1 true d (
 D10 .leq b (.int .u8 122) fun d=>
 C1 false d (
 D10 .geq b (.int .u8 65) fun d=>
 C1 true d (
 D10 .leq b (.int .u8 90) fun b=>
 c [b] e f) (
 c [bF] e f)) (
 c [bT] e f)) (
 D10 .geq b (.int .u8 65) fun d=>
 C1 true d (
 D10 .leq b (.int .u8 90) fun b=>
 c [b] e f) (
 c [bF] e f))) (fun e f g=>
 V4 (fun c=>
 C5 .not e.a fun e=>
 C1 true e (
 D10 .eql d.a i0 fun d=>
 C1 false d (
 D10 .neq b (.int .u8 95) fun d=>
 C1 true d (
 D10 .lss b (.int .u8 48) fun d=>
 C1 false d (
 D10 .gtr b (.int .u8 57) fun b=>
 c [b] f g) (
 c [bT] f g)) (
 c [bF] f g)) (
 c [bT] f g)) (
 c [bF] f g)) (fun b e f=>
 B0 b.a (
 Rt bF e f k) (
 D10 .add d.a i1 fun b=>
 c [b] e f)))) (
 Rt bT e f k)) [i0] c d))
def F64:Prop:=
 V4 (fun b=>
 R4 a0 1 H fun c=>
 D10 .sub c (.int .i64 2) fun c=>
 V4 (fun b=>
 D10 .gtr c i0 fun d=>
 C1 true d (
 D9 .sidx [a0,c] fun d=>
 D10 .eql d (.int .u8 46) fun d=>
 C1 true d (
 D10 .add c i1 fun d=>
 D9 .sidx [a0,d] fun d=>
 D10 .leq (.int .u8 49) d fun d=>
 C1 true d (
 D10 .add c i1 fun c=>
 D9 .sidx [a0,c] fun c=>
 D10 .leq c (.int .u8 51) fun c=>
 b [c] H nx) (
 b [bF] H nx)) (
 b [bF] H nx)) (
 b [bF] H nx)) (fun d e f=>
 B0 d.a (
 D9 (.ssl false true) [a0,c] fun c=>
 b [c] e f) (
 b [a0] e f))) (fun b c d=>
 Y2 gQ 93 [b.a] c d fun b c d=>
 Rt b c d k)
def F63:Prop:=
 Y2 gQ 64 [a0] H nx fun b c d=>
 C5 .not b fun b=>
 Rt b c d k
def F92:Prop:=
 R4 a0 0 H fun b=>
 G3 (fun c d e f=>
 D10 .lss d.a b fun b=>
 B0 b (
 U6 a0 d.a e fun _ b=>
 M33 gQ a1 [b] e f fun b e f=>
 B0 b (
 Rt d.a e f k) (
 D10 .add d.a i1 fun b=>
 c [b] e f)) (
 Rt (.int .i64 (-1)) e f k)) [i0] H nx
def F62:Prop:=
 Y2 gQ 92 [a0,a1] H nx fun b c d=>
 D10 .geq b i0 fun b=>
 Rt b c d k
def F6:Prop:=
 M12 a1 H nx fun b c d=>
 R4 a0 0 c fun e=>
 G3 (fun c d f g=>
 D10 .lss d.a e fun e=>
 B0 e (
 U6 a0 d.a f fun _ b=>
 R4 b 1 f fun b=>
 D10 .gtr b (.int .i64 60) fun b=>
 B0 b (
 Rt bT f g k) (
 D10 .add d.a i1 fun b=>
 c [b] f g)) (
 R4 a0 0 f fun c=>
 D10 .gtr c (.int .i64 20) fun c=>
 C1 false c (
 K7 b 1 f fun _ c=>
 R4 c 0 f fun c=>
 K7 b 2 f fun _ b=>
 R4 b 0 f fun b=>
 D10 .add c b fun b=>
 D10 .gtr b (.int .i64 40) fun b=>
 Rt b f g k) (
 Rt bT f g k))) [i0] c d
def F23:Prop:=
 M12 a0 H nx fun b c d=>
 K7 b 0 c fun _ e=>
 D10 .eql e i0 fun e=>
 B0 e (
 K7 b 1 c fun _ b=>
 Rt b c d k) (
 K7 b 2 c fun _ b=>
 Rt b c d k)
def F35:Prop:=
 D24 4 1 [.string ⟨#[]⟩] [(0,(.string ⟨#[97,99,99,101,112,116,101,100]⟩)),(1,(.string ⟨#[99,121,99,108,105,99]⟩)),(2,(.string ⟨#[112,97,116,104]⟩)),(3,(.string ⟨#[116,114,105,111]⟩))] H nx fun b c d=>
 Rt b c d k
def F50:Prop:=
 D24 4 1 [.string ⟨#[]⟩] [(0,(.string ⟨#[97,99,99,101,112,116,101,100]⟩)),(1,(.string ⟨#[99,121,99,108,105,99]⟩)),(2,(.string ⟨#[112,97,116,104]⟩)),(3,(.string ⟨#[116,114,105,111]⟩))] H nx fun b c d=>
 Rt b c d k
def F66:Prop:=
 M12 a0 H nx fun b c d=>
 Rt (.func (.func 96) ⟨[]⟩ ⟨[b]⟩) c d k
def F67:Prop:=
 R4 a0 0 H fun b=>
 D10 .lss b (.int .i64 2) fun b=>
 B0 b (
 Rt a0 H nx k) (
 G3 (fun b c d e=>
 R4 a0 0 d fun f=>
 D10 .lss c.a f fun f=>
 B0 f (
 M2 (e+10) fun e=>
 U6 a0 c.a d fun f g=>
 D10 .sub c.a i1 fun h=>
 U6 a0 h d fun h i=>
 D10 .eql g i fun j=>
 wK ((tB (cE h none d i))/\(tB (tB (cE f none d g)))) (
 B0 j (
 U5 a0 1 (some c.a) none none d fun b=>
 G3 (fun c d e f=>
 R4 b 0 e fun g=>
 D10 .lss d.b g fun g=>
 B0 g (
 V4 (fun c=>
 M2 (f+10) fun f=>
 U6 b d.b e fun g h=>
 D10 .sub d.b i1 fun i=>
 U6 b i e fun i j=>
 D10 .neq h j fun l=>
 wK ((tB (cE i none e j))/\(tB (tB (cE g none e h)))) (
 B0 l (
 U6 b d.b e fun _ b=>
 M3 a0 d.a none 1 fun g=>
 D5 g b 1 e fun b=>
 D10 .add d.a i1 fun d=>
 c [d] b f) (
 c [d.a] e f))) (fun b e f=>
 D10 .add d.b i1 fun d=>
 c [b.a,d] e f)) (
 U5 a0 1 (some d.a) none none e fun b=>
 G139 b [.string ⟨#[]⟩] e fun b=>
 U5 a0 1 none (some d.a) none b fun c=>
 Rt c b f k)) [c.a,i1] d e) (
 D10 .add c.a i1 fun c=>
 b [c] d e))) (
 Rt a0 d e k)) [i1] H nx)
variable {a0 a1 H nx k}
theorem spec129:F129 a0 H nx k->Q2 gQ 129 [a0] H nx k:=Q12 [] [] [.one (.tst (.one (.tst (.tst (.one (.one .nil)) (.one (.one .nil))) (.one (.one (.one .nil))))) (.one (.one (.tst (.one (.one .nil)) (.one (.one .nil))))))]
theorem spec107:F107 a0 H nx k->Q2 gQ 107 [a0] H nx k:=Q12 [(2,[17]),(9,[47])] [[3]] [.one (.tst (.one (.tst (.one .nil) (.one .nil))) (.one (.one (.one .nil)))),.one (.tst (.tst (.one (.one (.tst (.one .nil) (.one .nil)))) (.one (.one (.tst (.one .nil) (.one .nil))))) (.one (.one (.one (.one (.one .nil))))))]
theorem spec78:F78 a0 H nx k->Q2 gQ 78 [a0] H nx k:=Q12 [(2,[0]),(3,[28])] [] [.one (.tst (.one (.tst (.one (.tst (.one .nil) (.one .nil))) (.one (.one (.one .nil))))) (.one (.one (.one (.one (.one .nil))))))]
theorem spec93:F93 a0 H nx k->Q2 gQ 93 [a0] H nx k:=Q12 [(2,[12]),(11,[5]),(12,[52])] [[15]] [.one (.tst (.one .nil) (.one .nil)),.one (.tst (.one (.tst (.tst (.one (.one .nil)) (.one (.one .nil))) (.one (.one (.one .nil))))) (.one (.one (.tst (.one (.one .nil)) (.one (.one .nil)))))),.one (.tst (.tst (.tst (.tst (.one (.one (.one (.one .nil)))) (.one (.one (.one (.one .nil))))) (.one (.one (.one (.one (.one .nil)))))) (.one (.one (.one (.one (.one (.one .nil))))))) (.one (.one (.one (.one (.one (.one (.one .nil))))))))]
theorem spec64:F64 a0 H nx k->Q2 gQ 64 [a0] H nx k:=Q12 [(1,[0]),(3,[28])] [] [.one (.tst (.one (.tst (.one (.tst (.one .nil) (.one .nil))) (.one (.one (.one .nil))))) (.one (.one (.one (.one (.one .nil))))))]
theorem spec63:F63 a0 H nx k->Q2 gQ 63 [a0] H nx k:=Q12 [] [] []
theorem spec92:F92 a0 a1 H nx k->Q2 gQ 92 [a0,a1] H nx k:=Q12 [] [[8]] []
theorem spec62:F62 a0 a1 H nx k->Q2 gQ 62 [a0,a1] H nx k:=Q12 [] [] []
theorem spec6:F6 a0 a1 H nx k->Q2 gQ 6 [a0,a1] H nx k:=Q12 [] [[9]] [.one (.tst (.one .nil) (.one .nil))]
theorem spec23:F23 a0 H nx k->Q2 gQ 23 [a0] H nx k:=Q12 [] [] []
theorem spec35:F35 H nx k->Q2 gQ 35 [] H nx k:=Q12 [] [] []
theorem spec50:F50 H nx k->Q2 gQ 50 [] H nx k:=Q12 [] [] []
theorem spec66:F66 a0 H nx k->Q2 gQ 66 [a0] H nx k:=Q12 [] [] []
theorem spec67:F67 a0 H nx k->Q2 gQ 67 [a0] H nx k:=Q12 [(15,[3])] [[3],[3,5]] []
end
section
open Go.RowKit Go.Shelf
variable {α:Type}
attribute [local go_sem] Oper.semAt_some
def R7(f:Nat->α)(k:Nat):List α:=(aY k).map f
theorem C132(f:Nat->α)(k:Nat):R7 f (k+1)=R7 f k++[f k]:=by simp[R7,List.range_succ]
theorem W137(f:Nat->α)(k:Nat):(R7 f k).length=k:=by simp[R7]
theorem J144(zs:List ByteArray):R7 (fun j=>zs[j]?.getD ⟨#[]⟩) zs.length=zs:=by
 apply List.ext_getElem
 .simp[R7]
 .intro i h1 h2
  simp[R7,h2]
theorem K140(zs:List ByteArray){k:Nat}(hk:k<=zs.length):R7 (fun j=>zs[j]?.getD ⟨#[]⟩) k=zs.take k:=by
 apply List.ext_getElem
 .simp[R7,hk]
 .intro i h1 h2
  have:i<zs.length:=by simp[R7] at h1;omega
  simp[R7,this]
theorem B139(F:Fence)(n:Nat)(h7:F.fn 96)(V:F.round=none)(hn:1<=n)(l Bs Bo n₀ b off len cap:Nat)(zs:List ByteArray)(O:len*16<=140737488351232)(hb:b<n₀)(J Jx:List ByteArray->World->Prop)(hY:∀ pre x W,J pre W->pre.length<len->YieldAt F (n-1) gQ l #[.string x] W fun e W'=>
   (e = .returned (.bool true)/\J (pre++[x]) W'/\Below n₀ W W')\/(e = .returned (.bool false)/\Jx (pre++[x]) W'))(W:World)(a0:W.cell? ⟨Bs,Bo,none⟩=some (.slice (some ⟨b,off,none⟩) len cap))(hc:∀ j,j<len->W.cell? ⟨b,off+j,none⟩=some (.string (zs[j]?.getD ⟨#[]⟩)))(h0:J [] W):
  CallsIn F n gQ 96 #[.func (.yield l) #[] #[],.pointer (some ⟨Bs,Bo,none⟩)] W fun e W'=>(∃ v,e = .returned v) /\
   ((∃ ys,ys=R7 (fun j=>zs[j]?.getD ⟨#[]⟩) len/\J ys W')\/(∃ pre,(∃ k,k<=len/\pre=R7 (fun j=>zs[j]?.getD ⟨#[]⟩) k)/\Jx pre W')):=by
 refine callsIn_of_wp Tryz.func96 rfl h7 ?_ V;simp only[Tryz.ntmps96,List.size_toArray,cV,bE,Nat.reduceAdd,Nat.reduceSub,gS,gW,List.push_toArray,hJ,eR,dL]
 gi_wp2
 gi_loopw [7] (fun i wr=>∃ k:Nat,k<=len/\i = .int .i64 k/\J (R7 (fun j=>zs[j]?.getD ⟨#[]⟩) k) wr/\Below n₀ W wr)
  (fun i _=>len-(intOf i).toNat)
 case atStart=>exact⟨0,aL _,rfl,h0,Below.refl _ _⟩
 case round=>
  obtain⟨k,hk,rfl,M,L⟩:=hrel;have Y:k<len->wr.cell? ⟨b,off+k,none⟩=some (.string (zs[k]?.getD ⟨#[]⟩)):=fun h=>(L.cell (p:=⟨b,off+k,none⟩) hb).trans (hc k h)
  by_cases B:k<len
  .obtain⟨fn,tmps,Q,body,hy,hR⟩:=hY _ (zs[k]?.getD ⟨#[]⟩) wr M (by rw[W137];exact B)
   have Z:=Y B
   gi_wp2
   refine hR.mono ?_;rintro e W3 (⟨rfl,R,U⟩ | ⟨rfl,E⟩)
   .gi_wp2
    go_roundw
    case rel=>exact⟨k+1,O0,O2,by rw[C132];exact R,L.trans U⟩
    case measure=>simp[intOf];omega
   .gi_wp2
    refine bodyPost_ret (results_none rfl _ _ _) rfl ?_;exact⟨⟨_,rfl⟩,.inr ⟨_,⟨k+1,O0,(C132 _ _).symm⟩,E⟩⟩
  .obtain rfl:k=len:=O0
   gi_wp2
   go_end0
   exact⟨⟨_,rfl⟩,.inl ⟨_,rfl,M⟩⟩
def D16(n₀:Nat)(W:World)(sv:Value)(zs:List ByteArray):Prop:=
 ((∃ q0,sv = .slice q0 0 0)/\zs=[])\/∃ b off cap,sv = .slice (some ⟨b,off,none⟩) zs.length cap/\b<n₀/\∀ j,j<zs.length->W.cell? ⟨b,off+j,none⟩=some (.string (zs[j]?.getD ⟨#[]⟩))
theorem D16.below{n₀:Nat}{A B:World}(h:Below n₀ A B){sv:Value}{zs:List ByteArray}:D16 n₀ A sv zs->D16 n₀ B sv zs
 | .inl e => .inl e
 | .inr ⟨b,off,cap,e,hb,hc⟩ => .inr ⟨b,off,cap,e,hb,fun j hj=>(h.cell (p:=⟨b,off+j,none⟩) hb).trans (hc j hj)⟩
theorem G132(F:Fence)(n:Nat)(h7:F.fn 96)(B:F.round=none)(l Bs Bo:Nat)(J:List ByteArray->World->Prop)(W:World)(q0:Option Addr)(L:W.cell? ⟨Bs,Bo,none⟩=some (.slice q0 0 0))(h0:J [] W):
  CallsIn F n gQ 96 #[.func (.yield l) #[] #[],.pointer (some ⟨Bs,Bo,none⟩)] W fun e W'=>(∃ v,e = .returned v)/\J [] W':=by
 refine callsIn_of_wp Tryz.func96 rfl h7 ?_ B;simp only[Tryz.ntmps96,List.size_toArray,cV,bE,Nat.reduceAdd,Nat.reduceSub,gS,gW,List.push_toArray,hJ,eR,dL]
 gi_wp2
 gi_loopw [7] (fun i wr=>i = .int .i64 0/\J [] wr) (fun _ _=>0)
 case atStart=>exact⟨rfl,h0⟩
 case round=>
  obtain⟨rfl,E⟩:=hrel
  gi_wp2
  go_end0
  exact⟨⟨_,rfl⟩,E⟩
theorem C135(F:Fence)(n:Nat)(h7:F.fn 96)(E:F.round=none)(hn:1<=n)(Bs Bo n₀:Nat)(sv:Value)(zs:List ByteArray)(B:zs.length*16<=140737488351232)(w:World)(O:Bs<w.heap.size)(M:n₀<=w.heap.size)(hc:w.cell? ⟨Bs,Bo,none⟩=some sv)(hI:D16 n₀ w sv zs):
  SeqStopsK F n gQ 96 #[.pointer (some ⟨Bs,Bo,none⟩)] (fun x:ByteArray => #[aB x]) (Below n₀) (fun ys=>ys=zs) (fun pre=>pre <+: zs) zs.length w:=fun l J Jx W hW _ _ hY h0=>by
 have L:=(hW.cell (p:=⟨Bs,Bo,none⟩) O).trans hc;rcases hI.below (hW.mono M) with ⟨⟨q0,rfl⟩,rfl⟩ | ⟨b,off,cap,rfl,hb,Q⟩
 .exact(G132 F n h7 E l Bs Bo J W q0 L h0).mono fun e W' ⟨he,hj⟩=>⟨he,.inl ⟨_,rfl,hj⟩⟩
 .refine(B139 F n h7 E hn l Bs Bo n₀ b off zs.length cap zs B hb J Jx hY W L Q h0).mono ?_
  rintro e W' ⟨he,⟨ys,rfl,hj⟩ | ⟨pre,⟨k,hk,rfl⟩,hj⟩⟩
  .exact⟨he,.inl ⟨_,J144 zs,hj⟩⟩
  .exact⟨he,.inr ⟨_,by rw[K140 zs hk];exact List.take_prefix _ _,hj⟩⟩
theorem N144:(gQ.info? 9).map (fun i=>(i.zero,i.size,i.bytes))=some (some (.string ⟨#[]⟩),1,16):=by kernel_rfl
theorem J136 (F:Fence) (n:Nat) (h48:F.fn 116) (h40:F.fn 96) (hro:F.round=none) (hn:3<=n) (Bs Bo:Nat) (sv:Value) (zs:List ByteArray) (hlen:zs.length<=1000) (w:World) (hBs:Bs<w.heap.size) (hc:w.cell? ⟨Bs,Bo,none⟩=some sv) (hI:D16 w.heap.size w sv zs):
  CallsIn F n Tryz.prog 116 #[.slice none 0 0,.func (.func 96) #[] #[.pointer (some ⟨Bs,Bo,none⟩)]] w fun e W'=>∃ v,e = .returned v/\W'.ownsRow w.heap.size 9 1 v zs.length (zs.map Value.string)/\(v = .slice none 0 0<->zs=[])/\Below w.heap.size w W':=by
 have h1:1<=n:=by omega
 have hmax:(1000:Nat)<=maxLen:=by decide
 obtain⟨i0,hi,hz0,hz1,hz2⟩:=info_parts N144
 refine callsIn_of_wp_marks Tryz.func116 rfl h48 ?_ hro
 simp only[Tryz.ntmps116,List.size_toArray,List.length_cons,List.length_nil,Nat.reduceAdd,Nat.reduceSub,Array.replicate_succ,Array.replicate_zero,List.push_toArray,List.append_toArray,List.nil_append,List.cons_append]
 gi_wp2
 have bO:=Boxed.new w 22 (.slice none 0 0)
 have hB0:Below w.heap.size w (w.alloc (.cells #[.slice none 0 0] 22)):=(Below.refl _ w).alloc (Nat.le_refl _) _
 refine wpIn_rangeFunc_ownG hro h1 (gf:=96) (lb := #[.pointer (some ⟨Bs,Bo,none⟩)]) rfl h40 (enters_of Tryz.func96 (by kernel_rfl) rfl)
  (C135 F (n-1) h40 hro (by omega) Bs Bo w.heap.size sv zs (by omega) _ (by simp;omega) (by simp) ((hB0.cell (p:=⟨Bs,Bo,none⟩) hBs).trans hc) (hI.below hB0)) belowK_t (belowK_b (by simp)) (Below.refl _ _) (fun _=>rfl)
  (fun pre W=>(∃ v,Boxed W w.heap.size 22 v/\W.ownsRow w.heap.size 9 1 v pre.length (pre.map Value.string)/\(v = .slice none 0 0<->pre=[]))/\Below w.heap.size w W)
  (fun _ _ _=>False)
  (OwnFrom.and (Own.from (holdsRow_own w.heap.size w.heap.size 22 9 1 (fun pre=>pre.length) (fun pre=>pre.map Value.string) (fun pre v=>v = .slice none 0 0<->pre=[])) _) (ownFrom_below (Nat.le_refl _) (by simp)))
  (fun _ _ _ _ _ hs _ _=>hs)
  ⟨⟨_,bO,World.ownsRow_nil _ _ _ _,by simp⟩,hB0⟩
  (fun x=>{ tmps := #[.slice none 0 0,.func (.func 96) #[] #[.pointer (some ⟨Bs,Bo,none⟩)],.pointer (some ⟨w.heap.size,0,none⟩),undef,.slice none 0 0,.string x,.func (.func 96) #[] #[.pointer (some ⟨Bs,Bo,none⟩)],.string x,undef,undef,undef,undef,undef],defers:=[] }) ?assign ?body ?done ?stop
 case assign=>
  intro l x W K hK
  gi_wp2
  exact hK
 case body=>
  rintro l pre x W ⟨⟨v,hv,hrow,hnil⟩,hB⟩ hlt
  have hc:=hv.cell
  gi_wp2_with (gi_at_builtin;refine wpListIn_append_own _ rfl _ _ 22 rfl w.heap.size 9 i0 (.string ⟨#[]⟩) 1 16 Tryz.underlying22 hi hz0 hz1 hz2 rfl (by decide) _ _ _ rfl (hrow.alloc _) ⟨W.heap.size,0,none⟩ 1 1 [.string x] rfl rfl (cell_one_new _ _ _) (by simp[Value.oneCell']) (by omega) (by omega) (by have:=hB.size;simp;omega) ?_;intro v' w1 hown' hgrow _;obtain⟨g',cap',rfl⟩:=ownsRow_succ hown';obtain⟨hv1,hv2,hr2,hk2,hb2⟩:=hv.appended (by decide) hrow hB.size (Nat.le_refl _) hown' hgrow;have hc1:=hv1.cell;have hf1:=hv1.frozen)
  exact⟨hk2.from _,hb2,⟨_,hv2,by simpa using hr2,by simp⟩,hB.trans hb2⟩
 case done=>
  rintro D ys W hD rfl ⟨⟨v,hv,hrow,hnil⟩,hB⟩ hK
  have hc:=hv.cell
  gi_wp2
  refine⟨by simp,.inl ⟨_,_,rfl,run_takeDeferred hK,?_⟩⟩
  exact⟨_,results_tmp rfl _ _ _,v,rfl,ownsRow_putObj hrow _ hK rfl,hnil,hB.trans (belowK_b (w:=w) (Nat.le_refl _) W D _ _ (by simp at hD;omega) hK rfl rfl)⟩
 case stop=>
  rintro D c pre W _ _ h _
  exact h.elim
end
end Go.Proofs.YthbdeaeghipliaaGreatDoor
namespace Go.Proofs
section
open Go.Shelf
def Tryz.lays156_ren:Go.Shelf.Ren:=⟨fun | 156=>48 | 165=>77 | 166=>28 | 169=>31 | 240=>56 | 241=>106 | 276=>87 | 277=>128 | n=>n,fun | 31=>22 | 9=>9 | 3=>3 | 4=>4 | 0=>0 | 20=>20 | 72=>94 | 76=>100 | 70=>92 | 37=>88 | 75=>99 | 127=>132 | 164=>158 | 5=>5 | 80=>104 | n=>n,fun | n=>n⟩
theorem Tryz.lays156:Go.Proofs.Lays.n156 gQ Tryz.lays156_ren:={
 mixed:=by kernel_rfl
 f156:=Tryz.func48.trans (congrArg some (by kernel_rfl))
 f165:=Tryz.func77.trans (congrArg some (by kernel_rfl))
 f166:=Tryz.func28.trans (congrArg some (by kernel_rfl))
 f169:=Tryz.func31.trans (congrArg some (by kernel_rfl))
 f240:=Tryz.func56.trans (congrArg some (by kernel_rfl))
 f241:=Tryz.func106.trans (congrArg some (by kernel_rfl))
 f276:=Tryz.func87.trans (congrArg some (by kernel_rfl))
 f277:=Tryz.func128.trans (congrArg some (by kernel_rfl))
 t0:=Tryz.underlying0
 a0:=Tryz.isAgg0
 z0:=Tryz.sizeOf0
 v0:=Tryz.zeroValue0
 t3:=Tryz.underlying3
 a3:=Tryz.isAgg3
 z3:=Tryz.sizeOf3
 v3:=Tryz.zeroValue3
 t4:=Tryz.underlying4
 a4:=Tryz.isAgg4
 z4:=Tryz.sizeOf4
 v4:=Tryz.zeroValue4
 t9:=Tryz.underlying9
 a9:=Tryz.isAgg9
 z9:=Tryz.sizeOf9
 v9:=Tryz.zeroValue9
 t20:=Tryz.underlying20
 a20:=Tryz.isAgg20
 z20:=Tryz.sizeOf20
 v20:=Tryz.zeroValue20
 t31:=Tryz.underlying22
 a31:=Tryz.isAgg22
 z31:=Tryz.sizeOf22
 v31:=Tryz.zeroValue22
 t37:=Tryz.underlying88
 a37:=Tryz.isAgg88
 z37:=Tryz.sizeOf88
 v37:=Tryz.zeroValue88
 t70:=Tryz.underlying92
 a70:=Tryz.isAgg92
 z70:=Tryz.sizeOf92
 v70:=Tryz.zeroValue92
 t72:=Tryz.underlying94
 a72:=Tryz.isAgg94
 z72:=Tryz.sizeOf94
 v72:=Tryz.zeroValue94
 t75:=Tryz.underlying99
 a75:=Tryz.isAgg99
 z75:=Tryz.sizeOf99
 v75:=Tryz.zeroValue99
 t76:=Tryz.underlying100
 a76:=Tryz.isAgg100
 z76:=Tryz.sizeOf100
 v76:=Tryz.zeroValue100
 t127:=Tryz.underlying132
 a127:=Tryz.isAgg132
 z127:=Tryz.sizeOf132
 v127:=Tryz.zeroValue132
 t164:=Tryz.underlying158
 a164:=Tryz.isAgg158
 z164:=Tryz.sizeOf158
 v164:=Tryz.zeroValue158 }
theorem Tryz.Builder_Extra_156:Builder.Extra gQ Tryz.lays156_ren:={
 sizeBuilder:=by kernel_rfl
 liesBuilder:=by kernel_rfl
 t5:=Tryz.underlying5
 a5:=Tryz.isAgg5
 z5:=Tryz.sizeOf5
 v5:=Tryz.zeroValue5
 infoByte:=by kernel_rfl
 cellsByte:=by kernel_rfl
 sizeByte:=by kernel_rfl
 neB5:=by decide }
open Go.RowKit in
theorem Tryz.strings_Join_none(a:Option Addr)(c:Nat)(sep:ByteArray)(w:World):
  Calls gQ 48 #[.slice a 0 c,.string sep] w fun e w'=>e = .returned (.string ⟨#[]⟩)/\w'=w:=Any.strings_Join_none Tryz.lays156 Tryz.Builder_Extra_156 a c sep w
open Go.RowKit in
theorem Tryz.strings_Join(bk o c:Nat)(xs:List ByteArray)(sep:ByteArray)(w:World)(B:∀(j:Nat) x,xs[j]? = some x->w.cell? ⟨bk,o+j,none⟩=some (.string x))(J:bk<w.heap.size)(hN:xs.length<=140737488355328)(hcap:xs.length<=c)(E:(Lib.join (xs.map (·.data.toList)) sep.data.toList).length<=140737488355328):
  Calls gQ 48 #[.slice (some ⟨bk,o,none⟩) xs.length c,.string sep] w fun e w'=>e = .returned (.string ⟨(Lib.join (xs.map (·.data.toList)) sep.data.toList).toArray⟩)/\Below w.heap.size w w':=Any.strings_Join Tryz.lays156 Tryz.Builder_Extra_156 bk o c xs sep w B J hN hcap E
def Tryz.lays143_ren:Go.Shelf.Ren:=⟨fun | 143=>99 | 219=>122 | 217=>142 | 225=>143 | 224=>144 | 267=>145 | 266=>154 | 314=>155 | n=>n,fun | 9=>9 | 3=>3 | 4=>4 | 5=>5 | 46=>150 | 146=>214 | 51=>27 | n=>n,fun | 1=>1 | n=>n⟩
theorem Tryz.lays143:Go.Proofs.Lays.n143 gQ Tryz.lays143_ren:={
 mixed:=by kernel_rfl
 f143:=Tryz.func99.trans (congrArg some (by kernel_rfl))
 f217:=Tryz.func142.trans (congrArg some (by kernel_rfl))
 f219:=Tryz.func122.trans (congrArg some (by kernel_rfl))
 f224:=Tryz.func144.trans (congrArg some (by kernel_rfl))
 f225:=Tryz.func143.trans (congrArg some (by kernel_rfl))
 f266:=Tryz.func154.trans (congrArg some (by kernel_rfl))
 f267:=Tryz.func145.trans (congrArg some (by kernel_rfl))
 f314:=Tryz.func155.trans (congrArg some (by kernel_rfl))
 t3:=Tryz.underlying3
 a3:=Tryz.isAgg3
 z3:=Tryz.sizeOf3
 v3:=Tryz.zeroValue3
 t4:=Tryz.underlying4
 a4:=Tryz.isAgg4
 z4:=Tryz.sizeOf4
 v4:=Tryz.zeroValue4
 t5:=Tryz.underlying5
 a5:=Tryz.isAgg5
 z5:=Tryz.sizeOf5
 v5:=Tryz.zeroValue5
 t9:=Tryz.underlying9
 a9:=Tryz.isAgg9
 z9:=Tryz.sizeOf9
 v9:=Tryz.zeroValue9
 t46:=Tryz.underlying150
 a46:=Tryz.isAgg150
 z46:=Tryz.sizeOf150
 v46:=Tryz.zeroValue150
 t51:=Tryz.underlying27
 a51:=Tryz.isAgg27
 z51:=Tryz.sizeOf27
 v51:=Tryz.zeroValue27
 t146:=Tryz.underlying214
 a146:=Tryz.isAgg214
 z146:=Tryz.sizeOf214
 v146:=Tryz.zeroValue214
 g1:=by kernel_rfl }
open Go.RowKit Go.Lib in
theorem Tryz.strings_Index_one(s:ByteArray)(c:UInt8)(w:World):
  Calls gQ 99 #[.string s,.string ⟨#[c]⟩] w fun e w'=>e = .returned (.int .i64 (Lib.indexByte s.data.toList c))/\w'=w:=Any.strings_Index_one Tryz.lays143 s c w
def Tryz.lays138_ren:Go.Shelf.Ren:=⟨fun | 138=>98 | 195=>119 | 218=>121 | 143=>99 | 219=>122 | 217=>142 | 225=>143 | 224=>144 | 267=>145 | 266=>154 | 314=>155 | n=>n,fun | 9=>9 | 3=>3 | 4=>4 | 5=>5 | 0=>0 | 46=>150 | 146=>214 | 51=>27 | n=>n,fun | 1=>1 | n=>n⟩
theorem Tryz.lays138:Go.Proofs.Lays.n138 gQ Tryz.lays138_ren:={
 mixed:=by kernel_rfl
 f138:=Tryz.func98.trans (congrArg some (by kernel_rfl))
 f143:=Tryz.func99.trans (congrArg some (by kernel_rfl))
 f195:=Tryz.func119.trans (congrArg some (by kernel_rfl))
 f217:=Tryz.func142.trans (congrArg some (by kernel_rfl))
 f218:=Tryz.func121.trans (congrArg some (by kernel_rfl))
 f219:=Tryz.func122.trans (congrArg some (by kernel_rfl))
 f224:=Tryz.func144.trans (congrArg some (by kernel_rfl))
 f225:=Tryz.func143.trans (congrArg some (by kernel_rfl))
 f266:=Tryz.func154.trans (congrArg some (by kernel_rfl))
 f267:=Tryz.func145.trans (congrArg some (by kernel_rfl))
 f314:=Tryz.func155.trans (congrArg some (by kernel_rfl))
 t0:=Tryz.underlying0
 a0:=Tryz.isAgg0
 z0:=Tryz.sizeOf0
 v0:=Tryz.zeroValue0
 t3:=Tryz.underlying3
 a3:=Tryz.isAgg3
 z3:=Tryz.sizeOf3
 v3:=Tryz.zeroValue3
 t4:=Tryz.underlying4
 a4:=Tryz.isAgg4
 z4:=Tryz.sizeOf4
 v4:=Tryz.zeroValue4
 t5:=Tryz.underlying5
 a5:=Tryz.isAgg5
 z5:=Tryz.sizeOf5
 v5:=Tryz.zeroValue5
 t9:=Tryz.underlying9
 a9:=Tryz.isAgg9
 z9:=Tryz.sizeOf9
 v9:=Tryz.zeroValue9
 t46:=Tryz.underlying150
 a46:=Tryz.isAgg150
 z46:=Tryz.sizeOf150
 v46:=Tryz.zeroValue150
 t51:=Tryz.underlying27
 a51:=Tryz.isAgg27
 z51:=Tryz.sizeOf27
 v51:=Tryz.zeroValue27
 t146:=Tryz.underlying214
 a146:=Tryz.isAgg214
 z146:=Tryz.sizeOf214
 v146:=Tryz.zeroValue214
 g1:=by kernel_rfl }
open Go.RowKit Go.Lib in
theorem Tryz.strings_Count_one(s:ByteArray)(c:UInt8)(w:World):
  Calls gQ 98 #[.string s,.string ⟨#[c]⟩] w fun e w'=>e = .returned (.int .i64 (Lib.countByte s.data.toList c))/\w'=w:=Any.strings_Count_one Tryz.lays138 s c w
def Tryz.sort95_ren:Go.Shelf.Ren:=⟨fun | 6=>95 | 8=>118 | 9=>117 | 19=>81 | 20=>124 | 21=>132 | 22=>133 | 23=>134 | 24=>135 | 25=>136 | 26=>137 | 27=>138 | 28=>139 | 29=>140 | 36=>148 | 31=>149 | 32=>150 | 37=>151 | 38=>152 | 39=>153 | 41=>156 | n=>n,fun | 27=>22 | 29=>9 | 3=>3 | 32=>150 | 26=>22 | 0=>0 | 44=>27 | 46=>124 | 4=>4 | 36=>198 | 35=>197 | 41=>115 | 5=>5 | 9=>9 | 53=>204 | 57=>208 | 63=>218 | 64=>219 | n=>n,fun | n=>n⟩
theorem Tryz.sort95:Go.Proofs.SlLaysM.n6 gQ Tryz.sort95_ren:={
 mixed:=by kernel_rfl
 f6:=⟨Tryz.f95.name,by decide,Tryz.func95.trans (congrArg some (by kernel_rfl))⟩
 f8:=Tryz.func118.trans (congrArg some (by kernel_rfl))
 f9:=⟨Tryz.f117.name,by decide,Tryz.func117.trans (congrArg some (by kernel_rfl))⟩
 f19:=Tryz.func81.trans (congrArg some (by kernel_rfl))
 f20:=Tryz.func124.trans (congrArg some (by kernel_rfl))
 f21:=⟨Tryz.f132.name,by decide,Tryz.func132.trans (congrArg some (by kernel_rfl))⟩
 f22:=⟨Tryz.f133.name,by decide,Tryz.func133.trans (congrArg some (by kernel_rfl))⟩
 f23:=⟨Tryz.f134.name,by decide,Tryz.func134.trans (congrArg some (by kernel_rfl))⟩
 f24:=⟨Tryz.f135.name,by decide,Tryz.func135.trans (congrArg some (by kernel_rfl))⟩
 f25:=⟨Tryz.f136.name,by decide,Tryz.func136.trans (congrArg some (by kernel_rfl))⟩
 f26:=⟨Tryz.f137.name,by decide,Tryz.func137.trans (congrArg some (by kernel_rfl))⟩
 f27:=⟨Tryz.f138.name,by decide,Tryz.func138.trans (congrArg some (by kernel_rfl))⟩
 f28:=⟨Tryz.f139.name,by decide,Tryz.func139.trans (congrArg some (by kernel_rfl))⟩
 f29:=⟨Tryz.f140.name,by decide,Tryz.func140.trans (congrArg some (by kernel_rfl))⟩
 f31:=Tryz.func149.trans (congrArg some (by kernel_rfl))
 f32:=Tryz.func150.trans (congrArg some (by kernel_rfl))
 f36:=⟨Tryz.f148.name,by decide,Tryz.func148.trans (congrArg some (by kernel_rfl))⟩
 f37:=⟨Tryz.f151.name,by decide,Tryz.func151.trans (congrArg some (by kernel_rfl))⟩
 f38:=⟨Tryz.f152.name,by decide,Tryz.func152.trans (congrArg some (by kernel_rfl))⟩
 f39:=⟨Tryz.f153.name,by decide,Tryz.func153.trans (congrArg some (by kernel_rfl))⟩
 f41:=⟨Tryz.f156.name,by decide,Tryz.func156.trans (congrArg some (by kernel_rfl))⟩
 t0:=Tryz.underlying0
 a0:=Tryz.isAgg0
 z0:=Tryz.sizeOf0
 v0:=Tryz.zeroValue0
 t3:=Tryz.underlying3
 a3:=Tryz.isAgg3
 z3:=Tryz.sizeOf3
 v3:=Tryz.zeroValue3
 t4:=Tryz.underlying4
 a4:=Tryz.isAgg4
 z4:=Tryz.sizeOf4
 v4:=Tryz.zeroValue4
 t5:=Tryz.underlying5
 a5:=Tryz.isAgg5
 z5:=Tryz.sizeOf5
 v5:=Tryz.zeroValue5
 t9:=Tryz.underlying9
 a9:=Tryz.isAgg9
 z9:=Tryz.sizeOf9
 v9:=Tryz.zeroValue9
 t26:=Tryz.underlying22
 a26:=Tryz.isAgg22
 z26:=Tryz.sizeOf22
 v26:=Tryz.zeroValue22
 t27:=Tryz.underlying22
 a27:=Tryz.isAgg22
 z27:=Tryz.sizeOf22
 v27:=Tryz.zeroValue22
 t29:=Tryz.underlying9
 a29:=Tryz.isAgg9
 z29:=Tryz.sizeOf9
 v29:=Tryz.zeroValue9
 t32:=Tryz.underlying150
 a32:=Tryz.isAgg150
 z32:=Tryz.sizeOf150
 v32:=Tryz.zeroValue150
 t35:=Tryz.underlying197
 a35:=Tryz.isAgg197
 z35:=Tryz.sizeOf197
 v35:=Tryz.zeroValue197
 t36:=Tryz.underlying198
 a36:=Tryz.isAgg198
 z36:=Tryz.sizeOf198
 v36:=Tryz.zeroValue198
 t41:=Tryz.underlying115
 a41:=Tryz.isAgg115
 z41:=Tryz.sizeOf115
 v41:=Tryz.zeroValue115
 t44:=Tryz.underlying27
 a44:=Tryz.isAgg27
 z44:=Tryz.sizeOf27
 v44:=Tryz.zeroValue27
 t46:=Tryz.underlying124
 a46:=Tryz.isAgg124
 z46:=Tryz.sizeOf124
 v46:=Tryz.zeroValue124
 t53:=Tryz.underlying204
 a53:=Tryz.isAgg204
 z53:=Tryz.sizeOf204
 v53:=Tryz.zeroValue204
 t57:=Tryz.underlying208
 a57:=Tryz.isAgg208
 z57:=Tryz.sizeOf208
 v57:=Tryz.zeroValue208
 t63:=Tryz.underlying218
 a63:=Tryz.isAgg218
 z63:=Tryz.sizeOf218
 v63:=Tryz.zeroValue218
 t64:=Tryz.underlying219
 a64:=Tryz.isAgg219
 z64:=Tryz.sizeOf219
 v64:=Tryz.zeroValue219 }
def Tryz.grow101_ren:Go.Shelf.Ren:=⟨fun | 4=>101 | n=>n,fun | 22=>22 | 25=>9 | 3=>3 | 4=>4 | 9=>9 | 20=>20 | 0=>0 | n=>n,fun | n=>n⟩
theorem Tryz.grow101:Go.Proofs.Lays8.n4 gQ Tryz.grow101_ren:={
 mixed:=by kernel_rfl
 f4:=⟨Tryz.f101.name,by decide,Tryz.func101.trans (congrArg some (by kernel_rfl))⟩
 t0:=Tryz.underlying0
 a0:=Tryz.isAgg0
 z0:=Tryz.sizeOf0
 v0:=Tryz.zeroValue0
 t3:=Tryz.underlying3
 a3:=Tryz.isAgg3
 z3:=Tryz.sizeOf3
 v3:=Tryz.zeroValue3
 t4:=Tryz.underlying4
 a4:=Tryz.isAgg4
 z4:=Tryz.sizeOf4
 v4:=Tryz.zeroValue4
 t9:=Tryz.underlying9
 a9:=Tryz.isAgg9
 z9:=Tryz.sizeOf9
 v9:=Tryz.zeroValue9
 t20:=Tryz.underlying20
 a20:=Tryz.isAgg20
 z20:=Tryz.sizeOf20
 v20:=Tryz.zeroValue20
 t22:=Tryz.underlying22
 a22:=Tryz.isAgg22
 z22:=Tryz.sizeOf22
 v22:=Tryz.zeroValue22 }
end
end Go.Proofs
namespace Go.Proofs.YthbdeaeghipliaaGreatDoor
section
open Go.RowKit Go.Shelf Go.Sort Go.Maps
attribute [local go_sem] Oper.semAt_some
def bytesOf(zs:List ByteArray):List (List UInt8):=zs.map fun z=>z.data.toList
def K65(zs:List ByteArray):List ByteArray:=((bytesOf zs).mergeSort fun x y=>decide (x<=y)).map fun l=>⟨l.toArray⟩
theorem Y137(zs:List ByteArray):(bytesOf zs).map encStr=zs.map aB:=by
 simp[bytesOf,List.map_map]
theorem C140(zs:List ByteArray):((bytesOf zs).mergeSort fun x y=>decide (x<=y)).map encStr=(K65 zs).map aB:=by
 simp[K65,List.map_map]
theorem C138(F:Fence)(n:Nat)(L:F.fn 94)(Q:F.fn 116)(M:F.fn 96)(E:F.round=none)(hn:4<=n)(Bs Bo:Nat)(sv:Value)(zs:List ByteArray)(J:zs.length<=1000)(w:World)(O:Bs<w.heap.size)(hc:w.cell? ⟨Bs,Bo,none⟩=some sv)(hI:D16 w.heap.size w sv zs):
  CallsIn F n gQ 94 #[.func (.func 96) #[] #[.pointer (some ⟨Bs,Bo,none⟩)]] w fun e W'=>∃ v,e = .returned v/\W'.ownsRow w.heap.size 9 1 v zs.length (zs.map aB)/\(v = .slice none 0 0<->zs=[])/\Below w.heap.size w W':=by
 refine callsIn_of_wp Tryz.func94 rfl L ?_ E;have h1:1<=n:=O0;simp only[Tryz.ntmps94,List.size_toArray,cV,bE,Nat.reduceAdd,Nat.reduceSub,gS,gW,List.push_toArray,hJ,eR,dL]
 gi_wp2_with (gi_at_call 116;refine(J136 F (n-1) Q M E O0 Bs Bo sv zs J _ O hc hI).mono ?_;rintro e w' ⟨v,rfl,B,hnil,hb⟩)
 go_ret
 exact⟨v,rfl,B,hnil,hb⟩
theorem Z142(F:Fence)(n:Nat)(hF:F=Fence.wide)(hn:5<=n)(Bs Bo:Nat)(sv:Value)(zs:List ByteArray)(M:zs.length<=1000)(w:World)(R:Bs<w.heap.size)(hc:w.cell? ⟨Bs,Bo,none⟩=some sv)(hI:D16 w.heap.size w sv zs):
  CallsIn F n gQ 65 #[.func (.func 96) #[] #[.pointer (some ⟨Bs,Bo,none⟩)]] w fun e W'=>∃ v,e = .returned v/\W'.ownsRow w.heap.size 9 1 v zs.length ((K65 zs).map aB)/\(zs=[]->v = .slice none 0 0)/\Below w.heap.size w W':=by
 subst hF;have h1:1<=n:=O0;have Y:Fence.wide.fn 94:=trivial;have Z:Fence.wide.fn 95:=trivial;refine callsIn_of_wp Tryz.func65 rfl trivial ?_ rfl;simp only[Tryz.ntmps65,List.size_toArray,cV,bE,Nat.reduceAdd,Nat.reduceSub,gS,gW,List.push_toArray,hJ,eR,dL]
 gi_wp2_with (gi_at_call 94;refine(C138 Fence.wide (n-1) trivial trivial trivial rfl O0 Bs Bo sv zs M _ R hc hI).mono ?_;rintro e W ⟨v,rfl,E,hnil,hb⟩)
 rcases E.2 with ⟨rfl,hz⟩ | ⟨gb,cap,V,rfl,B,L,r1,r2,r3,r4⟩
 .have Q:zs=[]:=List.eq_nil_of_length_eq_zero hz
  subst Q
  gi_wp2_with (gi_at_call 95;refine(callsIn_wide.2 (AnyM.slices_Sort_string_none Tryz.sort95 none 0 W)).mono ?_;rintro e w' ⟨rfl,rfl⟩)
  go_ret
  exact⟨.slice none 0 0,rfl,by simpa [K65,bytesOf] using E,O2,hb⟩
 .have hH:Holds encStr W gb 0 (bytesOf zs).toArray:=holds_of_block L (by rw[Y137];simpa [bytesOf] using r4)
  have O:gb<W.heap.size:=(Array.getElem?_eq_some_iff.1 L).1;have J:(bytesOf zs).length=zs.length:=by simp[bytesOf]
  have U:(bytesOf zs).length<4611686018427387904:=O0;have cS:=AnyM.slices_Sort_string Tryz.sort95 gb 0 cap (bytesOf zs) W hH O U;rw[J] at cS
  gi_wp2_with (gi_at_call 95;refine(callsIn_wide.2 cS).mono ?_;rintro e w' ⟨rfl,nn,os,rfl⟩)
  go_ret
  refine⟨_,rfl,?_,hnil.2,hb.grown (grownBy_sorted _) hb.size (fun j hj=>by cases hj;exact B)⟩;have:=ownsRow_sorted (n:=nn) (os:=os) (ss:=bytesOf zs) (ts:=(bytesOf zs).mergeSort fun x y=>decide (x<=y)) O2 B L (by rw[J];exact r1) r2 r3;rw[C140,J] at this;exact this
theorem G142(Bs Bo:Nat)(sv:Value)(zs:List ByteArray)(B:zs.length<=1000)(w:World)(E:Bs<w.heap.size)(hc:w.cell? ⟨Bs,Bo,none⟩=some sv)(hI:D16 w.heap.size w sv zs):
  Calls gQ 65 #[.func (.func 96) #[] #[.pointer (some ⟨Bs,Bo,none⟩)]] w fun e W'=>∃ v,e = .returned v/\W'.ownsRow w.heap.size 9 1 v zs.length ((K65 zs).map aB)/\(zs=[]->v = .slice none 0 0)/\Below w.heap.size w W':=
 callsIn_wide.1 (Z142 Fence.wide 6 rfl O0 Bs Bo sv zs B w E hc hI)
end
open Go.Clo
theorem N134:Go.Clo.Enters gQ 65:=⟨_,_,Tryz.func65,rfl,by kernel_rfl⟩
theorem V144:Go.Clo.Enters gQ 48:=⟨_,_,Tryz.func48,rfl,by kernel_rfl⟩
theorem N142:Go.Clo.Enters gQ 98:=⟨_,_,Tryz.func98,rfl,by kernel_rfl⟩
theorem R143:Go.Clo.Enters gQ 99:=⟨_,_,Tryz.func99,rfl,by kernel_rfl⟩
theorem Y146(s:ByteArray)(c:UInt8)(H:Y0)(nx:Nat):Q2 gQ 98 [.string s,.string ⟨#[c]⟩] H nx fun r H' nx'=>O8 (Lib.countByte s.data.toList c)=r/\H=H'/\nx=nx':=
 X130 N142 rfl rfl (fun w=>Tryz.strings_Count_one s c w) H nx
theorem R147(s:ByteArray)(c:UInt8)(H:Y0)(nx:Nat):Q2 gQ 99 [.string s,.string ⟨#[c]⟩] H nx fun r H' nx'=>O8 (Lib.indexByte s.data.toList c)=r/\H=H'/\nx=nx':=
 X130 R143 rfl rfl (fun w=>Tryz.strings_Index_one s c w) H nx
def U26(xs:List ByteArray)(sep:ByteArray):ByteArray:=⟨(Lib.join (xs.map (·.data.toList)) sep.data.toList).toArray⟩
theorem Q131(A:Option Addr)(xs:List ByteArray)(sep:ByteArray)(cap:Nat)(H:Y0)(nx:Nat)(hS:Sl H nx A (N0 xs))(h0:0<xs.length)(hcap:xs.length<=cap)(hN:xs.length<=1000000)(Q:(U26 xs sep).size<=1000000):
  Q2 gQ 48 [.slice A xs.length cap,.string sep] H nx fun r H' nx' => .string (U26 xs sep)=r/\H=H'/\nx=nx':=by
 refine⟨_,H,nx,⟨V144,fun F L w hh hl => ?_⟩,rfl,rfl,rfl⟩;obtain⟨b,o,row,rfl,hb,M,O⟩:=hS.open (i:=0) (by rw[W2];exact h0)
 cases hl with
 | cons ha hl=>
 cases hl with
 | cons hs hl=>
 cases hl
 cases hs
 obtain⟨_,t,c',hF,rfl,hc⟩:=ha.slice_inv;have B:∀(j:Nat) x,xs[j]? = some x->w.cell? ⟨t.blk,t.base+o+j,none⟩=some (.string x):=fun j x hx=>by
  obtain⟨v',h1,h2⟩:=U23 hh hF hS (B6 hx)
  cases h2
  exact h1
 have J:xs.length<=c':=by rcases hc with h | h<;>omega
 have E:(Lib.join (xs.map (·.data.toList)) sep.data.toList).length<=140737488355328:=by
  have:(U26 xs sep).size=(Lib.join (xs.map (·.data.toList)) sep.data.toList).length:=by simp[U26,ByteArray.size]
  omega
 refine(Tryz.strings_Join t.blk (t.base+o) c' xs sep w B (W40 hh hF hS (by rw[W2];exact h0)) O0 J E).mono fun e w' ⟨he,hb⟩ => ?_
 exact⟨_,F,he,.string _,N2.below hh hb⟩
theorem E147(q:Nat)(A:Option Addr)(zs:List ByteArray)(cap:Nat)(H:Y0)(nx:Nat)(hq:J0 H q=O7 [.slice A zs.length cap])(a6:q<nx)(hS:Sl H nx A (N0 zs))(hW:Y18 H nx A zs.length cap)(R:zs.length<=1000):
  Q2 gQ 65 [.func (.func 96) ⟨[]⟩ ⟨[.pointer (some ⟨q,0,none⟩)]⟩] H nx fun r H' nx'=>J6 nx H' nx' 1 r zs.length (N0 (K65 zs))/\D0 H nx H' nx':=by
 have real:∀(F:FM) (B:List Value) (w:World),HR F H nx w->VL F [.func (.func 96) ⟨[]⟩ ⟨[.pointer (some ⟨q,0,none⟩)]⟩] B ->
   Calls gQ 65 B.toArray w fun e w'=>∃ v,e = .returned v/\w'.ownsRow w.heap.size 9 1 v zs.length ((K65 zs).map aB)/\(zs=[]->v=O6)/\RowKit.Below w.heap.size w w':=by
  intro F B w hh hl
  cases hl with
  | cons ha hl=>
  cases hl
  cases ha with
  | @func _ _ x' _ y' h1 _ h3 h4=>
  obtain rfl:x' = #[]:=by simpa using h1.symm
  obtain⟨p,rfl⟩:∃ p,y' = #[p]:=by
   have:y'.toList.length=1:=by simpa using h3.symm
   match hy:y'.toList,this with
   | [p],_=>exact⟨p,by rw[<- Array.toArray_toList (xs:=y'),hy]⟩
  obtain⟨_,t,hF,rfl⟩:=(h4 0 _ _ rfl rfl).ptr_inv;obtain⟨c',e,hw,a4,a3,a5,a1,Y⟩:=hh.hb.get hF hq;obtain⟨sv,Q,J⟩:=Y.some (i:=0) rfl;rw[aX,if_pos O2,dB,cL] at Q;have O:w.cell? ⟨t.blk,t.base+0,none⟩=some sv:=by simp[cB,hw];simpa using Q
  have V:t.blk<w.heap.size:=(Array.getElem?_eq_some_iff.1 hw).1;refine G142 t.blk (t.base+0) sv zs R w V O ?_
  cases zs with
  | nil=>
   rcases hW with ⟨W,hcap⟩ | ⟨s,rfl,_,rfl⟩
   .rcases W with rfl | ⟨b,o,row,rfl,hb,E⟩
    .have:=J.sliceN_inv
     rw[hcap rfl] at this;exact .inl ⟨⟨_,this⟩,rfl⟩
    .obtain⟨_,tt,cc,L,rfl,hc⟩:=J.slice_inv
     refine .inr ⟨tt.blk,tt.base+o,cc,rfl,?_,fun j hj=>by simp at hj⟩;unfold Q5 at E
     cases hg:J0 H b with
     | none=>rw[hg] at E;cases E
     | some blk=>exact(hh.hb.get L hg).lt
   .cases J with
    | sliceW s a=>exact .inl ⟨⟨_,rfl⟩,rfl⟩
  | cons z zs=>
   obtain⟨b,o,row,rfl,hb,E,a0⟩:=hS.open (i:=0) (by simp[N0]);obtain⟨_,tt,cc,L,rfl,hc⟩:=J.slice_inv;refine .inr ⟨tt.blk,tt.base+o,cc,rfl,W40 hh L hS (by simp[N0]),fun j hj => ?_⟩;obtain⟨v',g1,g2⟩:=U23 hh L hS (B6 (aE hj))
   cases g2
   rw[g1,aE hj];rfl
 by_cases hz:zs=[]
 .subst hz
  refine⟨O6,H,nx,⟨N134,fun F B w hh hl=>(real F B w hh hl).mono fun e w' ⟨v,he,E,hnil,hb⟩ => ?_⟩,⟨by simp[K65,bytesOf,N0],.inl ⟨rfl,rfl⟩⟩,D0.refl _ _⟩;have:=hnil rfl;subst this;exact⟨_,F,he,.sliceN _ _,N2.below hh hb⟩
 .have Z:0<zs.length:=List.length_pos_iff.2 hz
  have M:(N0 (K65 zs)).length=zs.length:=by simp[N0,K65,bytesOf]
  refine⟨.slice (some ⟨nx,0,none⟩) zs.length zs.length,hs H nx (some (.cells (N0 (K65 zs)) 1)),nx+1,⟨N134,fun F B w hh hl=>(real F B w hh hl).mono fun e w' ⟨v,he,E,hnil,hb⟩ => ?_⟩,?_,(D0.refl H nx).nw _⟩
  .rcases E.2 with ⟨_,h0⟩ | ⟨g,cp,a2,rfl,hg,hc,h1,hm,h3,h4⟩
   .omega
   .obtain⟨F',J,U⟩:=N2.row (xs:=N0 (K65 zs)) hh hb hg hc (by rw[M];exact h1) (by simpa using h3) (by rw[M];simpa [N0] using h4) (by unfold maxLen at hm;omega) (J133 _)
    rw[M] at J;exact⟨_,F',he,J,U⟩
  .have:=J6.of_new H nx (N0 (K65 zs))
   rw[M] at this;exact this
section
variable {i:Nat} {s:ByteArray}
theorem W117{i:Nat}{c:UInt8}(h:s[i]? = some c)(K:IntKind)(k:VP):D9 .sidx [.string s,.int K (i:Int)] k=k (.int .u8 (c.toNat:Int)):=by
 have e:VF.ev .sidx [.string s,.int K (i:Int)]=some (.int .u8 (c.toNat:Int)):=by
  show J52 s (i:Int)=_;unfold J52;rw[if_pos O0,gR,h];rfl
 unfold D9;rw[e,J8];rfl
theorem Z130{h:Nat}(hh:h<=s.size)(k:VP):D9 (.ssl false true) [.string s,O8 (h:Int)] k=k (.string (s.extract 0 h)):=by
 have e:VF.ev (.ssl false true) [.string s,O8 (h:Int)]=some (.string (s.extract 0 h)):=by
  show G31 s none (some (O8 (h:Int)))=_;have:Y13 (some (O8 (h:Int))) s.size=some h:=by
   show(cond (dD h s.size) (some h) none)=some h;rw[V6 hh];rfl
  simp only[G31,this]
 unfold D9;rw[e,J8];rfl
theorem U121(h:i<s.size):∃ c:UInt8,s[i]? = some c:=⟨_,getElem?_pos s i h⟩
theorem R124:s[i]? = s.data.toList[i]? := by
 by_cases h:i<s.size
 .rw[getElem?_pos s i h,cL,getElem?_pos s.data i h];rfl
 .rw[getElem?_neg s i h,cL,getElem?_neg s.data i h]
def X32(c:UInt8):Bool:=(decide (65<=c.toNat)&&decide (c.toNat<=90)) || (decide (97<=c.toNat)&&decide (c.toNat<=122))
def X89(c:UInt8):Bool:=decide (c.toNat=95) || (decide (48<=c.toNat)&&decide (c.toNat<=57))
def R118(s:ByteArray):Prop:=1<=s.size/\s.size<=16/\∀(i:Nat) (c:UInt8),s[i]? = some c->X32 c=true\/(i≠0/\X89 c=true)
theorem Q134(c:UInt8)(H:Y0)(nx:Nat):Q2 gQ 129 [.int .u8 (c.toNat:Int)] H nx fun r H' nx' => .bool (X32 c)=r/\H=H'/\nx=nx':=by
 refine spec129 ?_;unfold F129 X32;generalize c.toNat=x
 by_cases h1:65<=x<;>by_cases h2:x<=90<;>by_cases h3:97<=x<;>by_cases h4:x<=122 <;>
  (have e1:decide ((65:Int)<=(x:Int))=decide (65<=x):=by congr 1;apply propext;omega
   have e2:decide ((x:Int)<=90)=decide (x<=90):=by congr 1;apply propext;omega
   have e3:decide ((97:Int)<=(x:Int))=decide (97<=x):=by congr 1;apply propext;omega
   have e4:decide ((x:Int)<=122)=decide (x<=122):=by congr 1;apply propext;omega
   simp(disch:=try exact O3)only[W0,e1,e2,e3,e4,h1,h2,h3,h4]
   try simp)
theorem D145(s:ByteArray)(H:Y0)(nx:Nat)(hs:s.size<=1000000):Q2 gQ 107 [.string s] H nx fun r H' nx'=>(∃ c:Bool,r = .bool c/\(c=true<->R118 s))/\H=H'/\nx=nx':=by
 refine spec107 ?_;unfold F107
 by_cases h1:s.size<1
 .have d1:(s.size:Int)<1:=O0
  simp(disch:=try exact O3)only[W0,N13,d1];exact⟨false,rfl,O2,fun h=>by have:=h.1;omega⟩
 have d1:¬ (s.size:Int)<1:=O0
 by_cases h2:16<s.size
 .have d2:(16:Int)<(s.size:Int):=O0
  simp(disch:=try exact O3)only[W0,N13,d1,d2];exact⟨false,rfl,O2,fun h=>by have:=h.2.1;omega⟩
 have d2:¬ (16:Int)<(s.size:Int):=O0;obtain⟨c0,Q⟩:=U121 (s:=s) (i:=0) O0;have e0:∀ k,D9 .sidx [.string s,O8 0] k=k (.int .u8 (c0.toNat:Int)):=fun k=>W117 (i:=0) Q .i64 k
 simp(disch:=try exact O3)only[W0,N13,d1,d2,e0];refine R0 (Q134 c0 H nx) ?_;rintro _ _ _ ⟨rfl,rfl,rfl⟩
 cases J:X32 c0 with
 | false=>
  simp(disch:=try exact O3)only[W0];exact⟨false,rfl,O2,fun h=>by
   rcases h.2.2 0 c0 Q with g | g
   .rw[J] at g;cases g
   .exact absurd rfl g.1⟩
 | true=>
  simp(disch:=try exact O3)only[W0];refine B1 (fun m L H' nx'=>∃ i:Nat,m+i=s.size/\1<=i/\L=[O8 (i:Int)]/\(∀(j:Nat) (c:UInt8),j<i->s[j]? = some c->X32 c=true\/(j≠0/\X89 c=true))/\H=H'/\nx=nx') ?_ (m:=s.size-1) ⟨1,O0,aD _,rfl,fun j c hj hc=>by
   have:j=0:=O0;subst this;rw[Q] at hc;cases hc;exact .inl J,rfl,rfl⟩
  rintro m ih L _ _ ⟨i,hm,Y,rfl,U,rfl,rfl⟩ W;simp(disch:=try exact O3)only[W0]
  by_cases hi:i<s.size
  .have O:(i:Int)<(s.size:Int):=O0
   obtain⟨c,hc⟩:=U121 hi;have ec:=fun k=>W117 hc .i64 k
   have next:(X32 c=true\/X89 c=true)->ih [O8 ((i:Int)+1)] H nx:=fun h=>
    W (m-1) _ _ _ O0 ⟨i+1,O0,O0,O2,fun j c' hj R=>by
     by_cases V:j=i
     .subst V
      rw[hc] at R;cases R;exact h.imp id fun h=>⟨O0,h⟩
     .exact U j c' O0 R,rfl,rfl⟩
   have bad:X32 c=false->X89 c=false->∃ c':Bool,dU false = .bool c'/\(c'=true<->R118 s):=fun g1 g2=>⟨false,rfl,O2,fun h=>by
    rcases h.2.2 i c hc with g | g
    .rw[g1] at g;cases g
    .rw[g2] at g;cases g.2⟩
   simp(disch:=try exact O3)only[W0,O,ec];refine R0 (Q134 c H nx) ?_;rintro _ _ _ ⟨rfl,rfl,rfl⟩
   cases hl:X32 c with
   | true=>
    simp(disch:=try exact O3)only[W0];exact next (.inl hl)
   | false=>
    by_cases q1:48<=c.toNat
    .have B:(48:Int)<=(c.toNat:Int):=O0
     by_cases q2:c.toNat<=57
     .have M:(c.toNat:Int)<=57:=O0
      simp(disch:=try exact O3)only[W0,B,M];exact next (.inr (by simp[X89,q1,q2]))
     .have M:¬ (c.toNat:Int)<=57:=O0
      by_cases q3:c.toNat=95
      .have E:decide ((c.toNat:Int)≠95)=false:=by simp;omega
       simp(disch:=try exact O3)only[W0,B,M,E];exact next (.inr (by simp[X89,q3]))
      .have E:decide ((c.toNat:Int)≠95)=true:=by simp;omega
       simp(disch:=try exact O3)only[W0,B,M,E];exact bad hl (by simp[X89,q3,q2])
    .have B:¬ (48:Int)<=(c.toNat:Int):=O0
     have E:decide ((c.toNat:Int)≠95)=true:=by simp;omega
     simp(disch:=try exact O3)only[W0,B,E];exact bad hl (by simp[X89,q1];omega)
  .have O:¬ (i:Int)<(s.size:Int):=O0
   simp(disch:=try exact O3)only[W0,O];exact⟨true,rfl,fun _=>⟨O0,O0,fun j c hc=>U j c (by
    rcases aW j s.size with g | g
    .omega
    .rw[getElem?_neg s j O0] at hc;cases hc) hc⟩,fun _=>rfl⟩
end
theorem J113{a b:ByteArray}(h:a.toList=b.toList):a=b:=by
 rw[bB,bB] at h
 cases a;cases b;simpa using h
theorem K5(a b:ByteArray)(k:VP):D10 .eql (.string a) (.string b) k=k (.bool (decide (a=b))):=by
 rw[X6];have e:(a.toList==b.toList)=decide (a=b):=by
  rw[eX,beq_iff_eq,decide_eq_true_eq];exact⟨fun h=>J113 h,fun h=>by rw[h]⟩
 simp only[R9,K53,aN,e]
theorem X133(s:ByteArray)(H:Y0)(nx:Nat)(hs:s.size<=1000000):Q2 gQ 93 [.string s] H nx fun r H' nx'=>(∃ c:Bool,r = .bool c/\(c=true<->R118 s))/\H=H'/\nx=nx':=by
 refine spec93 ?_;unfold F93
 by_cases h1:s=⟨#[]⟩
 .have d1:decide (s=⟨#[]⟩)=true:=by simp[h1]
  simp(disch:=try exact O3)only[W0,N13,K5,d1];exact⟨false,rfl,O2,fun h=>by have:=h.1;rw[h1] at this;exact absurd this (by decide)⟩
 have d1:decide (s=⟨#[]⟩)=false:=by simp[h1]
 have h0:1<=s.size:=by
  rcases cI s.size with h | h
  .exact absurd (by cases s with | mk d=>have:d = #[]:=Array.eq_empty_of_size_eq_zero h;rw[this]) h1
  .exact h
 by_cases h2:16<s.size
 .have d2:(16:Int)<(s.size:Int):=O0
  simp(disch:=try exact O3)only[W0,N13,K5,d1,d2];exact⟨false,rfl,O2,fun h=>by have:=h.2.1;omega⟩
 have d2:¬ (16:Int)<(s.size:Int):=O0;refine N5 (fun L H' nx'=>L=[.bool false]/\H=H'/\nx=nx') ?_ ?_
 .intro j hj
  simp(disch:=try exact O3)only[W0,K5,d1,d2];exact hj _ _ _ ⟨rfl,rfl,rfl⟩
 rintro _ _ _ ⟨rfl,rfl,rfl⟩;simp(disch:=try exact O3)only[W0];refine B1 (fun m L H' nx'=>∃ i:Nat,m+i=s.size/\L=[O8 (i:Int)]/\(∀(j:Nat) (c:UInt8),j<i->s[j]? = some c->X32 c=true\/(j≠0/\X89 c=true))/\H=H'/\nx=nx') ?_ (m:=s.size) ⟨0,O0,rfl,fun j c hj hc=>O0,rfl,rfl⟩;rintro m ih L _ _ ⟨i,hm,rfl,V,rfl,rfl⟩ Y;simp(disch:=try exact O3)only[W0]
 by_cases hi:i<s.size
 .have R:(i:Int)<(s.size:Int):=O0
  obtain⟨c,hc⟩:=U121 hi;have ec:=fun k=>W117 hc .i64 k
  have next:(X32 c=true\/(i≠0/\X89 c=true))->ih [O8 ((i:Int)+1)] H nx:=fun h=>
   Y (m-1) _ _ _ O0 ⟨i+1,O0,O2,fun j c' hj U=>by
    by_cases W:j=i
    .subst W
     rw[hc] at U;cases U;exact h
    .exact V j c' O0 U,rfl,rfl⟩
  have bad:X32 c=false->(i=0\/X89 c=false)->∃ c':Bool,dU false = .bool c'/\(c'=true<->R118 s):=fun g1 g2=>⟨false,rfl,O2,fun h=>by
   rcases h.2.2 i c hc with g | g
   .rw[g1] at g;cases g
   .rcases g2 with g2 | g2
    .exact absurd g2 g.1
    .rw[g2] at g;cases g.2⟩
  simp(config:={ maxSteps:=2000000 }) (disch:=try exact O3)only[W0,R,ec];refine N5 (fun L H' nx'=>L=[.bool (X32 c)]/\H=H'/\nx=nx') ?_ ?_
  .intro j hj
   have Q:∀ b:Bool,X32 c=b->j [.bool b] H nx:=fun b hb=>hj _ _ _ ⟨by rw[hb],rfl,rfl⟩
   by_cases q1:97<=c.toNat
   .have E:(97:Int)<=(c.toNat:Int):=O0
    by_cases q2:c.toNat<=122
    .have J:(c.toNat:Int)<=122:=O0
     simp(disch:=try exact O3)only[W0,E,J];exact Q _ (by simp[X32,q1,q2])
    .have J:¬ (c.toNat:Int)<=122:=O0
     have B:(65:Int)<=(c.toNat:Int):=O0;have O:¬ (c.toNat:Int)<=90:=O0;simp(disch:=try exact O3)only[W0,E,J,B,O];exact Q _ (by simp[X32];omega)
   .have E:¬ (97:Int)<=(c.toNat:Int):=O0
    by_cases q3:65<=c.toNat
    .have B:(65:Int)<=(c.toNat:Int):=O0
     by_cases q4:c.toNat<=90
     .have O:(c.toNat:Int)<=90:=O0
      simp(disch:=try exact O3)only[W0,E,B,O];exact Q _ (by simp[X32,q3,q4])
     .have O:¬ (c.toNat:Int)<=90:=O0
      simp(disch:=try exact O3)only[W0,E,B,O];exact Q _ (by simp[X32];omega)
    .have B:¬ (65:Int)<=(c.toNat:Int):=O0
     simp(disch:=try exact O3)only[W0,E,B];exact Q _ (by simp[X32];omega)
  .rintro _ _ _ ⟨rfl,rfl,rfl⟩
   cases hl:X32 c with
   | true=>
    simp(disch:=try exact O3)only[W0,N13];exact next (.inl hl)
   | false=>
    by_cases q0:i=0
    .have M:decide ((i:Int)=0)=true:=by simp;omega
     simp(disch:=try exact O3)only[W0,N13,q0];exact bad hl (.inl q0)
    .have M:decide (i=0)=false:=by simp;omega
     by_cases q3:c.toNat=95
     .have B:decide ((c.toNat:Int)≠95)=false:=by simp;omega
      simp(disch:=try exact O3)only[W0,N13,M,B];exact next (.inr ⟨q0,by simp[X89,q3]⟩)
     .have B:decide ((c.toNat:Int)≠95)=true:=by simp;omega
      by_cases q1:c.toNat<48
      .have E:(c.toNat:Int)<48:=O0
       simp(disch:=try exact O3)only[W0,N13,M,B,E];exact bad hl (.inr (by simp[X89,q3];omega))
      .have E:¬ (c.toNat:Int)<48:=O0
       by_cases q2:57<c.toNat
       .have J:(57:Int)<(c.toNat:Int):=O0
        simp(disch:=try exact O3)only[W0,N13,M,B,E,J];exact bad hl (.inr (by simp[X89,q3];omega))
       .have J:¬ (57:Int)<(c.toNat:Int):=O0
        simp(disch:=try exact O3)only[W0,N13,M,B,E,J];exact next (.inr ⟨q0,by simp[X89];omega⟩)
 .have R:¬ (i:Int)<(s.size:Int):=O0
  simp(disch:=try exact O3)only[W0,R];exact⟨true,rfl,fun _=>⟨O0,O0,fun j c hc=>V j c (by
   rcases aW j s.size with g | g
   .omega
   .rw[getElem?_neg s j O0] at hc;cases hc) hc⟩,fun _=>rfl⟩
section
variable (a0 a1 a2 a3:Value) (H:Y0) (nx:Nat) (k:EP)
def F34:Prop:=
 Y2 gQ 62 [a0,(.func (.func 63) ⟨[]⟩ ⟨[]⟩)] H nx fun b c d=>
 B0 b (
 Rt (.int .i64 7) c d k) (
 Y2 gQ 66 [a0] c d fun b c d=>
 Y2 gQ 65 [b] c d fun b c d=>
 Y2 gQ 67 [b] c d fun b c d=>
 R4 b 0 c fun b=>
 R4 a0 0 c fun e=>
 D10 .neq b e fun b=>
 B0 b (
 Rt (.int .i64 8) c d k) (
 Rt i0 c d k))
def F36:Prop:=
 D24 0 1 [.string ⟨#[]⟩] [] H nx fun b c d=>
 R4 a1 0 c fun e=>
 G3 (fun b c d f=>
 D10 .lss c.b e fun e=>
 B0 e (
 U6 a1 c.b d fun _ e=>
 V4 (fun b=>
 D10 .lss e i0 fun c=>
 C1 false c (
 R4 a0 0 d fun c=>
 D10 .geq e c fun c=>
 b [c] d f) (
 b [bT] d f)) (fun d f g=>
 B0 d.a (
 Rt (.tuple ⟨[(.slice none 0 0),(.int .i64 3)]⟩) f g k) (
 U6 a0 e f fun _ d=>
 D24 1 1 [.string ⟨#[]⟩] [(0,d)] f g fun d e f=>
 B5 c.a d 1 16 e f fun d e f=>
 D10 .add c.b i1 fun c=>
 b [d,c] e f))) (
 Rt (.tuple ⟨[c.a,i0]⟩) d f k)) [b,i0] c d
def F20:Prop:=
 D24 1 1 [.string ⟨#[]⟩] [(0,a0)] H nx fun b c d=>
 B5 b a1 1 16 c d fun b c d=>
 Y2 gQ 48 [b,(.string ⟨#[32]⟩)] c d fun b c d=>
 Rt b c d k
def F49:Prop:=
 G3 (fun b c d e=>
 R4 a0 0 d fun f=>
 D10 .lss c.a f fun f=>
 B0 f (
 U6 a0 c.a d fun _ f=>
 Y2 gQ 78 [f] d e fun d e f=>
 C5 .not d fun d=>
 B0 d (
 Rt (.int .i64 7) e f k) (
 D10 .add c.a i1 fun c=>
 b [c] e f)) (
 G3 (fun b c d e=>
 R4 a0 0 d fun f=>
 D10 .lss c.a f fun f=>
 B0 f (
 G3 (fun d e f g=>
 D10 .lss e.a c.a fun h=>
 B0 h (
 M2 (g+9) fun b=>
 U6 a0 c.a f fun c g=>
 U6 a0 e.a f fun h i=>
 D10 .eql g i fun j=>
 wK ((tB (cE h none f i))/\(tB (tB (cE c none f g)))) (
 B0 j (
 Rt (.int .i64 8) f b k) (
 D10 .add e.a i1 fun c=>
 d [c] f b))) (
 D10 .add c.a i1 fun c=>
 b [c] f g)) [i0] d e) (
 Rt i0 d e k)) [i0] d e)) [i0] H nx
def F32:Prop:=
 G3 (fun b c d e=>
 R4 a1 0 d fun f=>
 D10 .lss c.b f fun f=>
 B0 f (
 V4 (fun b=>
 U6 a1 c.b d fun _ f=>
 D10 .lss f i0 fun f=>
 C1 false f (
 U6 a1 c.b d fun _ c=>
 R4 a0 0 d fun f=>
 D10 .geq c f fun c=>
 b [c] d e) (
 b [bT] d e)) (fun d e f=>
 B0 d.a (
 Rt (.tuple ⟨[(.string ⟨#[]⟩),(.int .i64 3)]⟩) e f k) (
 D10 .add c.a (.string ⟨#[32]⟩) fun d=>
 U6 a1 c.b e fun _ g=>
 U6 a0 g e fun _ g=>
 D10 .add d g fun d=>
 D10 .add c.b i1 fun c=>
 b [d,c] e f))) (
 Rt (.tuple ⟨[c.a,i0]⟩) d e k)) [(.string ⟨#[]⟩),i0] H nx
def F21:Prop:=
 Y2 gQ 49 [a0] H nx fun b c d=>
 D10 .neq b i0 fun e=>
 B0 e (
 Rt (.tuple ⟨[(.string ⟨#[]⟩),b]⟩) c d k) (
 V4 (fun b=>
 D10 .lss a1 i0 fun e=>
 C1 false e (
 D10 .gtr a1 (.int .i64 3) fun e=>
 b [e] c d) (
 b [bT] c d)) (fun b c d=>
 B0 b.a (
 Rt (.tuple ⟨[(.string ⟨#[]⟩),(.int .i64 2)]⟩) c d k) (
 Y2 gQ 32 [a0,a2] c d fun b c d=>
 G9 b 0 fun e=>
 G9 b 1 fun b=>
 D10 .neq b i0 fun f=>
 B0 f (
 Rt (.tuple ⟨[(.string ⟨#[]⟩),b]⟩) c d k) (
 Y2 gQ 50 [] c d fun b c d=>
 U6 b a1 c fun _ b=>
 D10 .add b e fun b=>
 Rt (.tuple ⟨[b,i0]⟩) c d k))))
def F14:Prop:=
 M12 a1 H nx fun b c d=>
 Y2 gQ 34 [a0] c d fun c d e=>
 D10 .neq c i0 fun f=>
 B0 f (
 Rt (.tuple ⟨[(.string ⟨#[]⟩),c]⟩) d e k) (
 Y2 gQ 35 [] d e fun c d e=>
 V4 (fun f=>
 K7 b 0 d fun _ g=>
 D10 .lss g i0 fun g=>
 C1 false g (
 K7 b 0 d fun _ b=>
 R4 c 0 d fun c=>
 D10 .geq b c fun b=>
 f [b] d e) (
 f [bT] d e)) (fun d e f=>
 B0 d.a (
 Rt (.tuple ⟨[(.string ⟨#[]⟩),(.int .i64 2)]⟩) e f k) (
 K7 b 2 e fun _ d=>
 V4 (fun c=>
 K7 b 0 e fun _ g=>
 D10 .eql g i0 fun g=>
 B0 g (
 K7 b 1 e fun _ b=>
 c [b] e f) (
 c [d] e f)) (fun d e f=>
 Y2 gQ 36 [a0,d.a] e f fun d e f=>
 G9 d 0 fun g=>
 G9 d 1 fun d=>
 D10 .neq d i0 fun h=>
 B0 h (
 Rt (.tuple ⟨[(.string ⟨#[]⟩),d]⟩) e f k) (
 K7 b 0 e fun _ b=>
 U6 c b e fun _ b=>
 Y2 gQ 20 [b,g] e f fun b c d=>
 Rt (.tuple ⟨[b,i0]⟩) c d k)))))
def F40:Prop:=
 J1 a1 none H fun b=>
 wLk .string i0 b a0 true H fun b=>
 G9 b 0 fun c=>
 G9 b 1 fun b=>
 Rt (.tuple ⟨[c,b]⟩) H nx k
def F16:Prop:=
 R4 a0 0 H fun b=>
 R4 a1 0 H fun c=>
 D10 .neq b c fun b=>
 B0 b (
 Rt bF H nx k) (
 R4 a0 0 H fun b=>
 G3 (fun c d e f=>
 D10 .lss d.a b fun b=>
 B0 b (
 M2 (f+9) fun b=>
 U6 a0 d.a e fun f g=>
 U6 a1 d.a e fun h i=>
 D10 .neq g i fun j=>
 wK ((tB (cE h none e i))/\(tB (tB (cE f none e g)))) (
 B0 j (
 Rt bF e b k) (
 D10 .add d.a i1 fun d=>
 c [d] e b))) (
 Rt bT e f k)) [i0] H nx)
def F38:Prop:=
 R4 a0 0 H fun b=>
 G3 (fun c d e f=>
 D10 .lss d.a b fun b=>
 B0 b (
 U6 a0 d.a e fun _ b=>
 D10 .eql a1 b fun b=>
 B0 b (
 Rt d.a e f k) (
 D10 .add d.a i1 fun b=>
 c [b] e f)) (
 Rt (.int .i64 (-1)) e f k)) [i0] H nx
def F39:Prop:=
 Y2 gQ 38 [a0,a1] H nx fun b c d=>
 D10 .geq b i0 fun b=>
 Rt b c d k
def F68:Prop:=
 D10 .eql a3 i0 fun b=>
 B0 b (
 Rt (.slice none 0 0) H nx k) (
 D10 .eql a1 (.string ⟨#[]⟩) fun b=>
 B0 b (
 Y2 gQ 97 [a0,a3] H nx fun b c d=>
 Rt b c d k) (
 V4 (fun b=>
 D10 .lss a3 i0 fun c=>
 B0 c (
 Y2 gQ 98 [a0,a1] H nx fun c d e=>
 D10 .add c i1 fun c=>
 b [c] d e) (
 b [a3] H nx)) (fun b c d=>
 R4 a0 1 c fun e=>
 D10 .add e i1 fun e=>
 D9 (.mm false) [b.a,e] fun b=>
 G29 b b [.string ⟨#[]⟩] c d fun c d e=>
 D10 .sub b i1 fun b=>
 V4 (fun f=>
 G3 (fun d e g h=>
 D10 .lss e.b b fun b=>
 B0 b (
 Y2 gQ 99 [e.a,a1] g h fun b g h=>
 D10 .lss b i0 fun i=>
 B0 i (
 f [e.a,e.b] g h) (
 D10 .add b a2 fun f=>
 D9 (.ssl false true) [e.a,f] fun f=>
 M3 c e.b none 1 fun c=>
 D5 c f 1 g fun c=>
 R4 a1 1 c fun f=>
 D10 .add b f fun b=>
 D9 (.ssl true false) [e.a,b] fun b=>
 D10 .add e.b i1 fun e=>
 d [b,e] c h)) (
 f [e.a,e.b] g h)) [a0,i0] d e) (fun b d e=>
 M3 c b.b none 1 fun f=>
 D5 f b.a 1 d fun d=>
 D10 .add b.b i1 fun b=>
 U5 c 1 none (some b) none d fun b=>
 Rt b d e k))))
def F37:Prop:=
 Y2 gQ 68 [a0,a1,i0,(.int .i64 (-1))] H nx fun b c d=>
 Rt b c d k
variable {a0 a1 a2 a3 H nx k}
theorem spec34:F34 a0 H nx k->Q2 gQ 34 [a0] H nx k:=Q12 [] [] []
theorem spec36:F36 a0 a1 H nx k->Q2 gQ 36 [a0,a1] H nx k:=Q12 [(9,[23])] [[6,12]] [.one (.tst (.one .nil) (.one .nil))]
theorem spec20:F20 a0 a1 H nx k->Q2 gQ 20 [a0,a1] H nx k:=Q12 [] [] []
theorem spec49:F49 a0 H nx k->Q2 gQ 49 [a0] H nx k:=Q12 [] [[3],[4],[5]] []
theorem spec32:F32 a0 a1 H nx k->Q2 gQ 32 [a0,a1] H nx k:=Q12 [(8,[27])] [[6,7]] [.one (.tst (.one .nil) (.one .nil))]
theorem spec21:F21 a0 a1 a2 H nx k->Q2 gQ 21 [a0,a1,a2] H nx k:=Q12 [(6,[21])] [] [.one (.tst (.one .nil) (.one .nil))]
theorem spec14:F14 a0 a1 H nx k->Q2 gQ 14 [a0,a1] H nx k:=Q12 [(7,[26]),(10,[8])] [] [.one (.tst (.one .nil) (.one .nil))]
theorem spec40:F40 a0 a1 H nx k->Q2 gQ 40 [a0,a1] H nx k:=Q12 [] [] []
theorem spec16:F16 a0 a1 H nx k->Q2 gQ 16 [a0,a1] H nx k:=Q12 [] [[13]] []
theorem spec38:F38 a0 a1 H nx k->Q2 gQ 38 [a0,a1] H nx k:=Q12 [] [[8]] []
theorem spec39:F39 a0 a1 H nx k->Q2 gQ 39 [a0,a1] H nx k:=Q12 [] [] []
theorem spec68:F68 a0 a1 a2 a3 H nx k->Q2 gQ 68 [a0,a1,a2,a3] H nx k:=Q12 [(7,[3]),(13,[0,10])] [[0,10]] []
theorem spec37:F37 a0 a1 H nx k->Q2 gQ 37 [a0,a1] H nx k:=Q12 [] [] []
end
section
variable {a b:UInt8} {s:ByteArray}
def Q27(s:ByteArray):Prop:=∃ a b:UInt8,2<s.size/\s[s.size-2]? = some a/\s[s.size-1]? = some b/\a.toNat=46/\49<=b.toNat/\b.toNat<=51
open Classical in
def Y96(s:ByteArray):ByteArray:=if Q27 s then s.extract 0 (s.size-2) else s
open Classical in
def C37(s:ByteArray):Bool:=decide (R118 (Y96 s))
theorem Z127(s:ByteArray):(Y96 s).size<=s.size:=by
 unfold Y96
 split
 .rw[ByteArray.size_extract];omega
 .exact aD _
theorem Q132(h1:2<s.size)(ha:s[s.size-2]? = some a)(hb:s[s.size-1]? = some b)(q1:a.toNat=46)(q2:49<=b.toNat)(q3:b.toNat<=51):Y96 s=s.extract 0 (s.size-2):=if_pos ⟨a,b,h1,ha,hb,q1,q2,q3⟩
theorem W125(h1:¬ 2<s.size):Y96 s=s:=if_neg fun⟨_,_,h,_⟩=>h1 h
theorem G120(ha:s[s.size-2]? = some a)(hb:s[s.size-1]? = some b)(h:¬ (a.toNat=46/\49<=b.toNat/\b.toNat<=51)):Y96 s=s:=if_neg fun⟨a',b',_,E,B,q1,q2,q3⟩=>by
 rw[ha] at E;rw[hb] at B
 cases E;cases B
 exact h ⟨q1,q2,q3⟩
theorem E146(s:ByteArray)(H:Y0)(nx:Nat)(hs:s.size<=1000000):Q2 gQ 64 [.string s] H nx fun r H' nx' => .bool (C37 s)=r/\H=H'/\nx=nx':=by
 refine spec64 ?_;unfold F64;refine N5 (fun L H' nx'=>L=[.string (Y96 s)]/\H=H'/\nx=nx') ?_ ?_
 .intro j hj
  by_cases h1:2<s.size
  .obtain⟨a,ha⟩:=U121 (s:=s) (i:=s.size-2) O0
   obtain⟨b,hb⟩:=U121 (s:=s) (i:=s.size-1) O0;have e1:(s.size:Int)-2=((s.size-2:Nat):Int):=O0;have e2:((s.size-2:Nat):Int)+1=((s.size-1:Nat):Int):=O0;have ea:=fun k=>W117 ha .i64 k
   have eb:=fun k=>W117 hb .i64 k
   have et:=fun k=>Z130 (s:=s) (h:=s.size-2) O0 k
   have g1:(0:Int)<((s.size-2:Nat):Int):=O0
   by_cases q1:a.toNat=46
   .have B:decide ((a.toNat:Int)=46)=true:=by simp;omega
    by_cases q2:49<=b.toNat
    .have E:(49:Int)<=(b.toNat:Int):=O0
     by_cases q3:b.toNat<=51
     .have J:(b.toNat:Int)<=51:=O0
      simp(disch:=try exact O3)only[W0,N13,e1,e2,ea,eb,et,g1,B,E,J];exact hj _ _ _ ⟨by rw[Q132 h1 ha hb q1 q2 q3],rfl,rfl⟩
     .have J:¬ (b.toNat:Int)<=51:=O0
      simp(disch:=try exact O3)only[W0,N13,e1,e2,ea,eb,et,g1,B,E,J];exact hj _ _ _ ⟨by rw[G120 ha hb (fun h=>q3 h.2.2)],rfl,rfl⟩
    .have E:¬ (49:Int)<=(b.toNat:Int):=O0
     simp(disch:=try exact O3)only[W0,N13,e1,e2,ea,eb,et,g1,B,E];exact hj _ _ _ ⟨by rw[G120 ha hb (fun h=>q2 h.2.1)],rfl,rfl⟩
   .have B:decide ((a.toNat:Int)=46)=false:=by simp;omega
    simp(disch:=try exact O3)only[W0,N13,e1,e2,ea,eb,et,g1,B];exact hj _ _ _ ⟨by rw[G120 ha hb (fun h=>q1 h.1)],rfl,rfl⟩
  .have g1:¬ (0:Int)<(s.size:Int)-2:=O0
   simp(disch:=try exact O3)only[W0,N13,g1];exact hj _ _ _ ⟨by rw[W125 h1],rfl,rfl⟩
 .rintro _ _ _ ⟨rfl,rfl,rfl⟩
  simp(disch:=try exact O3)only[W0];refine R0 (X133 (Y96 s) H nx (bK (Z127 s) hs)) ?_;rintro _ _ _ ⟨⟨c,rfl,hc⟩,rfl,rfl⟩;simp(disch:=try exact O3)only[W0];congr 1;unfold C37
  cases c with
  | true=>simp[hc.1 rfl]
  | false=>simp;exact fun h=>by simpa using hc.2 h
theorem N145(s:ByteArray)(H:Y0)(nx:Nat)(hs:s.size<=1000000):Q2 gQ 78 [.string s] H nx fun r H' nx' => .bool (C37 s)=r/\H=H'/\nx=nx':=by
 refine spec78 ?_;unfold F78;simp only[R28];refine N5 (fun L H' nx'=>L=[.string (Y96 s)]/\H=H'/\nx=nx') ?_ ?_
 .intro j hj
  by_cases h1:2<s.size
  .obtain⟨a,ha⟩:=U121 (s:=s) (i:=s.size-2) O0
   obtain⟨b,hb⟩:=U121 (s:=s) (i:=s.size-1) O0;have e1:(s.size:Int)-2=((s.size-2:Nat):Int):=O0;have e2:(s.size:Int)-1=((s.size-1:Nat):Int):=O0;have ea:=fun k=>W117 ha .i64 k
   have eb:=fun k=>W117 hb .i64 k
   have et:=fun k=>Z130 (s:=s) (h:=s.size-2) O0 k
   have g1:(2:Int)<(s.size:Int):=O0
   by_cases q1:a.toNat=46
   .have B:decide ((a.toNat:Int)=46)=true:=by simp;omega
    by_cases q2:49<=b.toNat
    .have E:(49:Int)<=(b.toNat:Int):=O0
     by_cases q3:b.toNat<=51
     .have J:(b.toNat:Int)<=51:=O0
      simp(disch:=try exact O3)only[W0,N13,e1,e2,ea,eb,et,g1,B,E,J];exact hj _ _ _ ⟨by rw[Q132 h1 ha hb q1 q2 q3],rfl,rfl⟩
     .have J:¬ (b.toNat:Int)<=51:=O0
      simp(disch:=try exact O3)only[W0,N13,e1,e2,ea,eb,et,g1,B,E,J];exact hj _ _ _ ⟨by rw[G120 ha hb (fun h=>q3 h.2.2)],rfl,rfl⟩
    .have E:¬ (49:Int)<=(b.toNat:Int):=O0
     simp(disch:=try exact O3)only[W0,N13,e1,e2,ea,eb,et,g1,B,E];exact hj _ _ _ ⟨by rw[G120 ha hb (fun h=>q2 h.2.1)],rfl,rfl⟩
   .have B:decide ((a.toNat:Int)=46)=false:=by simp;omega
    simp(disch:=try exact O3)only[W0,N13,e1,e2,ea,eb,et,g1,B];exact hj _ _ _ ⟨by rw[G120 ha hb (fun h=>q1 h.1)],rfl,rfl⟩
  .have g1:¬ (2:Int)<(s.size:Int):=O0
   simp(disch:=try exact O3)only[W0,N13,g1];exact hj _ _ _ ⟨by rw[W125 h1],rfl,rfl⟩
 .rintro _ _ _ ⟨rfl,rfl,rfl⟩
  simp(disch:=try exact O3)only[W0];refine R0 (D145 (Y96 s) H nx (bK (Z127 s) hs)) ?_;rintro _ _ _ ⟨⟨c,rfl,hc⟩,rfl,rfl⟩;simp(disch:=try exact O3)only[W0];congr 1;unfold C37
  cases c with
  | true=>simp[hc.1 rfl]
  | false=>simp;exact fun h=>by simpa using hc.2 h
theorem Y150(s:ByteArray)(H:Y0)(nx:Nat)(hs:s.size<=1000000):Q2 gQ 63 [.string s] H nx fun r H' nx' => .bool (!C37 s)=r/\H=H'/\nx=nx':=by
 refine spec63 ?_;unfold F63;refine R0 (E146 s H nx hs) ?_;rintro _ _ _ ⟨rfl,rfl,rfl⟩;simp(disch:=try exact O3)only[W0]
def N39(vs:List ByteArray):Prop:=∀ s ∈ vs,s.size<=60
theorem N39.get{vs:List ByteArray}(h:N39 vs){i:Nat}(hi:vs[i]? = some s):s.size<=60:=h s (aH hi)
theorem D146(A:Option Addr)(vs:List ByteArray)(cap:Nat)(H:Y0)(nx:Nat)(hS:Sl H nx A (N0 vs))(hv:N39 vs)(hl:vs.length<=1000000):Q2 gQ 92 [.slice A vs.length cap,.func (.func 63) ⟨[]⟩ ⟨[]⟩] H nx fun r H' nx'=>(∃ x:Int,r=O8 x/\(0<=x<->∃ s ∈ vs,C37 s=false))/\H=H'/\nx=nx':=by
 refine spec92 ?_;unfold F92;simp(disch:=try exact O3)only[W0];refine B1 (fun m L H' nx'=>∃ i:Nat,m+i=vs.length/\L=[O8 (i:Int)]/\(∀(j:Nat) (s:ByteArray),j<i->vs[j]? = some s->C37 s=true)/\H=H'/\nx=nx') ?_ (m:=vs.length) ⟨0,O0,rfl,fun j s hj=>O0,rfl,rfl⟩;rintro m ih L _ _ ⟨i,hm,rfl,J,rfl,rfl⟩ R;simp(disch:=try exact O3)only[W0]
 by_cases hi:i<vs.length
 .have B:(i:Int)<(vs.length:Int):=O0
  obtain⟨b,o,row,rfl,hb,M,O⟩:=hS.open (i:=i) (by rw[W2];exact hi);have E:vs[i]? = some vs[i]:=aE hi;simp(disch:=try exact O3)only[W0,B,X3 M,O _ _ (B6 E)];refine V22 (Y150 vs[i] H nx (by have:=hv.get E;omega)) ?_;rintro _ _ _ ⟨rfl,rfl,rfl⟩
  cases hb:C37 vs[i] with
  | false=>
   simp(disch:=try exact O3)only[W0];exact⟨_,rfl,fun _=>⟨_,List.getElem_mem hi,hb⟩,fun _=>O0⟩
  | true=>
   simp(disch:=try exact O3)only[W0];exact R (m-1) _ _ _ O0 ⟨i+1,O0,O2,fun j s hj hs=>by
    by_cases Q:j=i
    .subst Q;rw[E] at hs;cases hs;exact hb
    .exact J j s O0 hs,rfl,rfl⟩
 .have B:¬ (i:Int)<(vs.length:Int):=O0
  simp(disch:=try exact O3)only[W0,B];refine⟨_,rfl,fun h=>absurd h O0,fun⟨s,hs,hb⟩ => ?_⟩;obtain⟨j,hj⟩:=List.mem_iff_getElem?.1 hs;have:=J j s (by have:=(aJ.1 hj).1;omega) hj;rw[hb] at this;cases this
theorem C149(A:Option Addr)(vs:List ByteArray)(cap:Nat)(H:Y0)(nx:Nat)(hS:Sl H nx A (N0 vs))(hv:N39 vs)(hl:vs.length<=1000000):Q2 gQ 62 [.slice A vs.length cap,.func (.func 63) ⟨[]⟩ ⟨[]⟩] H nx fun r H' nx'=>(∃ c:Bool,r = .bool c/\(c=true<->∃ s ∈ vs,C37 s=false))/\H=H'/\nx=nx':=by
 refine spec62 ?_;unfold F62;refine R0 (D146 A vs cap H nx hS hv hl) ?_;rintro _ _ _ ⟨⟨x,rfl,hx⟩,rfl,rfl⟩;simp(disch:=try exact O3)only[W0];exact⟨_,rfl,by rw[decide_eq_true_eq];exact hx⟩
open Classical in
def B7(vs:List ByteArray):Int:=if ∃ s ∈ vs,C37 s=false then 7 else if vs.Nodup then 0 else 8
theorem U146(A:Option Addr)(vs:List ByteArray)(cap:Nat)(H:Y0)(nx:Nat)(hS:Sl H nx A (N0 vs))(hv:N39 vs)(hl:vs.length<=1000000):Q2 gQ 49 [.slice A vs.length cap] H nx fun r H' nx'=>O8 (B7 vs)=r/\H=H'/\nx<=nx':=by
 refine spec49 ?_;unfold F49;refine B1 (fun m L H' nx'=>∃ i:Nat,m+i=vs.length/\L=[O8 (i:Int)]/\(∀(j:Nat) (s:ByteArray),j<i->vs[j]? = some s->C37 s=true)/\H=H'/\nx=nx') ?_ (m:=vs.length) ⟨0,O0,rfl,fun j s hj=>O0,rfl,rfl⟩;rintro m ih L _ _ ⟨i,hm,rfl,a1,rfl,rfl⟩ a8;simp(disch:=try exact O3)only[W0]
 by_cases hi:i<vs.length
 .have U:(i:Int)<(vs.length:Int):=O0
  obtain⟨b,o,row,rfl,hb,E,B⟩:=hS.open (i:=i) (by rw[W2];exact hi);have Z:vs[i]? = some vs[i]:=aE hi;simp(disch:=try exact O3)only[W0,U,X3 E,B _ _ (B6 Z)];refine R0 (N145 vs[i] H nx (by have:=hv.get Z;omega)) ?_;rintro _ _ _ ⟨rfl,rfl,rfl⟩
  cases hb:C37 vs[i] with
  | false=>
   simp(disch:=try exact O3)only[W0];exact by
    unfold B7;rw[if_pos ⟨_,List.getElem_mem hi,hb⟩]
  | true=>
   simp(disch:=try exact O3)only[W0];exact a8 (m-1) _ _ _ O0 ⟨i+1,O0,O2,fun j s hj hs=>by
    by_cases a7:j=i
    .subst a7;rw[Z] at hs;cases hs;exact hb
    .exact a1 j s O0 hs,rfl,rfl⟩
 .have U:¬ (i:Int)<(vs.length:Int):=O0
  have Q:¬ ∃ s ∈ vs,C37 s=false:=fun⟨s,hs,hb⟩=>by
   obtain⟨j,hj⟩:=List.mem_iff_getElem?.1 hs;have:=a1 j s (by have:=(aJ.1 hj).1;omega) hj;rw[hb] at this;cases this
  simp(disch:=try exact O3)only[W0,U];refine B1 (fun m L H' nx'=>∃ p:Nat,m+p=vs.length/\L=[O8 (p:Int)]/\(∀(j q:Nat) (s t:ByteArray),j<q->q<p->vs[j]? = some s->vs[q]? = some t->s≠t)/\H=H'/\nx<=nx') ?_ (m:=vs.length) ⟨0,O0,rfl,fun j q s t h1 h2=>O0,rfl,aD _⟩;rintro m2 ae L _ n1 ⟨p,aa,rfl,O,rfl,a2⟩ a4;simp(disch:=try exact O3)only[W0]
  by_cases hp:p<vs.length
  .have J:(p:Int)<(vs.length:Int):=O0
   simp(disch:=try exact O3)only[W0,J];have a0:vs[p]? = some vs[p]:=aE hp;refine B1 (fun m L H' nx'=>∃ q:Nat,m+q=p/\L=[O8 (q:Int)]/\(∀(j:Nat) (s:ByteArray),j<q->vs[j]? = some s->s≠vs[p])/\H=H'/\nx<=nx') ?_ (m:=p) ⟨0,O0,rfl,fun j s h=>O0,rfl,a2⟩;rintro m3 ad L _ n2 ⟨q,ab,rfl,R,rfl,a6⟩ a3;simp(disch:=try exact O3)only[W0]
   by_cases hq:q<p
   .have M:(q:Int)<(p:Int):=O0
    obtain⟨b,o,row,rfl,hb,E,B⟩:=hS.open (i:=p) (by rw[W2];exact hp);have V:vs[q]? = some vs[q]:=aE O0
    by_cases he:vs[p]=vs[q]
    .have Y:decide (vs[p]=vs[q])=true:=by simp[he]
     simp(disch:=try exact O3)only[W0,M,X3 E,B _ _ (B6 a0),B _ _ (B6 V),K5,Y];refine⟨?_,O0⟩;unfold B7;rw[if_neg Q,if_neg];intro a5;have:=(List.nodup_iff_pairwise_ne.1 a5)
     rw[fD] at this;exact this q p O0 hp hq he.symm
    .have Y:decide (vs[p]=vs[q])=false:=by simp[he]
     simp(disch:=try exact O3)only[W0,M,X3 E,B _ _ (B6 a0),B _ _ (B6 V),K5,Y];exact a3 (m3-1) _ _ _ O0 ⟨q+1,O0,O2,fun j s hj hs=>by
      by_cases W:j=q
      .subst W;rw[V] at hs;cases hs;exact fun h=>he h.symm
      .exact R j s O0 hs,rfl,O0⟩
   .have M:¬ (q:Int)<(p:Int):=O0
    simp(disch:=try exact O3)only[W0,M];exact a4 (m2-1) _ _ _ O0 ⟨p+1,O0,O2,fun j q' s t h1 h2 hs ht=>by
     by_cases a9:q'=p
     .subst a9;rw[a0] at ht;cases ht;exact R j s O0 hs
     .exact O j q' s t h1 O0 hs ht,rfl,a6⟩
  .have J:¬ (p:Int)<(vs.length:Int):=O0
   simp(disch:=try exact O3)only[W0,J];refine⟨?_,a2⟩;unfold B7;rw[if_neg Q,if_pos];rw[List.nodup_iff_pairwise_ne,fD];intro j q hj hq W;exact O j q _ _ W O0 (aE hj) (aE hq)
end
section
variable {H:Y0} {b n sl:Nat} {c:List Value}
theorem X127{l:Nat}(h:l<=n):Y13 (some (O8 (l:Int))) n=some l:=by
 show(cond (dD l n) (some l) none)=some l;rw[V6 h];rfl
theorem Z129(B:sl=0\/sl=1):∃ x,N8 (.cells c sl) 0 n 1=some x:=by
 rcases B with rfl | rfl
 .exact⟨_,rfl⟩
 .exact⟨_,rfl⟩
theorem U136{l:Nat}(hg:J0 H b=some (.cells c sl))(hl:l<n)(B:sl=0\/sl=1)(k:VP):U5 (.slice (some ⟨b,0,none⟩) n n) 1 (some (O8 (l:Int))) none none H k=k (.slice (some ⟨b,l,none⟩) (n-l) (n-l)):=by
 obtain⟨x,hx⟩:=Z129 (c:=c) (n:=n) B;have e:B26 (some ⟨b,0,none⟩) n n 1 (some (O8 (l:Int))) none none x=some (.slice (some ⟨b,l,none⟩) (n-l) (n-l)):=by
  simp only[B26,hiA,loA,X127 (eG hl)];simp only[Y13,K43 (show n≠l by omega),V6 (show l<=n by omega)];simp
 unfold U5;dsimp only;rw[Y4,hg];simp only[aN,slB];rw[hx];dsimp only;rw[e];exact E7 _ _
theorem D141{h:Nat}(hg:J0 H b=some (.cells c sl))(hh:h<=n)(B:sl=0\/sl=1)(k:VP):U5 (.slice (some ⟨b,0,none⟩) n n) 1 none (some (O8 (h:Int))) none H k=k (.slice (some ⟨b,0,none⟩) h n):=by
 obtain⟨x,hx⟩:=Z129 (c:=c) (n:=n) B;have e:B26 (some ⟨b,0,none⟩) n n 1 none (some (O8 (h:Int))) none x=some (.slice (some ⟨b,0,none⟩) h n):=by
  simp only[B26,hiA,loA];simp only[Y13,D13,V6 (aL n),V6 hh,cond_true]
  cases bR n 0<;>simp
 unfold U5;dsimp only;rw[Y4,hg];simp only[aN,slB];rw[hx];dsimp only;rw[e];exact E7 _ _
theorem Y124(z:ByteArray):∀ m,Q19 [.string z] m=N0 (aF m z)
 | 0=>rfl
 | m+1=>by rw[Q19,Y124 z m];rfl
theorem X140{H:Y0}{o m c:Nat}(z:ByteArray)(hm:0<m)(k:Y0->Prop):G139 (.slice (some ⟨b,o,none⟩) m c) [.string z] H k=stP (J0 H b) o (N0 (aF m z)) fun blk=>k (hs H b (some blk)):=by
 unfold G139;dsimp only;rw[K43 (show m≠0 by omega),Y124,K93];exact J30 _ _ _ _ _
theorem N46(a b:ByteArray)(k:VP):D10 .neq (.string a) (.string b) k=k (.bool (!decide (a=b))):=by
 rw[X6];have e:(a.toList==b.toList)=decide (a=b):=by
  rw[eX,beq_iff_eq,decide_eq_true_eq];exact⟨fun h=>J113 h,fun h=>by rw[h]⟩
 simp only[R9,K53,aN,e]
theorem M127{l:List ByteArray}{i:Nat}{x:ByteArray}(h:i<l.length):B12 (N0 l) i [.string x]=N0 (l.set i x):=by
 rw[N31 (by rw[W2];exact h)];simp[N0,List.map_set]
def U134(ys:List ByteArray):Prop:=∀(i:Nat) (s t:ByteArray),ys[i]? = some s->ys[i+1]? = some t->s≠t
theorem W141(lo:Nat)(v:Value)(ys:List ByteArray)(H0 H:Y0)(nx:Nat)(hA:J6 lo H nx 1 v ys.length (N0 ys))(hE:D0 H0 lo H nx)(hl:ys.length<=1000):Q2 gQ 67 [v] H nx fun r H' nx'=>(∃ A n c,r = .slice A n c/\(n=ys.length<->U134 ys))/\D0 H0 lo H' nx':=by
 refine spec67 ?_;unfold F67;rcases hA.2 with ⟨h0,rfl⟩ | ⟨b,Z,ab,rfl,hg⟩
 .have d:((0:Nat):Int)<2:=O0
  simp(disch:=try exact O3)only[W0,d];have:ys=[]:=List.eq_nil_of_length_eq_zero h0;subst this;exact⟨⟨none,0,0,rfl,fun _ i s t h=>by simp at h,fun _=>rfl⟩,hE⟩
 by_cases h2:ys.length<2
 .have d:(ys.length:Int)<2:=O0
  simp(disch:=try exact O3)only[W0,d];refine⟨⟨_,_,_,rfl,fun _ i s t h1 O => ?_,fun _=>rfl⟩,hE⟩;have:=(aJ.1 O).1;omega
 have d:¬ (ys.length:Int)<2:=O0;simp(disch:=try exact O3)only[W0,d];refine B1 (fun m L H' nx'=>∃ k:Nat,m+k=ys.length/\1<=k/\L=[O8 (k:Int)]/\(∀(i:Nat) (s t:ByteArray),i+1<k->ys[i]? = some s->ys[i+1]? = some t->s≠t)/\H=H'/\nx<=nx') ?_ (m:=ys.length-1) ⟨1,O0,aD _,rfl,fun i s t h=>O0,rfl,aD _⟩;rintro m ih L _ n1 ⟨k,hm,aa,rfl,Y,rfl,a3⟩ a5;simp(disch:=try exact O3)only[W0]
 by_cases hk:k<ys.length
 .have M:(k:Int)<(ys.length:Int):=O0
  have ek:ys[k]? = some ys[k]:=aE hk;have E:ys[k-1]? = some ys[k-1]:=aE O0;have e1:(k:Int)-1=((k-1:Nat):Int):=O0
  by_cases he:ys[k]=ys[k-1]
  .have V:decide (ys[k]=ys[k-1])=true:=by simp[he]
   simp(disch:=try exact O3)only[W0,M,e1,hg,B6 ek,B6 E,K5,V,U136 hg hk (.inr rfl)];refine B1 (fun m L H' nx'=>∃(p q:Nat) (zs:List ByteArray),m+q=ys.length-k/\1<=q/\q<=ys.length-k/\k<=p/\p+1<=k+q/\L=[O8 (p:Int),O8 (q:Int)]/\zs.length=ys.length/\J0 H' b=some (.cells (N0 zs) 1)/\D0 H0 lo H' nx') ?_ (m:=ys.length-k-1) ⟨k,1,ys,O0,aD _,O0,aD _,O0,rfl,rfl,hg,hE.more O0⟩;rintro m2 ad L H2 n2 ⟨p,q,zs,a8,ae,hq,a2,hp,rfl,hz,B,W⟩ Q;simp(disch:=try exact O3)only[W0]
   by_cases a7:q<ys.length-k
   .have J:(q:Int)<((ys.length-k:Nat):Int):=O0
    have ez:zs[k+q]? = some (zs[k+q]'O0):=aE O0;have R:zs[k+(q-1)]? = some (zs[k+(q-1)]'O0):=aE O0;have e2:(q:Int)-1=((q-1:Nat):Int):=O0;have a9:(p:Int)<(ys.length:Int):=O0;generalize (zs[k+q]'O0)=z at ez;generalize (zs[k+(q-1)]'O0)=z' at R
    by_cases a1:z=z'
    .have U:decide (z=z')=true:=by simp[a1]
     simp(disch:=try exact O3)only[W0,N13,J,e2,B,B6 ez,B6 R,N46,U];exact Q (m2-1) _ _ _ O0 ⟨p,q+1,zs,O0,O0,O0,a2,O0,O2,hz,B,W.more O0⟩
    .have U:decide (z=z')=false:=by simp[a1]
     simp(disch:=try exact O3)only[W0,N13,J,e2,B,B6 ez,B6 R,N46,U,W2];refine⟨O0,?_⟩;exact Q (m2-1) _ _ _ O0 ⟨p+1,q+1,zs.set p z,O0,O0,O0,O0,O0,O2,by simp[hz],by rw[Z11,M127 O0],(W.hs Z).more O0⟩
   .have J:¬ (q:Int)<((ys.length-k:Nat):Int):=O0
    have a0:p<ys.length:=O0;simp(disch:=try exact O3)only[W0,J,U136 B a0 (.inr rfl),X140,B,W2,iC];refine⟨O0,?_⟩;rw[D141 (Z11 _ _ _) (eG a0) (.inr rfl)];refine⟨⟨_,_,_,rfl,fun h=>absurd h O0,fun h => ?_⟩,W.hs Z⟩;have a6:ys[k-1+1]? = some ys[k]:=by rw[show k-1+1=k by omega];exact ek
    exact absurd he.symm (h (k-1) _ _ E a6)
  .have V:decide (ys[k]=ys[k-1])=false:=by simp[he]
   simp(disch:=try exact O3)only[W0,M,e1,hg,B6 ek,B6 E,K5,V];exact a5 (m-1) _ _ _ O0 ⟨k+1,O0,O0,O2,fun i s t h1 hs ht=>by
    by_cases a4:i+1=k
    .subst a4
     rw[ek] at ht;cases ht;have:ys[i]? = some ys[i+1-1]:=E;rw[this] at hs;cases hs;exact fun h=>he h.symm
    .exact Y i s t O0 hs ht,rfl,O0⟩
 .have M:¬ (k:Int)<(ys.length:Int):=O0
  simp(disch:=try exact O3)only[W0,M];refine⟨⟨_,_,_,rfl,fun _ i s t h1 O => ?_,fun _=>rfl⟩,hE.more a3⟩;have:=(aJ.1 O).1;exact Y i s t O0 h1 O
theorem Y143(v:Value)(A:Option Addr)(n cap:Nat)(H:Y0)(nx:Nat):Q2 gQ 66 [.slice A n cap] H nx fun r H' nx' => .func (.func 96) ⟨[]⟩ ⟨[.pointer (some ⟨nx,0,none⟩)]⟩=r/\hs H nx (O7 [.slice A n cap])=H'/\nx+1=nx':=by
 refine spec66 ?_;unfold F66;simp(disch:=try exact O3)only[W0,Q0.val]
theorem U126(zs:List ByteArray):(K65 zs).Perm zs:=by
 have h:((bytesOf zs).mergeSort fun x y=>decide (x<=y)).Perm (bytesOf zs):=List.mergeSort_perm _ _;have h2:=h.map fun l:List UInt8=>(⟨l.toArray⟩:ByteArray)
 have e:(bytesOf zs).map (fun l:List UInt8=>(⟨l.toArray⟩:ByteArray))=zs:=by
  simp[bytesOf,List.map_map,Function.comp_def]
 rw[e] at h2;exact h2
theorem R123(zs:List ByteArray):(K65 zs).length=zs.length:=(U126 zs).length_eq
theorem N135(zs:List ByteArray):(K65 zs).Pairwise fun a b=>a.data.toList<=b.data.toList:=by
 have h:((bytesOf zs).mergeSort fun x y=>decide (x<=y)).Pairwise fun x y=>decide (x<=y)=true:=
  List.pairwise_mergeSort (fun a b c h1 h2=>by simp only[decide_eq_true_eq] at *;exact List.le_trans h1 h2) (fun a b=>by
   simp only[cO,decide_eq_true_eq];exact List.le_total a b) _
 unfold K65;rw[List.pairwise_map];exact h.imp fun h=>by simpa using h
theorem Q133:∀(ys:List ByteArray),ys.Pairwise (fun a b=>a.data.toList<=b.data.toList)->U134 ys->ys.Nodup
 | [],_,_=>List.nodup_nil
 | [x],_,_=>O2
 | x :: y :: r,hp,ha=>by
  have h1:=Q133 (y :: r) (iH.1 hp).2 fun i s t hs ht=>ha (i+1) s t (by simpa using hs) (by simpa using ht)
  rw[hO];refine⟨fun hx => ?_,h1⟩;have B:x≠y:=ha 0 x y rfl rfl;rcases aU.1 hx with h | h
  .exact B h
  .have a1:=(iH.1 hp).1 y O2
   have a2:=(iH.1 (iH.1 hp).2).1 x h;exact B (by
    have:=List.le_antisymm a1 a2
    cases x;cases y;simpa using this)
theorem Q141{ys:List ByteArray}(h:ys.Nodup):U134 ys:=fun i s t hs ht=>by
 obtain⟨h1,rfl⟩:=aJ.1 hs;obtain⟨h2,rfl⟩:=aJ.1 ht;have:=fD.1 h;exact this i (i+1) h1 h2 O0
theorem E139(zs:List ByteArray):U134 (K65 zs)<->zs.Nodup:=
 ⟨fun h=>(U126 zs).nodup_iff.1 (Q133 _ (N135 zs) h),fun h=>Q141 ((U126 zs).nodup_iff.2 h)⟩
theorem G135(A:Option Addr)(vs:List ByteArray)(cap:Nat)(H:Y0)(nx:Nat)(hS:Sl H nx A (N0 vs))(hW:Y18 H nx A vs.length cap)(hv:N39 vs)(hl:vs.length<=1000):Q2 gQ 34 [.slice A vs.length cap] H nx fun r H' nx'=>O8 (B7 vs)=r/\D0 H nx H' nx':=by
 refine spec34 ?_;unfold F34;refine R0 (C149 A vs cap H nx hS hv O0) ?_;rintro _ _ _ ⟨⟨c,rfl,hc⟩,rfl,rfl⟩
 cases c with
 | true=>
  simp(disch:=try exact O3)only[W0];refine⟨?_,D0.refl _ _⟩;unfold B7;rw[if_pos (hc.1 rfl)]
 | false=>
  have E:¬ ∃ s ∈ vs,C37 s=false:=fun h=>by simpa using hc.2 h
  simp(disch:=try exact O3)only[W0];refine R0 (Y143 undef A vs.length cap H nx) ?_;rintro _ _ _ ⟨rfl,rfl,rfl⟩;have hX:D0 H nx (hs H nx (O7 [.slice A vs.length cap])) (nx+1):=(D0.refl H nx).nw _;refine R0 (E147 nx A vs cap _ (nx+1) (Z11 _ _ _) O0 (hS.ext hX) (hW.ext hX) hl) ?_;rintro v H2 n2 ⟨J,M⟩;rw[<- R123 vs] at J;refine R0 (W141 (nx+1) v (K65 vs) _ H2 n2 J M (by rw[R123];exact hl)) ?_;rintro _ H3 n3 ⟨⟨A',n,c',rfl,hn⟩,L⟩;rw[E139,R123] at hn
  by_cases B:vs.Nodup
  .have:=hn.2 B
   subst this;have d:decide ((vs.length:Int)≠(vs.length:Int))=false:=O2;simp(disch:=try exact O3)only[W0,d];refine⟨?_,hX.trans L⟩;unfold B7;rw[if_neg E,if_pos B]
  .have O:n≠vs.length:=fun h=>B (hn.1 h)
   have d:decide ((n:Int)≠(vs.length:Int))=true:=by simp;omega
   simp(disch:=try exact O3)only[W0,d];refine⟨?_,hX.trans L⟩;unfold B7;rw[if_neg E,if_neg B]
theorem X142(A:Option Addr)(vs:List ByteArray)(cap:Nat)(H:Y0)(nx:Nat)(hS:Sl H nx A (N0 vs))(B:U9 H nx A)(hcap:A=none->cap=0)(hv:N39 vs)(hl:vs.length<=1000):Q2 gQ 34 [.slice A vs.length cap] H nx fun r H' nx'=>O8 (B7 vs)=r/\D0 H nx H' nx':=
 G135 A vs cap H nx hS (.inl ⟨B,hcap⟩) hv hl
end
def C4:List ByteArray:=[⟨#[97,99,99,101,112,116,101,100]⟩,⟨#[99,121,99,108,105,99]⟩,⟨#[112,97,116,104]⟩,⟨#[116,114,105,111]⟩]
theorem R126(s z:ByteArray)(k:List Value->Prop):K6 1 1 [.string z] [(0,.string s)] k=k [.string s]:=by
 rw[Q66];show(if Z0 [aB s]=true then k [aB s] else False)=_;exact if_pos (show Z0 [aB s]=true from rfl)
theorem C143(K:IntKind)(s z:Int)(k:List Value->Prop):K6 1 1 [.int K z] [(0,.int K s)] k=k [.int K s]:=by
 rw[Q66];show(if Z0 [cD K s]=true then k [cD K s] else False)=_;exact if_pos (show Z0 [cD K s]=true from rfl)
theorem G131(k:List Value->Prop):K6 4 1 [.string ⟨#[]⟩] [(0,(.string ⟨#[97,99,99,101,112,116,101,100]⟩)),(1,(.string ⟨#[99,121,99,108,105,99]⟩)),(2,(.string ⟨#[112,97,116,104]⟩)),(3,(.string ⟨#[116,114,105,111]⟩))] k=k (N0 C4):=by
 rw[Q66];show(if Z0 (N0 C4)=true then k (N0 C4) else False)=_;exact if_pos (show Z0 (N0 C4)=true from rfl)
theorem D137(H:Y0)(nx:Nat):Q2 gQ 35 [] H nx fun r H' nx' => .slice (some ⟨nx,0,none⟩) 4 4=r/\hs H nx (O7 (N0 C4))=H'/\nx+1=nx':=by
 refine spec35 ?_;unfold F35;simp(disch:=try exact O3)only[W0,Q0.val,G131]
theorem X147(H:Y0)(nx:Nat):Q2 gQ 50 [] H nx fun r H' nx' => .slice (some ⟨nx,0,none⟩) 4 4=r/\hs H nx (O7 (N0 C4))=H'/\nx+1=nx':=by
 refine spec50 ?_;unfold F50;simp(disch:=try exact O3)only[W0,Q0.val,G131]
def pick(vs:List ByteArray)(i:Int):Option ByteArray:=if 0<=i then vs[i.toNat]? else none
def G15(vs:List ByteArray):List Int->Option (List ByteArray)
 | []=>some []
 | i :: r=>match pick vs i with
  | some z=>(G15 vs r).map (z :: ·)
  | none=>none
theorem G125{vs:List ByteArray}{x:Int}{z:ByteArray}(hx:pick vs x=some z):∀ {l:List Int} {zs:List ByteArray},G15 vs l=some zs->G15 vs (l++[x])=some (zs++[z])
 | [],zs,h=>by
  cases h
  simp[G15,hx]
 | i :: r,zs,h=>by
  unfold G15 at h
  cases hp:pick vs i with
  | none=>rw[hp] at h;cases h
  | some y=>
   rw[hp] at h;obtain⟨ys,h1,rfl⟩:=bU.1 h;rw[dL,G15,hp,G125 hx h1]
   rfl
theorem G119{vs:List ByteArray}{x:Int}(hx:pick vs x=none):∀ {l:List Int},x ∈ l->G15 vs l=none
 | i :: r,h=>by
  rcases aU.1 h with rfl | h
  .rw[G15,hx]
  .rw[G15]
   cases pick vs i with
   | none=>rfl
   | some z=>rw[G119 hx h];rfl
theorem M46{vs:List ByteArray}:∀ {l:List Int} {zs:List ByteArray},G15 vs l=some zs->∀ z ∈ zs,z ∈ vs
 | [],zs,h=>by cases h;simp
 | i :: r,zs,h=>by
  unfold G15 at h
  cases hp:pick vs i with
  | none=>rw[hp] at h;cases h
  | some y=>
   rw[hp] at h;obtain⟨ys,h1,rfl⟩:=bU.1 h;intro z hz;rcases aU.1 hz with rfl | hz
   .unfold pick at hp
    split at hp
    .exact aH hp
    .cases hp
   .exact M46 h1 z hz
theorem B32{vs:List ByteArray}:∀ {l:List Int} {zs:List ByteArray},G15 vs l=some zs->zs.length=l.length
 | [],zs,h=>by cases h;rfl
 | i :: r,zs,h=>by
  unfold G15 at h
  cases hp:pick vs i with
  | none=>rw[hp] at h;cases h
  | some y=>
   rw[hp] at h;obtain⟨ys,h1,rfl⟩:=bU.1 h;simp[B32 h1]
theorem Z138(A B:Option Addr)(vs:List ByteArray)(l:List Int)(Y Z:Nat)(H:Y0)(nx:Nat)(hS:Sl H nx A (N0 vs))(hB:Sl H nx B (U4 l))(hl:l.length<=1000000):Q2 gQ 36 [.slice A vs.length Y,.slice B l.length Z] H nx fun r H' nx'=>(∀ zs,G15 vs l=some zs->∃ v,r = .tuple ⟨[v,O8 0]⟩/\E23 nx H' nx' v (N0 zs))/\(G15 vs l=none->r = .tuple ⟨[O6,O8 3]⟩)/\D0 H nx H' nx':=by
 refine spec36 ?_;unfold F36;simp(disch:=try exact O3)only[W0,Q0.val,U21];refine B1 (fun m L H' nx'=>∃(i:Nat) (v:Value) (zs:List ByteArray),m+i=l.length/\L=[v,O8 (i:Int)]/\G15 vs (l.take i)=some zs/\E23 nx H' nx' v (N0 zs)/\D0 H nx H' nx') ?_ (m:=l.length) ⟨0,_,[],O0,rfl,rfl,.inr ⟨rfl,nx,aD _,O0,rfl,Z11 _ _ _⟩,(D0.refl H nx).nw _⟩;rintro m ih L H1 n1 ⟨i,v,zs,hm,rfl,J,R,hE⟩ a2;simp(disch:=try exact O3)only[W0]
 by_cases hi:i<l.length
 .have E:(i:Int)<(l.length:Int):=O0
  obtain⟨b,o,row,rfl,hb,M,O⟩:=(hB.ext hE).open (i:=i) (by rw[X9];exact hi);have hx:l[i]? = some l[i]:=aE hi;generalize l[i]=x at hx;have Q:x ∈ l:=aH hx
  by_cases h1:x<0
  .simp(disch:=try exact O3)only[W0,N13,E,X3 M,O _ _ (Z9 hx),h1]
   have hp:pick vs x=none:=if_neg O0;have:=G119 hp Q;exact⟨(fun zs h=>by rw[this] at h;cases h),(by first | exact hE | exact⟨fun _=>trivial,hE⟩)⟩
  .by_cases h2:(vs.length:Int)<=x
   .simp(disch:=try exact O3)only[W0,N13,E,X3 M,O _ _ (Z9 hx),h1,h2]
    have hp:pick vs x=none:=by
     unfold pick;rw[if_pos O0,aT O0]
    have:=G119 hp Q;exact⟨(fun zs h=>by rw[this] at h;cases h),(by first | exact hE | exact⟨fun _=>trivial,hE⟩)⟩
   .obtain⟨b2,o2,a3,rfl,a4,V,U⟩:=(hS.ext hE).open (i:=x.toNat) (by rw[W2];omega)
    have hz:vs[x.toNat]? = some (vs[x.toNat]'O0):=aE O0;generalize (vs[x.toNat]'O0)=z at hz;have hp:pick vs x=some z:=by unfold pick;rw[if_pos O0,hz]
    simp(disch:=try exact O3)only[W0,N13,E,X3 M,O _ _ (Z9 hx),h1,h2,X3 V,U _ _ (B6 hz),R126];have a1:D0 H nx (hs H1 n1 (O7 [.string z])) (n1+1):=hE.new _ hE.le O0;refine K38 (R.ext ((D0.refl H1 n1).nw _)) (J9 (Z11 _ _ _) rfl O0) rfl O0 (by rw[W2,B32 J,cK];omega) a1 (by have:=hE.le;omega) ?_;intro v' H' W a0 _;refine a2 (m-1) _ _ _ O0 ⟨i+1,v',zs++[z],O0,O2,?_,by simpa [N0] using W,a0⟩;rw[List.take_add_one,hx];exact G125 hp J
 .have E:¬ (i:Int)<(l.length:Int):=O0
  simp(disch:=try exact O3)only[W0,E];rw[gJ O0] at J;exact⟨(fun a5 h=>by rw[J] at h;cases h;exact⟨_,rfl,R⟩),(fun h=>by rw[J] at h;cases h),hE⟩
theorem E0(a b:ByteArray)(h:a.size+b.size<=1000000)(k:VP):D10 .add (.string a) (.string b) k=k (.string (a++b)):=by
 rw[X6];have:¬ (((a.size+b.size:Nat):Int) > IntKind.i64.max):=by
  have:IntKind.i64.max=9223372036854775807:=by decide
  omega
 simp only[R9,K53,if_neg this,aN]
def sp:ByteArray:=⟨#[32]⟩
def D35(zs:List ByteArray):ByteArray:=zs.foldl (fun s z=>s++sp++z) ⟨#[]⟩
theorem D133(zs:List ByteArray)(z:ByteArray):D35 (zs++[z])=D35 zs++sp++z:=by simp[D35,List.foldl_append]
theorem D53{B:Nat}(zs:List ByteArray)(h:∀ z ∈ zs,z.size<=B):(D35 zs).size<=(B+1)*zs.length:=by
 have:∀(zs:List ByteArray) (s:ByteArray),(∀ z ∈ zs,z.size<=B)->(zs.foldl (fun s z=>s++sp++z) s).size<=s.size+(B+1)*zs.length:=by
  intro zs
  induction zs with
  | nil=>intro s _;simp
  | cons z zs ih=>
   intro s h;have h1:=ih (s++sp++z) fun y hy=>h y (eJ _ hy)
   have h2:=h z O2;have h3:(s++sp++z).size=s.size+1+z.size:=by rw[aA,aA];rfl
   simp only[dF,cV,bJ,eQ];omega
 have:=this zs ⟨#[]⟩ h;have e:(⟨#[]⟩:ByteArray).size=0:=rfl;unfold D35;omega
theorem U128(zs:List ByteArray):(D35 zs).data.toList=bP [32] (zs.map (·.data.toList)):=by
 have:∀(zs:List ByteArray) (s:ByteArray),(zs.foldl (fun s z=>s++sp++z) s).data.toList=s.data.toList++bP [32] (zs.map (·.data.toList)):=by
  intro zs
  induction zs with
  | nil=>intro s;simp[bP]
  | cons z zs ih=>
   intro s;rw[dF,ih];have e:(s++sp++z).data.toList=s.data.toList++[32]++z.data.toList:=by
    rw[cZ,cZ];simp[sp]
   rw[e];simp[bP]
 rw[D35,this];simp
theorem M129(w:ByteArray)(zs:List ByteArray):U26 (w :: zs) sp=w++D35 zs:=by
 apply J113;rw[bB,bB,cZ,Array.toList_append,U128];simp only[U26,aC,Lib.join_cons,List.toList_toArray]
 rfl
theorem N131(f:ByteArray)(lo:Nat)(v:Value)(zs:List ByteArray)(H:Y0)(nx:Nat)(M:E23 lo H nx v (N0 zs))(hz:∀ z ∈ zs,z.size<=100)(hf:f.size<=60)(hl:zs.length<=1000):Q2 gQ 20 [.string f,v] H nx fun r H' nx' => .string (f++D35 zs)=r/\D0 H nx H' nx':=by
 refine spec20 ?_;unfold F20;obtain⟨A,rfl,hS,O⟩:=M.sl;have hX:D0 H nx (hs H nx (O7 [.string f])) (nx+1):=(D0.refl H nx).nw _;have B:(U26 (f :: zs) sp).size<=1000000:=by
  rw[M129,aA];have:=D53 zs hz;omega
 simp(disch:=try exact O3)only[W0,Q0.val,R126];have E:Go.Clo.Src (hs H nx (O7 [.string f])) 1 (.slice A (N0 zs).length (N0 zs).length) (N0 zs).length (N0 zs):=C27 (hS.ext hX) (O.ext hX) O2 O0
 by_cases h0:zs=[]
 .subst h0
  have J:Go.Clo.Src (hs H nx (O7 [.string f])) 1 (.slice A (N0 []).length (N0 []).length) 0 []:=E;rw[Y58 (Z11 _ _ _) (by rfl) J O0 O0];refine R0 (Q131 _ [f] sp 1 _ _ (fun i u hu=>⟨nx,0,[.string f],rfl,Nat.lt_succ_self _,by simp[Q5,Z11,V3.row],by simpa [N0] using hu⟩) O2 O2 O2 B) ?_;rintro _ _ _ ⟨rfl,rfl,rfl⟩;exact⟨by rw[M129],hX.h0⟩
 .have L:0<(N0 zs).length:=by rw[W2];exact List.length_pos_iff.2 h0
  have Q:=W2 zs;rw[K44 O0 (Z11 _ _ _) (by rfl) E L (K93 zs) O0 O0];have e1:1+(N0 zs).length=(f :: zs).length:=by rw[W2,cV];omega
  have e2:[aB f]++N0 zs=N0 (f :: zs):=rfl;rw[e1,e2];refine R0 (Q131 _ (f :: zs) sp _ _ _ (fun i u hu=>⟨nx+1,0,N0 (f :: zs),rfl,Nat.lt_succ_self _,by simp[Q5,Z11,V3.row],by simpa using hu⟩) O2 (aD _) O5 B) ?_;rintro _ _ _ ⟨rfl,rfl,rfl⟩;exact⟨by rw[M129],hX.nw _⟩
theorem Z143(f:ByteArray)(lo:Nat)(v:Value)(zs:List ByteArray)(H:Y0)(nx:Nat)(B:E23 lo H nx v (N0 zs))(hz:∀ z ∈ zs,z.size<=60)(hf:f.size<=60)(hl:zs.length<=1000):Q2 gQ 20 [.string f,v] H nx fun r H' nx' => .string (f++D35 zs)=r/\D0 H nx H' nx':=
 N131 f lo v zs H nx B (fun z h=>bK (hz z h) O0) hf hl
theorem G140(A B:Option Addr)(vs:List ByteArray)(l:List Int)(V W:Nat)(H:Y0)(nx:Nat)(hS:Sl H nx A (N0 vs))(hB:Sl H nx B (U4 l))(hv:N39 vs)(hl:l.length<=1000):Q2 gQ 32 [.slice A vs.length V,.slice B l.length W] H nx fun r H' nx'=>(∀ zs,G15 vs l=some zs -> .tuple ⟨[.string (D35 zs),O8 0]⟩=r)/\(G15 vs l=none -> .tuple ⟨[.string ⟨#[]⟩,O8 3]⟩=r)/\H=H'/\nx=nx':=by
 refine spec32 ?_;unfold F32;refine B1 (fun m L H' nx'=>∃(i:Nat) (zs:List ByteArray),m+i=l.length/\L=[.string (D35 zs),O8 (i:Int)]/\G15 vs (l.take i)=some zs/\H=H'/\nx=nx') ?_ (m:=l.length) ⟨0,[],O0,rfl,rfl,rfl,rfl⟩;rintro m ih L _ _ ⟨i,zs,hm,rfl,E,rfl,rfl⟩ Z;simp(disch:=try exact O3)only[W0]
 by_cases hi:i<l.length
 .have J:(i:Int)<(l.length:Int):=O0
  obtain⟨b,o,row,rfl,hb,M,O⟩:=hB.open (i:=i) (by rw[X9];exact hi);have hx:l[i]? = some l[i]:=aE hi;generalize l[i]=x at hx;have Q:x ∈ l:=aH hx
  by_cases h1:x<0
  .simp(disch:=try exact O3)only[W0,N13,J,X3 M,O _ _ (Z9 hx),h1]
   have hp:pick vs x=none:=if_neg O0;have:=G119 hp Q;exact⟨(fun zs h=>by rw[this] at h;cases h),fun _=>trivial⟩
  .by_cases h2:(vs.length:Int)<=x
   .simp(disch:=try exact O3)only[W0,N13,J,X3 M,O _ _ (Z9 hx),h1,h2]
    have hp:pick vs x=none:=by
     unfold pick;rw[if_pos O0,aT O0]
    have:=G119 hp Q;exact⟨(fun zs h=>by rw[this] at h;cases h),fun _=>trivial⟩
   .obtain⟨b2,o2,a3,rfl,a4,U,R⟩:=hS.open (i:=x.toNat) (by rw[W2];omega)
    have hz:vs[x.toNat]? = some (vs[x.toNat]'O0):=aE O0;generalize (vs[x.toNat]'O0)=z at hz;have hp:pick vs x=some z:=by unfold pick;rw[if_pos O0,hz]
    have a0:=hv.get hz;have Y:=D53 zs fun y hy=>hv y (M46 E y hy)
    rw[B32 E,cK] at Y;have a1:=fun k=>E0 (D35 zs) sp (by have:sp.size=1:=rfl;omega) k
    have a2:=fun k=>E0 (D35 zs++sp) z (by rw[aA];have:sp.size=1:=rfl;omega) k
    have e:(⟨#[32]⟩:ByteArray)=sp:=rfl;simp(disch:=try exact O3)only[W0,N13,J,X3 M,O _ _ (Z9 hx),h1,h2,X3 U,R _ _ (B6 hz),e,a1,a2];refine Z (m-1) _ _ _ O0 ⟨i+1,zs++[z],O0,by simp[D133],?_,rfl,rfl⟩;rw[List.take_add_one,hx];exact G125 hp E
 .have J:¬ (i:Int)<(l.length:Int):=O0
  simp(disch:=try exact O3)only[W0,J];rw[gJ O0] at E;exact⟨(fun a5 h=>by rw[E] at h;cases h;rfl),(fun h=>by rw[E] at h;cases h)⟩
section
variable {kind:Int} {l:List Int} {n:Nat} {vs:List ByteArray}
def Z38(vs:List ByteArray)(kind:Int)(l:List Int):ByteArray × Int:=
 if B7 vs≠0 then(⟨#[]⟩,B7 vs) else if kind<0\/3<kind then(⟨#[]⟩,2) else match G15 vs l with
 | none=>(⟨#[]⟩,3)
 | some zs=>(C4.getD kind.toNat ⟨#[]⟩++D35 zs,0)
def K75(p:ByteArray × Int):Value := .tuple ⟨[.string p.1,.int .i64 p.2]⟩
theorem B121{vs:List ByteArray}(h:B7 vs≠0)(kind:Int)(l:List Int):Z38 vs kind l=(⟨#[]⟩,B7 vs):=if_pos h
theorem G93{vs:List ByteArray}(h:B7 vs=0){kind:Int}(hk:kind<0\/3<kind)(l:List Int):Z38 vs kind l=(⟨#[]⟩,2):=by
 unfold Z38;rw[if_neg (by simp[h]),if_pos hk]
theorem Q121(h:B7 vs=0)(hk:¬ (kind<0\/3<kind))(hl:G15 vs l=none):Z38 vs kind l=(⟨#[]⟩,3):=by
 unfold Z38;rw[if_neg (by simp[h]),if_neg hk,hl]
theorem D79(h:B7 vs=0)(hk:¬ (kind<0\/3<kind)){zs:List ByteArray}(hl:G15 vs l=some zs):Z38 vs kind l=(C4.getD kind.toNat ⟨#[]⟩++D35 zs,0):=by
 unfold Z38;rw[if_neg (by simp[h]),if_neg hk,hl]
theorem C136(h:n<4):(N0 C4)[n]? = some (.string (C4.getD n ⟨#[]⟩)):=by
 match n,h with
 | 0,_=>rfl
 | 1,_=>rfl
 | 2,_=>rfl
 | 3,_=>rfl
theorem D127(h:n<4):(C4.getD n ⟨#[]⟩).size<=8:=by
 match n,h with
 | 0,_=>decide
 | 1,_=>decide
 | 2,_=>decide
 | 3,_=>decide
theorem D149(A B:Option Addr)(vs:List ByteArray)(kind:Int)(l:List Int)(J Q:Nat)(H:Y0)(nx:Nat)(hS:Sl H nx A (N0 vs))(hB:Sl H nx B (U4 l))(hv:N39 vs)(Y:vs.length<=1000)(hl:l.length<=1000):
  Q2 gQ 21 [.slice A vs.length J,O8 kind,.slice B l.length Q] H nx fun r H' nx'=>K75 (Z38 vs kind l)=r/\D0 H nx H' nx':=by
 refine spec21 ?_;unfold F21;refine R0 (U146 A vs J H nx hS hv O0) ?_;rintro _ _ n1 ⟨rfl,rfl,M⟩
 by_cases h0:B7 vs=0
 .have d:decide (B7 vs≠0)=false:=by simp[h0]
  by_cases L:kind<0
  .simp(disch:=try exact O3)only[W0,N13,d,L]
   exact⟨by rw[G93 h0 (.inl L)];rfl,D0.self M⟩
  .by_cases O:3<kind
   .simp(disch:=try exact O3)only[W0,N13,d,L,O]
    exact⟨by rw[G93 h0 (.inr O)];rfl,D0.self M⟩
   .have hk:¬ (kind<0\/3<kind):=fun h=>h.elim L O
    have hX:D0 H nx H n1:=D0.self M;simp(disch:=try exact O3)only[W0,N13,d,L,O];refine R0 (G140 A B vs l J Q H n1 (hS.ext hX) (hB.ext hX) hv hl) ?_;rintro r _ _ ⟨hz,hn,rfl,rfl⟩
    cases E:G15 vs l with
    | none=>
     have:=hn E;subst this;have d3:decide ((3:Int)≠0)=true:=by decide
     simp(disch:=try exact O3)only[W0,d3];exact⟨by rw[Q121 h0 hk E];rfl,hX⟩
    | some zs=>
     have:=hz zs E;subst this;have d0:decide ((0:Int)≠0)=false:=by decide
     simp(disch:=try exact O3)only[W0,d0];refine R0 (X147 H n1) ?_;rintro _ _ _ ⟨rfl,rfl,rfl⟩;have R:kind.toNat<4:=O0;have U:0<=kind:=O0;have W:kind<((4:Nat):Int):=O0;have V:=D53 zs fun y hy=>hv y (M46 E y hy)
     rw[B32 E] at V;have Z:=D127 R;have a1:=fun k=>E0 (C4.getD kind.toNat ⟨#[]⟩) (D35 zs) O0 k
     simp(disch:=try exact O3)only[W0,C136 R,a1];exact⟨by rw[D79 h0 hk E];rfl,hX.new _ M O0⟩
 .have d:decide (B7 vs≠0)=true:=by simp[h0]
  simp(disch:=try exact O3)only[W0,d];exact⟨by rw[B121 h0];rfl,D0.self M⟩
theorem N141(kind:Int)(P W:Option Addr)(np pc nw wc:Nat)(H:Y0)(nx:Nat):Q2 gQ 23 [.agg ⟨[O8 kind,.slice P np pc,.slice W nw wc]⟩] H nx fun r H' nx'=>(if kind=0 then .slice P np pc else .slice W nw wc)=r/\D0 H nx H' nx':=by
 refine spec23 ?_;unfold F23;have hX:∀ b,D0 H nx (hs H nx (some b)) (nx+1):=fun b=>(D0.refl H nx).nw _
 by_cases hk:kind=0
 .have d:decide (kind=0)=true:=by simp[hk]
  simp(disch:=try exact O3)only[W0,Z0,Q0.val,hk];exact hX _
 .have d:decide (kind=0)=false:=by simp[hk]
  simp(disch:=try exact O3)only[W0,Z0,Q0.val,hk];exact hX _
theorem R134(A P W:Option Addr)(vs:List ByteArray)(kind:Int)(p w:List Int)(cap pc wc:Nat)(H:Y0)(nx:Nat)(hS:Sl H nx A (N0 vs))(a9:Y18 H nx A vs.length cap)(hv:N39 vs)(a7:vs.length<=1000)(hP:Sl H nx P (U4 p))(hW:Sl H nx W (U4 w))(hp:p.length<=1000)(hw:w.length<=1000):
  Q2 gQ 14 [.slice A vs.length cap,.agg ⟨[O8 kind,.slice P p.length pc,.slice W w.length wc]⟩] H nx fun r H' nx'=>K75 (Z38 vs kind (if kind=0 then p else w))=r/\D0 H nx H' nx':=by
 refine spec14 ?_;unfold F14;have hX:D0 H nx (hs H nx (O7 [O8 kind,.slice P p.length pc,.slice W w.length wc])) (nx+1):=(D0.refl H nx).nw _;simp(disch:=try exact O3)only[W0,Z0,Q0.val];refine R0 (G135 A vs cap _ (nx+1) (hS.ext hX) (a9.ext hX) hv a7) ?_;rintro _ H2 n2 ⟨rfl,U⟩;have aa:=U.le
 by_cases h0:B7 vs=0
 .have d:decide (B7 vs≠0)=false:=by simp[h0]
  simp(disch:=try exact O3)only[W0,d];refine R0 (D137 H2 n2) ?_;rintro _ _ _ ⟨rfl,rfl,rfl⟩;have Y:D0 H2 n2 (hs H2 n2 (O7 (N0 C4))) (n2+1):=(D0.refl _ _).nw _;have M:=hX.trans (U.trans Y);have hg:J0 (hs H2 n2 (O7 (N0 C4))) nx=O7 [O8 kind,.slice P p.length pc,.slice W w.length wc]:=by
   rw[Y.gt nx,U.gt nx,Z11]
  have a1:J0 (hs H2 n2 (O7 (N0 C4))) n2=O7 (N0 C4):=Z11 _ _ _;generalize hs H2 n2 (O7 (N0 C4))=H3 at Y M hg a1 ⊢
  by_cases O:kind<0
  .simp(disch:=try exact O3)only[W0,N13,hg,O]
   exact⟨by rw[G93 h0 (.inl O)];rfl,M⟩
  .by_cases Z:3<kind
   .have Q:((4:Nat):Int)<=kind:=O0
    simp(disch:=try exact O3)only[W0,N13,hg,O,Q];exact⟨by rw[G93 h0 (.inr Z)];rfl,M⟩
   .have Q:¬ ((4:Nat):Int)<=kind:=O0
    have hk:¬ (kind<0\/3<kind):=fun h=>h.elim O Z
    refine N5 (fun L H' nx'=>L=[.bool false]/\H3=H'/\n2+1=nx') ?_ ?_
    .intro j hj
     simp(disch:=try exact O3)only[W0,hg,O,Q];exact hj _ _ _ ⟨rfl,rfl,rfl⟩
    rintro _ _ _ ⟨rfl,rfl,rfl⟩;obtain⟨L,B,bc,hL,R,a5⟩:∃(L:List Int) (B:Option Addr) (bc:Nat),(if kind=0 then p else w)=L/\(if kind=0 then Value.slice P p.length pc else .slice W w.length wc) = .slice B L.length bc/\Sl H nx B (U4 L)/\L.length<=1000:=by
     by_cases J:kind=0
     .exact⟨p,P,pc,if_pos J,if_pos J,hP,hp⟩
     .exact⟨w,W,wc,if_neg J,if_neg J,hW,hw⟩
    rw[hL];simp(disch:=try exact O3)only[W0,hg];refine N5 (fun L' H' nx'=>L'=[.slice B L.length bc]/\H3=H'/\n2+1=nx') ?_ ?_
    .intro j hj
     by_cases J:kind=0
     .have d0:decide (kind=0)=true:=by simp[J]
      rw[if_pos J] at R;simp(disch:=try exact O3)only[W0,d0,R];exact hj _ _ _ ⟨rfl,rfl,rfl⟩
     .have d0:decide (kind=0)=false:=by simp[J]
      rw[if_neg J] at R;simp(disch:=try exact O3)only[W0,d0,R];exact hj _ _ _ ⟨rfl,rfl,rfl⟩
    rintro _ _ _ ⟨rfl,rfl,rfl⟩;simp(disch:=try exact O3)only[W0];refine R0 (Z138 A B vs L cap bc H3 (n2+1) (hS.ext M) (a5.1.ext M) O0) ?_;rintro r H6 n6 ⟨hz,hn,V⟩
    cases E:G15 vs L with
    | none=>
     have:=hn E;subst this;have d3:decide ((3:Int)≠0)=true:=by decide
     simp(disch:=try exact O3)only[W0,d3];exact⟨by rw[Q121 h0 hk E];rfl,M.trans V⟩
    | some zs=>
     obtain⟨v,rfl,a0⟩:=hz zs E;have d0:decide ((0:Int)≠0)=false:=by decide
     have a2:kind.toNat<4:=O0;have J:0<=kind:=O0;have a6:kind<((4:Nat):Int):=O0;have a4:J0 H6 nx=O7 [O8 kind,.slice P p.length pc,.slice W w.length wc]:=by rw[V.gt nx,hg]
     have a3:J0 H6 n2=O7 (N0 C4):=by rw[V.gt n2,a1]
     simp(disch:=try exact O3)only[W0,d0,a4,a3,C136 a2];refine R0 (Z143 _ _ v zs H6 n6 a0 (fun z hz=>hv z (M46 E z hz)) (by have:=D127 a2;omega) (by rw[B32 E];omega)) ?_;rintro _ H7 n7 ⟨rfl,a8⟩;exact⟨by rw[D79 h0 hk E];rfl,M.trans (V.trans a8)⟩
 .have d:decide (B7 vs≠0)=true:=by simp[h0]
  simp(disch:=try exact O3)only[W0,d];exact⟨by rw[B121 h0];rfl,hX.trans U⟩
theorem D135(A P W:Option Addr)(vs:List ByteArray)(kind:Int)(p w:List Int)(cap pc wc:Nat)(H:Y0)(nx:Nat)(hS:Sl H nx A (N0 vs))(B:U9 H nx A)(hcap:A=none->cap=0)(hv:N39 vs)(E:vs.length<=1000)(hP:Sl H nx P (U4 p))(hW:Sl H nx W (U4 w))(hp:p.length<=1000)(hw:w.length<=1000):
  Q2 gQ 14 [.slice A vs.length cap,.agg ⟨[O8 kind,.slice P p.length pc,.slice W w.length wc]⟩] H nx fun r H' nx'=>K75 (Z38 vs kind (if kind=0 then p else w))=r/\D0 H nx H' nx':=
 R134 A P W vs kind p w cap pc wc H nx hS (.inl ⟨B,hcap⟩) hv E hP hW hp hw
theorem X149(A P W:Option Addr)(vs:List ByteArray)(kind:Int)(cap np pc nw wc:Nat)(H:Y0)(nx:Nat)(hS:Sl H nx A (N0 vs))(h1:vs.length<4611686018427387904)(h2:np<2305843009213693952)(h3:nw<2305843009213693952):
  Q2 gQ 6 [.slice A vs.length cap,.agg ⟨[O8 kind,.slice P np pc,.slice W nw wc]⟩] H nx fun r H' nx'=>(∃ c:Bool,r = .bool c/\(c=false->N39 vs/\vs.length<=20/\np+nw<=40))/\D0 H nx H' nx':=by
 refine spec6 ?_;unfold F6;have hX:D0 H nx (hs H nx (O7 [O8 kind,.slice P np pc,.slice W nw wc])) (nx+1):=(D0.refl H nx).nw _;have hg:J0 (hs H nx (O7 [O8 kind,.slice P np pc,.slice W nw wc])) nx=O7 [O8 kind,.slice P np pc,.slice W nw wc]:=Z11 _ _ _;simp(disch:=try exact O3)only[W0,Z0,Q0.val];generalize hs H nx (O7 [O8 kind,.slice P np pc,.slice W nw wc])=H1 at hX hg ⊢;refine B1 (fun m L H' nx'=>∃ i:Nat,m+i=vs.length/\L=[O8 (i:Int)]/\(∀(j:Nat) (s:ByteArray),j<i->vs[j]? = some s->s.size<=60)/\H1=H'/\nx+1=nx') ?_ (m:=vs.length) ⟨0,O0,rfl,fun j s hj=>O0,rfl,rfl⟩;rintro m ih L _ _ ⟨i,hm,rfl,O,rfl,rfl⟩ U;simp(disch:=try exact O3)only[W0]
 by_cases hi:i<vs.length
 .have B:(i:Int)<(vs.length:Int):=O0
  obtain⟨b,o,row,rfl,hb,J,M⟩:=(hS.ext hX).open (i:=i) (by rw[W2];exact hi);have E:vs[i]? = some vs[i]:=aE hi;generalize vs[i]=s at E
  by_cases V:60<s.size
  .have d:(60:Int)<(s.size:Int):=O0
   simp(disch:=try exact O3)only[W0,B,X3 J,M _ _ (B6 E),d];exact⟨⟨true,rfl,fun h=>by cases h⟩,hX⟩
  .have d:¬ (60:Int)<(s.size:Int):=O0
   simp(disch:=try exact O3)only[W0,B,X3 J,M _ _ (B6 E),d];exact U (m-1) _ _ _ O0 ⟨i+1,O0,O2,fun j t hj ht=>by
    by_cases R:j=i
    .subst R;rw[E] at ht;cases ht;omega
    .exact O j t O0 ht,rfl,rfl⟩
 .have B:¬ (i:Int)<(vs.length:Int):=O0
  have Q:N39 vs:=fun s hs=>by
   obtain⟨j,hj⟩:=List.mem_iff_getElem?.1 hs;exact O j s (by have:=(aJ.1 hj).1;omega) hj
  by_cases Y:20<vs.length
  .have d:(20:Int)<(vs.length:Int):=O0
   simp(disch:=try exact O3)only[W0,B,d];exact⟨⟨true,rfl,fun h=>by cases h⟩,hX⟩
  .have d:¬ (20:Int)<(vs.length:Int):=O0
   simp(disch:=try exact O3)only[W0,B,d,hg];exact⟨⟨_,rfl,fun h=>⟨Q,O0,by simp at h;omega⟩⟩,hX⟩
end
section
variable {l:List Int} {r:V32} {α:Type}
def N3:ByteArray:=⟨#[]⟩
def E39:List ByteArray:=[⟨#[99,111,117,110,116]⟩,⟨#[100,101,115,99]⟩,⟨#[109,97,120]⟩,⟨#[109,105,110]⟩,⟨#[110,111,116]⟩,⟨#[111,114,100,101,114]⟩,⟨#[115,117,109]⟩]
open Classical in
def C71(s:ByteArray):Bool := !decide (s ∈ E39)&&decide (R118 s)
def V83(kind int:Int)(s:ByteArray):Bool:=if kind=1 then decide (s=N3) else if kind=2 then decide (int=0)&&decide (s.size<=24) else false
def B9:List Int->Int
 | []=>0
 | c :: r=>if c≠0 then c else B9 r
def V62(t:R33):Int:=
 if t.var=N3 then(if V83 t.kind t.int t.str=true then 0 else 4)
 else if C71 t.var=true then(if t.kind=0/\t.int=0/\t.str=N3 then 0 else 1) else 7
def Y26(a:J90):Int:=
 if C71 a.rel=true then(if 6<a.terms.length then 12 else B9 (a.terms.map V62)) else 7
def X63(c:Q111):Int:=
 if C71 c.var=true then(if c.op<0\/5<c.op then 2 else if V83 c.kind c.int c.str=true then 0 else 4) else 7
def G23(r:V32):Int:=
 if r.atoms.length=0 then 10 else if 8<r.atoms.length\/8<r.conds.length then 12
 else if B9 (r.atoms.map Y26)≠0 then B9 (r.atoms.map Y26) else B9 (r.conds.map X63)
open Classical in
def X41(acc:List ByteArray)(v:ByteArray):List ByteArray:=if v=N3\/v ∈ acc then acc else acc++[v]
def Q112(r:V32):List ByteArray:=r.atoms.flatMap fun a=>a.terms.map R33.var
open Classical in
def D34(r:V32):List ByteArray:=(Q112 r++r.conds.map Q111.var).foldl X41 []
def V19(a:J90):List ByteArray:=if a.neg then [] else(a.terms.map R33.var).filter fun v=>decide (v≠N3)
open Classical in
def D128(r:V32):List ByteArray:=r.atoms.flatMap V19
open Classical in
def Z23(B:List ByteArray)(r:V32):Int:=
 if G23 r≠0 then G23 r else if 8<(D34 r).length then 12
 else if (B++D34 r).all (fun v=>decide (v ∈ D128 r))=true then 0 else 22
open Classical in
def Q123:List ByteArray->List ByteArray->Int
 | _,[]=>0
 | seen,v :: r=>if C71 v=true then(if v ∈ seen then 8 else Q123 (seen++[v]) r) else 7
def K41(l:List ByteArray):Int:=if 6<l.length then 12 else Q123 [] l
def Q117(agg:Int)(v:ByteArray):Int:=
 if agg=0\/agg=1 then(if v=N3 then 0 else 1) else if agg=2\/agg=3\/agg=4 then(if C71 v=true then 0 else 7) else 2
open Classical in
def U113(head:List ByteArray):List ByteArray->List ByteArray->Int
 | _,[]=>0
 | seen,v :: r=>if v ∈ head then(if v ∈ seen then 8 else U113 head (seen++[v]) r) else 7
def C21(q:M13):List ByteArray:=q.head++(if q.aggvar=N3 then [] else [q.aggvar])
open Classical in
def V81(q:M13):Int:=
 if q.rules.length=0 then 10 else if 3<q.rules.length\/(1<q.rules.length/\q.agg≠0) then 12
 else if K41 q.head≠0 then K41 q.head
 else if Q117 q.agg q.aggvar≠0 then Q117 q.agg q.aggvar
 else if B9 (q.rules.map (Z23 (C21 q)))≠0 then B9 (q.rules.map (Z23 (C21 q)))
 else U113 q.head [] (q.order.map B94.var)
theorem D129{c:Int}(h:c=0):B9 (c :: l)=B9 l:=by rw[B9,if_neg (by simp[h])]
theorem Y129{c:Int}(h:c≠0):B9 (c :: l)=c:=by rw[B9,if_pos h]
theorem B125{α:Type}{f:α->Int}:∀ {l:List α} {i:Nat},(∀ j a,j<i->l[j]? = some a->f a=0)->B9 (l.map f)=B9 ((l.drop i).map f)
 | [],i,_=>O2
 | a :: l,0,_=>rfl
 | a :: l,i+1,h=>by
  rw[aC,D129 (h 0 a O0 rfl),List.drop_succ_cons];exact B125 fun j b hj hb=>h (j+1) b O0 (by simpa using hb)
theorem B124{f:α->Int}{l:List α}{i:Nat}{a:α}(h:∀ j b,j<i->l[j]? = some b->f b=0)(ha:l[i]? = some a)(hf:f a≠0):B9 (l.map f)=f a:=by
 rw[B125 h];obtain⟨hi,rfl⟩:=aJ.1 ha;rw[List.drop_eq_getElem_cons hi,aC,Y129 hf]
theorem V123{f:α->Int}{l:List α}(h:∀(j:Nat) (b:α),l[j]? = some b->f b=0):B9 (l.map f)=0:=by
 rw[B125 (i:=l.length) fun j b _ hb=>h j b hb];simp[B9]
theorem R78{α:Type}{f:α->Int}:∀ {l:List α},B9 (l.map f)=0->∀ a ∈ l,f a=0
 | [],_,a,ha=>by cases ha
 | b :: l,h,a,ha=>by
  by_cases hb:f b=0
  .rw[aC,D129 hb] at h
   rcases aU.1 ha with rfl | ha
   .exact hb
   .exact R78 h a ha
  .rw[aC,Y129 hb] at h
   exact absurd h hb
open Classical in
theorem E143{v:ByteArray}(hv:v≠N3)(acc:List ByteArray)(w:ByteArray):v ∈ X41 acc w<->v ∈ acc\/v=w:=by
 by_cases h:w=N3\/w ∈ acc
 .rw[X41,if_pos h]
  constructor
  .exact .inl
  .rintro (h2 | rfl)
   .exact h2
   .exact h.resolve_left hv
 .rw[X41,if_neg h];simp
theorem W126{v:ByteArray}(hv:v≠N3):∀(l acc:List ByteArray),v ∈ l.foldl X41 acc<->v ∈ acc\/v ∈ l
 | [],acc=>O2
 | w :: l,acc=>by
  rw[dF,W126 hv l,E143 hv,aU,or_assoc]
open Classical in
theorem R125:∀(l acc:List ByteArray),N3 ∉ acc->N3 ∉ l.foldl X41 acc
 | [],acc,h=>h
 | w :: l,acc,h=>by
  rw[dF];refine R125 l _ ?_
  by_cases hw:w=N3\/w ∈ acc
  .rw[X41,if_pos hw];exact h
  .rw[X41,if_neg hw]
   simp only[dN,dJ,not_or];exact⟨h,fun e=>hw (.inl e.symm)⟩
theorem X139{v:ByteArray}(h:v ∈ D34 r):v≠N3/\(v ∈ Q112 r\/v ∈ r.conds.map Q111.var):=by
 have hv:v≠N3:=fun e=>by subst e;exact R125 _ [] O2 h
 refine⟨hv,?_⟩;have:=(W126 hv _ _).1 h;simpa using this
theorem Z139{r:V32}(h:G23 r=0):∀ v ∈ D34 r,C71 v=true:=by
 intro v hv;obtain⟨hn,hv⟩:=X139 hv;unfold G23 at h
 split at h
 .cases h
 split at h
 .cases h
 split at h
 .rename_i h1;exact absurd h h1
 rename_i h1;have h1:B9 (r.atoms.map Y26)=0:=by simpa using h1
 rcases hv with hv | hv
 .obtain⟨a,ha,hv⟩:=List.mem_flatMap.1 hv
  obtain⟨t,ht,rfl⟩:=gN.1 hv;have h2:=R78 h1 a ha;unfold Y26 at h2
  split at h2
  .split at h2
   .cases h2
   .have h3:=R78 h2 t ht
    unfold V62 at h3;rw[if_neg hn] at h3
    split at h3
    .assumption
    .cases h3
  .cases h2
 .obtain⟨c,hc,rfl⟩:=gN.1 hv
  have h3:=R78 h c hc;unfold X63 at h3
  split at h3
  .assumption
  .cases h3
theorem G129:∀ {l B:List ByteArray},Q123 B l=0->(∀ v ∈ l,C71 v=true/\v ∉ B)/\l.Nodup
 | [],B,_=>O2
 | v :: r,B,h=>by
  rw[Q123] at h
  split at h
  .rename_i hv
   split at h
   .cases h
   .rename_i hs
    obtain⟨h1,h2⟩:=G129 h;refine⟨fun w hw => ?_,hO.2 ⟨fun hm => ?_,h2⟩⟩
    .rcases aU.1 hw with rfl | hw
     .exact⟨hv,hs⟩
     .have:=h1 w hw
      exact⟨this.1,fun hm=>this.2 (dX _ hm)⟩
    .exact(h1 v hm).2 (List.mem_append_right _ (dJ.2 rfl))
  .cases h
theorem X128{head:List ByteArray}:∀ {l B:List ByteArray},U113 head B l=0->(∀ v ∈ l,v ∈ head/\v ∉ B)/\l.Nodup
 | [],B,_=>O2
 | v :: r,B,h=>by
  rw[U113] at h
  split at h
  .rename_i hv
   split at h
   .cases h
   .rename_i hs
    obtain⟨h1,h2⟩:=X128 h;refine⟨fun w hw => ?_,hO.2 ⟨fun hm => ?_,h2⟩⟩
    .rcases aU.1 hw with rfl | hw
     .exact⟨hv,hs⟩
     .have:=h1 w hw
      exact⟨this.1,fun hm=>this.2 (dX _ hm)⟩
    .exact(h1 v hm).2 (List.mem_append_right _ (dJ.2 rfl))
  .cases h
structure W149 (q:M13):Prop where
 rules:1<=q.rules.length/\q.rules.length<=3
 head:q.head.length<=6
 names:∀ v ∈ q.head,C71 v=true
 order:∀ k ∈ q.order,k.var ∈ q.head
 ordnd:(q.order.map B94.var).Nodup
 ordlen:q.order.length<=6
 vars:∀ r ∈ q.rules,(D34 r).length<=8/\∀ v ∈ D34 r,C71 v=true
theorem W129{q:M13}(h:V81 q=0):W149 q:=by
 unfold V81 at h
 split at h
 .cases h
 rename_i a1
 split at h
 .cases h
 rename_i a2
 split at h
 .rename_i a3;exact absurd h a3
 rename_i a3
 split at h
 .rename_i a4;exact absurd h a4
 split at h
 .rename_i a5;exact absurd h a5
 rename_i a5;have a3:K41 q.head=0:=by simpa using a3
 have a5:B9 (q.rules.map (Z23 (C21 q)))=0:=by simpa using a5
 unfold K41 at a3
 split at a3
 .cases a3
 rename_i a6;obtain⟨b1,b2⟩:=G129 a3;obtain⟨c1,c2⟩:=X128 h;have B:=iB c2 fun v hv=>(c1 v hv).1
 refine⟨O0,O0,fun v hv=>(b1 v hv).1,fun k hk=>(c1 _ (gN.2 ⟨k,hk,rfl⟩)).1,c2,by rw[gM] at B;omega,fun r hr => ?_⟩;have h2:=R78 a5 r hr;unfold Z23 at h2
 split at h2
 .rename_i h3;exact absurd h2 h3
 rename_i h3
 split at h2
 .cases h2
 exact⟨O0,Z139 (by simpa using h3)⟩
end
def Q6(l:List UInt8):ByteArray:=⟨l.toArray⟩
theorem W124(l:List UInt8):(Q6 l).data.toList=l:=by simp[Q6]
theorem B135(s:ByteArray):Q6 s.data.toList=s:=by cases s;simp[Q6]
theorem D136(l:List UInt8):(Q6 l).size=l.length:=by simp[Q6,ByteArray.size]
theorem V127(s:ByteArray):s.data.toList.length=s.size:=by rw[Array.length_toList];rfl
theorem G126(s:ByteArray)(a b:Nat):s.extract a b=Q6 ((s.data.toList.drop a).take (b-a)):=by
 apply J113;rw[bB,bB,W124,ByteArray.data_extract,Array.toList_extract]
def Y41:List UInt8->List (List UInt8)
 | []=>[[]]
 | c :: r=>if c=32 then [] :: Y41 r else match Y41 r with
  | []=>[[c]]
  | h :: t=>(c :: h) :: t
theorem E127{B:List UInt8}:∀ {pre:List UInt8},(∀ c ∈ pre,c≠32)->Y41 (pre++32 :: B)=pre :: Y41 B
 | [],_=>by simp[Y41]
 | c :: r,h=>by
  rw[dL,Y41,if_neg (h c O2),E127 (pre:=r) (fun x hx=>h x (eJ _ hx))]
theorem V125:∀ {l:List UInt8},(∀ c ∈ l,c≠32)->Y41 l=[l]
 | [],_=>rfl
 | c :: r,h=>by rw[Y41,if_neg (h c O2),V125 (l:=r) (fun x hx=>h x (eJ _ hx))]
theorem N122:∀ l:List UInt8,(Y41 l).length=l.count 32+1
 | []=>rfl
 | c :: r=>by
  rw[Y41]
  by_cases h:c=32
  .rw[if_pos h,cV,N122 r,h,List.count_cons_self]
  .rw[if_neg h,List.count_cons_of_ne h]
   have:=N122 r
   cases hr:Y41 r with
   | nil=>rw[hr] at this;simp at this
   | cons x t=>rw[hr] at this;simpa using this
def C2(s:ByteArray):List ByteArray:=(Y41 s.data.toList).map Q6
theorem M122(s:ByteArray):(C2 s).length=s.data.toList.count 32+1:=by rw[C2,gM,N122]
theorem E131(s:ByteArray):0<(C2 s).length:=by rw[M122];omega
theorem U144{s:ByteArray}{a:Nat}(ha:a<=s.size)(k:VP):D9 (.ssl true false) [.string s,O8 (a:Int)] k=k (.string (s.extract a s.size)):=by
 have e:VF.ev (.ssl true false) [.string s,O8 (a:Int)]=some (.string (s.extract a s.size)):=by
  show G31 s (some (O8 (a:Int))) none=_;simp only[G31,X127 ha]
 unfold D9;rw[e,J8];rfl
theorem V146{x y:Int}(h:x<=y)(k:VP):D9 (.mm false) [O8 x,O8 y] k=k (O8 x):=by
 have e:VF.ev (.mm false) [O8 x,O8 y]=some (O8 x):=by
  show some (cD .i64 (if y<x then y else x))=_;rw[if_neg O0]
 unfold D9;rw[e,J8];rfl
theorem G141{n:Nat}(h:n<=1000000)(z:ByteArray)(k:List Value->Nat->Nat->Prop):D30 (O8 (n:Int)) (O8 (n:Int)) [.string z] k=k (N0 (aF n z)) n n:=by
 show(cond (dD n n&&dD n 1000000) (Go.Clo.spine (Q19 [.string z] n) fun cs=>k cs n n) False)=_;rw[V6 (aD n),V6 h,Y124];exact V14 _ _
theorem W91{l:List UInt8}{f i:Nat}(hf:f<=i){c:UInt8}(hc:l[i]? = some c):l.drop f=(l.drop f).take (i-f)++c :: l.drop (i+1):=by
 have h1:l.drop i=c :: l.drop (i+1):=by
  obtain⟨h,rfl⟩:=aJ.1 hc;exact List.drop_eq_getElem_cons h
 rw[<- h1];have h2:l.drop i=(l.drop f).drop (i-f):=by rw[List.drop_drop];congr 1;omega
 rw[h2,List.take_append_drop]
section
variable {l:List ByteArray} {s:ByteArray}
def J12(l:List ByteArray)(s:ByteArray):Int:=if l.findIdx (fun t=>decide (t=s))<l.length then(l.findIdx (fun t=>decide (t=s)):Nat) else -1
theorem E133(h:s ∈ l):J12 l s=(l.findIdx (fun t=>decide (t=s)):Nat):=if_pos (List.findIdx_lt_length.2 ⟨s,h,O2⟩)
theorem V133(h:s ∉ l):J12 l s = -1:=if_neg fun h'=>by
 obtain⟨x,h1,h2⟩:=List.findIdx_lt_length.1 h';simp at h2;exact h (h2 ▸ h1)
theorem K126{l:List ByteArray}{s:ByteArray}{i:Nat}(h:l[i]? = some s)(B:∀(j:Nat) (t:ByteArray),j<i->l[j]? = some t->t≠s):J12 l s=i:=by
 obtain⟨hi,e⟩:=aJ.1 h;rw[E133 (aH h)];congr 1;rw[List.findIdx_eq hi];refine⟨by simp[e],fun j hj => ?_⟩;have:=B j _ hj (aE O0);simpa using this
theorem K139{l:List ByteArray}{s:ByteArray}(B:∀(j:Nat) (t:ByteArray),l[j]? = some t->t≠s):J12 l s = -1:=by
 refine V133 fun h => ?_
 obtain⟨j,hj⟩:=List.mem_iff_getElem?.1 h;exact B j s hj rfl
theorem G138(A:Option Addr)(l:List ByteArray)(s:ByteArray)(cap:Nat)(H:Y0)(nx:Nat)(hS:Sl H nx A (N0 l))(hl:l.length<=1000000):Q2 gQ 38 [.slice A l.length cap,.string s] H nx fun r H' nx'=>O8 (J12 l s)=r/\H=H'/\nx=nx':=by
 refine spec38 ?_;unfold F38;simp(disch:=try exact O3)only[W0];refine B1 (fun m L H' nx'=>∃ i:Nat,m+i=l.length/\L=[O8 (i:Int)]/\(∀(j:Nat) (t:ByteArray),j<i->l[j]? = some t->t≠s)/\H=H'/\nx=nx') ?_ (m:=l.length) ⟨0,O0,rfl,fun j t hj=>O0,rfl,rfl⟩;rintro m ih L _ _ ⟨i,hm,rfl,O,rfl,rfl⟩ R;simp(disch:=try exact O3)only[W0]
 by_cases hi:i<l.length
 .have E:(i:Int)<(l.length:Int):=O0
  obtain⟨b,o,row,rfl,hb,J,M⟩:=hS.open (i:=i) (by rw[W2];exact hi);have B:l[i]? = some l[i]:=aE hi;generalize l[i]=z at B
  by_cases he:s=z
  .have d:decide (s=z)=true:=by simp[he]
   simp(disch:=try exact O3)only[W0,E,X3 J,M _ _ (B6 B),K5,d];rw[K126 (by rw[he];exact B) O]
  .have d:decide (s=z)=false:=by simp[he]
   simp(disch:=try exact O3)only[W0,E,X3 J,M _ _ (B6 B),K5,d];exact R (m-1) _ _ _ O0 ⟨i+1,O0,O2,fun j t hj ht=>by
    by_cases Q:j=i
    .subst Q;rw[B] at ht;cases ht;exact fun h=>he h.symm
    .exact O j t O0 ht,rfl,rfl⟩
 .have E:¬ (i:Int)<(l.length:Int):=O0
  simp(disch:=try exact O3)only[W0,E];rw[K139 fun j t ht=>O j t (by have:=(aJ.1 ht).1;omega) ht]
theorem C126(A:Option Addr)(l:List ByteArray)(s:ByteArray)(cap:Nat)(H:Y0)(nx:Nat)(hS:Sl H nx A (N0 l))(hl:l.length<=1000000):Q2 gQ 39 [.slice A l.length cap,.string s] H nx fun r H' nx' => .bool (decide (0<=J12 l s))=r/\H=H'/\nx=nx':=by
 refine spec39 ?_;unfold F39;refine R0 (G138 A l s cap H nx hS hl) ?_;rintro _ _ _ ⟨rfl,rfl,rfl⟩;simp(disch:=try exact O3)only[W0]
theorem V132{l:List UInt8}(h:0<l.count 32):∃ o:Nat,Lib.indexByte l 32=(o:Int)/\l[o]? = some 32/\∀(k:Nat),k<o->l[k]? ≠ some 32:=by
 have B:=Lib.indexByte_ge l 32;rcases Int.lt_or_le (Lib.indexByte l 32) 0 with h1 | h1
 .have h2:Lib.indexByte l 32 = -1:=O0
  have hn:=Lib.indexByte_none h2;obtain⟨j,hj⟩:=List.mem_iff_getElem?.1 (List.count_pos_iff.1 h);exact absurd hj (hn j)
 .obtain⟨o,ho⟩:=fI h1
  exact⟨o,ho,Lib.indexByte_some ho⟩
theorem E135(zl:List (List UInt8))(n:Nat)(p:List UInt8)(h:zl.length<n):(zl.map Q6++aF (n-zl.length) (⟨#[]⟩:ByteArray)).set zl.length (Q6 p)=(zl++[p]).map Q6++aF (n-(zl.length+1)) ⟨#[]⟩:=by
 rw[show n-zl.length=(n-(zl.length+1))+1 by omega,List.replicate_succ,List.set_append_right _ _ O2];simp
theorem N149(s:ByteArray)(H:Y0)(nx:Nat)(hs:s.size<=100000):Q2 gQ 68 [.string s,.string ⟨#[32]⟩,O8 0,O8 (-1)] H nx fun r H' nx' => .slice (some ⟨nx,0,none⟩) (C2 s).length (C2 s).length=r/\J0 H' nx=O7 (N0 (C2 s))/\nx+1=nx'/\D0 H nx H' nx':=by
 refine spec68 ?_;unfold F68;have V:=V127 s;have d1:decide ((-1:Int)=0)=false:=by decide
 have d2:decide ((⟨#[32]⟩:ByteArray)=⟨#[]⟩)=false:=by decide
 have d3:(-1:Int)<0:=by decide
 have W:s.data.toList.count 32<=s.size:=by rw[<- V];exact List.count_le_length
 rw[M122];generalize hc:s.data.toList.count 32=D4 at W;simp(disch:=try exact O3)only[W0,Q0.val,d1,K5,d2];refine N5 (fun L H' nx'=>L=[O8 ((D4+1:Nat):Int)]/\H=H'/\nx=nx') ?_ ?_
 .intro j hj
  simp(disch:=try exact O3)only[W0,d3];refine R0 (Y146 s 32 H nx) ?_;rintro _ _ _ ⟨rfl,rfl,rfl⟩;have e:Lib.countByte s.data.toList 32=D4:=hc;rw[e];rw[N32 _ _ _ O0 O0];exact hj _ _ _ ⟨O2,rfl,rfl⟩
 rintro _ _ _ ⟨rfl,rfl,rfl⟩;have U:((D4+1:Nat):Int)<=(s.size:Int)+1:=O0;have e1:((D4+1:Nat):Int)-1=(D4:Int):=O0;have hn:D4+1<=1000000:=O0;simp(disch:=try exact O3)only[W0,V146 U,G141 hn,e1];refine N5 (fun L H' nx'=>∃(r:List UInt8) (zl:List (List UInt8)),L=[.string (Q6 r),O8 (D4:Int)]/\zl.length=D4/\Y41 s.data.toList=zl++Y41 r/\r.count 32=0/\J0 H' nx=O7 (N0 (zl.map Q6++aF (D4+1-zl.length) ⟨#[]⟩))/\nx+1=nx'/\D0 H nx H' nx') ?_ ?_
 .intro j hj
  refine B1 (fun m L H' nx'=>∃(r:List UInt8) (zl:List (List UInt8)),m+zl.length=D4/\L=[.string (Q6 r),O8 (zl.length:Int)]/\Y41 s.data.toList=zl++Y41 r/\zl.length+r.count 32=D4/\r.length<=s.size/\J0 H' nx=O7 (N0 (zl.map Q6++aF (D4+1-zl.length) ⟨#[]⟩))/\nx+1=nx'/\D0 H nx H' nx') ?_ (m:=D4) ⟨s.data.toList,[],O2,by rw[B135];rfl,O2,by simp[hc],O0,by rw[Z11];simp,rfl,(D0.refl H nx).nw _⟩;rintro m ih L H1 _ ⟨r,zl,hm,rfl,E,a1,a4,hg,rfl,hE⟩ Z;simp(disch:=try exact O3)only[W0]
  by_cases hi:zl.length<D4
  .have M:(zl.length:Int)<(D4:Int):=O0
   have O:(zl.length:Int)<((D4+1:Nat):Int):=O0;obtain⟨o,ho,R,Q⟩:=V132 (l:=r) O0;have a6:o<r.length:=(aJ.1 R).1;simp(disch:=try exact O3)only[W0,M];refine R0 (R147 (Q6 r) 32 H1 (nx+1)) ?_;rintro _ _ _ ⟨rfl,rfl,rfl⟩;rw[W124,ho];have g1:¬ (o:Int)<0:=O0;have e2:(((⟨#[32]⟩:ByteArray).size:Nat):Int)=1:=rfl;have e3:(o:Int)+1=((o+1:Nat):Int):=O0;have a5:=D136 r;have t1:=fun k=>Z130 (s:=Q6 r) (h:=o) O0 k
   have t2:=fun k=>U144 (s:=Q6 r) (a:=o+1) O0 k
   simp(disch:=try exact O3)only[W0,g1,Int.add_zero,t1,hg,e2,e3,t2,W2,bH,gM,iC];refine⟨O0,?_⟩;have h0:(0:Nat)+(zl.length:Int).toNat*1=zl.length:=O0;have p1:(Q6 r).extract 0 o=Q6 (r.take o):=by rw[G126,W124];simp
   have p2:(Q6 r).extract (o+1) (Q6 r).size=Q6 (r.drop (o+1)):=by rw[G126,W124,gJ (by rw[List.length_drop,D136];omega)]
   have B:=W91 (f:=0) (aL o) R;simp only[bW,Nat.sub_zero] at B;have J:∀ c ∈ r.take o,c≠32:=fun c hc=>by
    obtain⟨j,hj⟩:=List.mem_iff_getElem?.1 hc;rw[aX] at hj
    split at hj
    .rename_i a3
     exact fun e=>Q j a3 (by rw[hj,e])
    .cases hj
   have Y:=(congrArg Y41 B).trans (E127 J);have a2:=congrArg (List.count 32) B;rw[List.count_append,List.count_cons_self,List.count_eq_zero.2 (fun h=>J 32 h rfl)] at a2;refine Z (m-1) _ _ _ O0 ⟨r.drop (o+1),zl++[r.take o],by simp;omega,by rw[p2];simp,by rw[E,Y];simp,by simp;omega,by rw[List.length_drop];omega,?_,rfl,hE.h0⟩;rw[Z11,p1,M127 O5,E135 zl (D4+1) _ O0];simp
  .have M:¬ (zl.length:Int)<(D4:Int):=O0
   simp(disch:=try exact O3)only[W0,M];exact hj _ _ _ ⟨r,zl,by rw[show zl.length=D4 by omega],O0,E,O0,hg,rfl,hE⟩
 rintro _ H1 _ ⟨r,zl,rfl,a0,E,a1,hg,rfl,hE⟩;have O:(D4:Int)<((D4+1:Nat):Int):=O0;have e3:(D4:Int)+1=((D4+1:Nat):Int):=O0;simp(disch:=try exact O3)only[W0,hg,e3,W2,bH,gM,iC];refine⟨O0,?_⟩;rw[D141 (Z11 _ _ _) (aD _) (.inl rfl)];refine⟨rfl,?_,hE.h0⟩;have J:∀ c ∈ r,c≠32:=fun c hc e=>by
  subst e;have:=List.count_pos_iff.2 hc;omega
 rw[V125 J] at E;subst a0;rw[M127 O2,E135 zl (zl.length+1) r O0,C2,E];simp
theorem M147(s:ByteArray)(H:Y0)(nx:Nat)(hs:s.size<=100000):Q2 gQ 37 [.string s,.string ⟨#[32]⟩] H nx fun r H' nx' => .slice (some ⟨nx,0,none⟩) (C2 s).length (C2 s).length=r/\J0 H' nx=O7 (N0 (C2 s))/\nx+1=nx'/\D0 H nx H' nx':=by
 refine spec37 ?_;unfold F37;refine R0 (N149 s H nx hs) ?_;rintro _ H1 _ ⟨rfl,hg,rfl,hE⟩;simp(disch:=try exact O3)only[W0];exact⟨hg,hE⟩
end
section
variable {H:Y0} {c:List Value} {lo nx:Nat} {s:ByteArray} {v:Value} {vs:List ByteArray}
def V5:ByteArray:=⟨#[]⟩
def R6(vs:List ByteArray):List ByteArray->Option (List Int)
 | []=>some []
 | s :: r=>if J12 vs s<0 then none else(R6 vs r).map (J12 vs s :: ·)
theorem W133{vs:List ByteArray}{x:ByteArray}(hx:¬ J12 vs x<0):∀ {l:List ByteArray} {zs:List Int},R6 vs l=some zs->R6 vs (l++[x])=some (zs++[J12 vs x])
 | [],zs,h=>by
  cases h
  simp[R6,hx]
 | i :: r,zs,h=>by
  unfold R6 at h
  by_cases hp:J12 vs i<0
  .rw[if_pos hp] at h;cases h
  .rw[if_neg hp] at h
   obtain⟨ys,h1,rfl⟩:=bU.1 h;rw[dL,R6,if_neg hp,W133 hx h1]
   rfl
theorem J134{vs:List ByteArray}{x:ByteArray}(hx:J12 vs x<0):∀ {l:List ByteArray},x ∈ l->R6 vs l=none
 | i :: r,h=>by
  rcases aU.1 h with rfl | h
  .rw[R6,if_pos hx]
  .rw[R6]
   split
   .rfl
   .rw[J134 hx h];rfl
theorem N128{vs:List ByteArray}:∀ {l:List ByteArray} {zs:List Int},R6 vs l=some zs->zs.length=l.length
 | [],zs,h=>by cases h;rfl
 | i :: r,zs,h=>by
  unfold R6 at h
  by_cases hp:J12 vs i<0
  .rw[if_pos hp] at h;cases h
  .rw[if_neg hp] at h
   obtain⟨ys,h1,rfl⟩:=bU.1 h;simp[N128 h1]
theorem M124{l:List ByteArray}:J12 l s<0<->s ∉ l:=by
 by_cases h:s ∈ l
 .rw[E133 h];simp[h]
 .rw[V133 h];simp[h]
open Classical in
def B57(vs:List ByteArray)(s:ByteArray):Int × List Int × Int:=
 if B7 vs≠0 then(0,[],B7 vs) else if J12 C4 ((C2 s).headD V5)<0\/V5 ∈ C2 s then(0,[],15) else match R6 vs (C2 s).tail with
 | none=>(0,[],7)
 | some l=>(J12 C4 ((C2 s).headD V5),l,0)
theorem B136{vs:List ByteArray}(h:B7 vs≠0)(s:ByteArray):B57 vs s=(0,[],B7 vs):=if_pos h
theorem Q127(h:B7 vs=0)(hk:J12 C4 ((C2 s).headD V5)<0\/V5 ∈ C2 s):B57 vs s=(0,[],15):=by
 unfold B57;rw[if_neg (by simp[h]),if_pos hk]
theorem Z136(h:B7 vs=0)(hk:¬ (J12 C4 ((C2 s).headD V5)<0\/V5 ∈ C2 s))(hl:R6 vs (C2 s).tail=none):B57 vs s=(0,[],7):=by
 unfold B57;rw[if_neg (by simp[h]),if_neg hk,hl]
theorem M123(h:B7 vs=0)(hk:¬ (J12 C4 ((C2 s).headD V5)<0\/V5 ∈ C2 s)){l:List Int}(hl:R6 vs (C2 s).tail=some l):B57 vs s=(J12 C4 ((C2 s).headD V5),l,0):=by
 unfold B57;rw[if_neg (by simp[h]),if_neg hk,hl]
theorem C139(s:ByteArray):∃ h t,C2 s=h :: t:=by
 cases hh:C2 s with
 | nil=>have:=E131 s;rw[hh] at this;simp at this
 | cons h t=>exact⟨h,t,rfl⟩
theorem Y142(s:ByteArray):(C2 s).length<=s.size+1:=by
 rw[M122,<- V127];have:=List.count_le_length (a:=(32:UInt8)) (l:=s.data.toList);omega
theorem E23.low{B:Nat}(h:E23 lo H nx v c)(hl:B<=lo):E23 B H nx v c:=by
 rcases h with h | ⟨h0,b,h1,h2⟩
 .left
  refine⟨h.1,h.2.imp id ?_⟩;rintro⟨b,h1,h2⟩;exact⟨b,bK hl h1,h2⟩
 .exact .inr ⟨h0,b,bK hl h1,h2⟩
theorem E23.put{i:Nat}(h:E23 lo H nx v c)(hi:i<lo)(b:Option V3):E23 lo (Go.Clo.hs H i b) nx v c:=by
 rcases h with h | ⟨h0,b,h1,h2,h3,h4⟩
 .left
  refine⟨h.1,h.2.imp id ?_⟩;rintro⟨b,h1,h2,h3,h4⟩;exact⟨b,h1,h2,h3,by rw[gN _];exact h4⟩
 .exact .inr ⟨h0,b,h1,h2,h3,by rw[gN _];exact h4⟩
theorem E23.zero(lo:Nat)(H:Y0)(nx:Nat):E23 lo H nx O6 (U4 []) := .inl (J6.nil _ _ _ _)
end
section
variable (a0 a1 a2:Value) (H:Y0) (nx:Nat) (k:EP)
def F88:Prop:=
 M12 a0 H nx fun b c d=>
 K7 b 0 c fun _ e=>
 D10 .eql e i1 fun f=>
 B0 f (
 K7 b 2 c fun _ b=>
 D10 .eql b (.string ⟨#[]⟩) fun b=>
 Rt b c d k) (
 D10 .eql e (.int .i64 2) fun e=>
 B0 e (
 K7 b 1 c fun _ e=>
 D10 .eql e i0 fun e=>
 C1 true e (
 K7 b 2 c fun _ b=>
 R4 b 1 c fun b=>
 D10 .leq b (.int .i64 24) fun b=>
 Rt b c d k) (
 Rt bF c d k)) (
 Rt bF c d k))
def F69:Prop:=
 V4 (fun b=>
 D10 .eql a0 (.string ⟨#[99,111,117,110,116]⟩) fun c=>
 B0 c (
 b [c] H nx) (
 D10 .eql a0 (.string ⟨#[100,101,115,99]⟩) fun c=>
 B0 c (
 b [c] H nx) (
 D10 .eql a0 (.string ⟨#[109,97,120]⟩) fun c=>
 B0 c (
 b [c] H nx) (
 D10 .eql a0 (.string ⟨#[109,105,110]⟩) fun c=>
 B0 c (
 b [c] H nx) (
 D10 .eql a0 (.string ⟨#[110,111,116]⟩) fun c=>
 B0 c (
 b [c] H nx) (
 D10 .eql a0 (.string ⟨#[111,114,100,101,114]⟩) fun c=>
 B0 c (
 b [c] H nx) (
 D10 .eql a0 (.string ⟨#[115,117,109]⟩) fun c=>
 b [c] H nx))))))) (fun b c d=>
 B0 b.a (
 Rt bF c d k) (
 Y2 gQ 93 [a0] c d fun b c d=>
 Rt b c d k))
def F41:Prop:=
 R4 a0 0 H fun b=>
 D10 .gtr b (.int .i64 6) fun b=>
 B0 b (
 Rt (.int .i64 12) H nx k) (
 R4 a0 0 H fun b=>
 G3 (fun c d e f=>
 D10 .lss d.a b fun b=>
 B0 b (
 U6 a0 d.a e fun _ b=>
 Y2 gQ 69 [b] e f fun e f g=>
 C5 .not e fun e=>
 B0 e (
 Rt (.int .i64 7) f g k) (
 U5 a0 1 none (some d.a) none f fun e=>
 Y2 gQ 39 [e,b] f g fun b e f=>
 B0 b (
 Rt (.int .i64 8) e f k) (
 D10 .add d.a i1 fun b=>
 c [b] e f))) (
 Rt i0 e f k)) [i0] H nx)
def F42:Prop:=
 M12 a0 H nx fun b c d=>
 K7 b 1 c fun _ e=>
 V4 (fun b=>
 D10 .eql e i0 fun f=>
 B0 f (
 b [f] c d) (
 D10 .eql e i1 fun e=>
 b [e] c d)) (fun c d f=>
 B0 c.a (
 K7 b 2 d fun _ b=>
 D10 .neq b (.string ⟨#[]⟩) fun b=>
 B0 b (
 Rt i1 d f k) (
 Rt i0 d f k)) (
 V4 (fun b=>
 D10 .eql e (.int .i64 2) fun c=>
 B0 c (
 b [c] d f) (
 D10 .eql e (.int .i64 3) fun c=>
 B0 c (
 b [c] d f) (
 D10 .eql e (.int .i64 4) fun c=>
 b [c] d f))) (fun c d e=>
 B0 c.a (
 K7 b 2 d fun _ b=>
 Y2 gQ 69 [b] d e fun b c d=>
 C5 .not b fun b=>
 B0 b (
 Rt (.int .i64 7) c d k) (
 Rt i0 c d k)) (
 Rt (.int .i64 2) d e k))))
def F100:Prop:=
 M12 a0 H nx fun b c d=>
 K7 b 1 c fun _ e=>
 Y2 gQ 69 [e] c d fun c d e=>
 C5 .not c fun c=>
 B0 c (
 Rt (.int .i64 7) d e k) (
 K7 b 2 d fun _ c=>
 R4 c 0 d fun c=>
 D10 .gtr c (.int .i64 6) fun c=>
 B0 c (
 Rt (.int .i64 12) d e k) (
 K7 b 2 d fun _ b=>
 R4 b 0 d fun c=>
 G3 (fun d e f g=>
 D10 .lss e.a c fun c=>
 B0 c (
 V4 (fun c=>
 B15 b e.a 4 f fun _ b=>
 Q4 [.string ⟨#[]⟩,.int .i64 0,.int .i64 0,.string ⟨#[]⟩] f g fun d e f=>
 D5 d b 4 e fun b=>
 K7 d 0 b fun _ e=>
 D10 .eql e (.string ⟨#[]⟩) fun e=>
 B0 e (
 C81 d 1 3 b fun _ d=>
 Y2 gQ 88 [d] b f fun b d e=>
 C5 .not b fun b=>
 B0 b (
 Rt (.int .i64 4) d e k) (
 c [] d e)) (
 K7 d 0 b fun _ e=>
 Y2 gQ 69 [e] b f fun b e f=>
 C5 .not b fun b=>
 B0 b (
 Rt (.int .i64 7) e f k) (
 C81 d 1 3 e fun _ b=>
 U11 [.int .i64 0,.int .i64 0,.string ⟨#[]⟩] [(0,1),(1,1),(2,1)] [] fun d=>
 D9 (.eqs true [⟨0,0⟩,⟨1,0⟩,⟨2,2⟩]) [b,d] fun b=>
 B0 b (
 Rt i1 e f k) (
 c [] e f)))) (fun _ b c=>
 D10 .add e.a i1 fun e=>
 d [e] b c)) (
 Rt i0 f g k)) [i0] d e))
def F71:Prop:=
 M12 a0 H nx fun b c d=>
 K7 b 0 c fun _ e=>
 R4 e 0 c fun e=>
 D10 .eql e i0 fun e=>
 B0 e (
 Rt (.int .i64 10) c d k) (
 V4 (fun e=>
 K7 b 0 c fun _ f=>
 R4 f 0 c fun f=>
 D10 .gtr f (.int .i64 8) fun f=>
 C1 false f (
 K7 b 1 c fun _ b=>
 R4 b 0 c fun b=>
 D10 .gtr b (.int .i64 8) fun b=>
 e [b] c d) (
 e [bT] c d)) (fun c d e=>
 B0 c.a (
 Rt (.int .i64 12) d e k) (
 K7 b 0 d fun _ c=>
 R4 c 0 d fun f=>
 G3 (fun d e g h=>
 D10 .lss e.a f fun f=>
 B0 f (
 B15 c e.a 3 g fun _ b=>
 Q4 [.bool false,.string ⟨#[]⟩,.slice none 0 0] g h fun c f g=>
 D5 c b 3 f fun b=>
 J1 c (some 3) b fun c=>
 Y2 gQ 100 [c] b g fun b c f=>
 D10 .neq b i0 fun g=>
 B0 g (
 Rt b c f k) (
 D10 .add e.a i1 fun b=>
 d [b] c f)) (
 K7 b 1 g fun _ b=>
 R4 b 0 g fun c=>
 G3 (fun d e f g=>
 D10 .lss e.a c fun c=>
 B0 c (
 B15 b e.a 5 f fun _ b=>
 Q4 [.string ⟨#[]⟩,.int .i64 0,.int .i64 0,.int .i64 0,.string ⟨#[]⟩] f g fun c f g=>
 D5 c b 5 f fun b=>
 K7 c 0 b fun _ f=>
 Y2 gQ 69 [f] b g fun b f g=>
 C5 .not b fun b=>
 B0 b (
 Rt (.int .i64 7) f g k) (
 V4 (fun b=>
 K7 c 1 f fun _ d=>
 D10 .lss d i0 fun d=>
 C1 false d (
 K7 c 1 f fun _ c=>
 D10 .gtr c (.int .i64 5) fun c=>
 b [c] f g) (
 b [bT] f g)) (fun b f g=>
 B0 b.a (
 Rt (.int .i64 2) f g k) (
 C81 c 2 3 f fun _ b=>
 Y2 gQ 88 [b] f g fun b c f=>
 C5 .not b fun b=>
 B0 b (
 Rt (.int .i64 4) c f k) (
 D10 .add e.a i1 fun b=>
 d [b] c f))))) (
 Rt i0 f g k)) [i0] g h)) [i0] d e)))
def F47:Prop:=
 M12 a0 H nx fun b c d=>
 Q4 [.slice none 0 0] c d fun c d e=>
 M64 none <| J3 (.map [] 0) .map d e fun d e f=>
 W56 .string d (.string ⟨#[]⟩) bT e f fun _ e f=>
 Q4 [.map none] e f fun e f g=>
 D5 e d 1 f fun d=>
 K7 b 0 d fun _ f=>
 R4 f 0 d fun h=>
 G3 (fun d g i j=>
 D10 .lss g.a h fun h=>
 B0 h (
 B15 f g.a 3 i fun _ b=>
 Q4 [.bool false,.string ⟨#[]⟩,.slice none 0 0] i j fun f h i=>
 D5 f b 3 h fun b=>
 K7 f 2 b fun _ f=>
 R4 f 0 b fun h=>
 G3 (fun b i j l=>
 D10 .lss i.a h fun h=>
 B0 h (
 B15 f i.a 4 j fun _ d=>
 Q4 [.string ⟨#[]⟩,.int .i64 0,.int .i64 0,.string ⟨#[]⟩] j l fun f g h=>
 D5 f d 4 g fun d=>
 K7 f 0 d fun _ f=>
 M33 gQ (.func (.func 76) ⟨[]⟩ ⟨[e,c]⟩) [f] d h fun _ c d=>
 D10 .add i.a i1 fun e=>
 b [e] c d) (
 D10 .add g.a i1 fun b=>
 d [b] j l)) [i0] b i) (
 K7 b 1 i fun _ b=>
 R4 b 0 i fun d=>
 G3 (fun f g h i=>
 D10 .lss g.a d fun d=>
 B0 d (
 B15 b g.a 5 h fun _ b=>
 Q4 [.string ⟨#[]⟩,.int .i64 0,.int .i64 0,.int .i64 0,.string ⟨#[]⟩] h i fun d h i=>
 D5 d b 5 h fun b=>
 K7 d 0 b fun _ d=>
 M33 gQ (.func (.func 76) ⟨[]⟩ ⟨[e,c]⟩) [d] b i fun _ b c=>
 D10 .add g.a i1 fun d=>
 f [d] b c) (
 J1 c none h fun b=>
 Rt b h i k)) [i0] i j)) [i0] d g
def F76:Prop:=
 J1 a1 none H fun b=>
 wLk .string bF b a0 false H fun b=>
 C5 .not b fun b=>
 B0 b (
 J1 a1 none H fun b=>
 W56 .string b a0 bT H nx fun _ b c=>
 J1 a2 none b fun d=>
 D24 1 1 [.string ⟨#[]⟩] [(0,a0)] b c fun b c e=>
 B5 d b 1 16 c e fun b c d=>
 D5 a2 b 1 c fun b=>
 Rt (.tuple ⟨[]⟩) b d k) (
 Rt (.tuple ⟨[]⟩) H nx k)
def F72:Prop:=
 M12 a0 H nx fun b c d=>
 M64 none <| J3 (.map [] 0) .map c d fun c d e=>
 K7 b 0 d fun _ b=>
 R4 b 0 d fun f=>
 G3 (fun d e g h=>
 D10 .lss e.a f fun f=>
 B0 f (
 B15 b e.a 3 g fun _ b=>
 Q4 [.bool false,.string ⟨#[]⟩,.slice none 0 0] g h fun f g h=>
 D5 f b 3 g fun b=>
 K7 f 2 b fun _ g=>
 R4 g 0 b fun i=>
 G3 (fun b h j l=>
 D10 .lss h.a i fun i=>
 B0 i (
 V4 (fun b=>
 B15 g h.a 4 j fun _ d=>
 Q4 [.string ⟨#[]⟩,.int .i64 0,.int .i64 0,.string ⟨#[]⟩] j l fun e g h=>
 D5 e d 4 g fun d=>
 V4 (fun b=>
 K7 f 0 d fun _ c=>
 C5 .not c fun c=>
 C1 true c (
 K7 e 0 d fun _ c=>
 D10 .neq c (.string ⟨#[]⟩) fun c=>
 b [c] d h) (
 b [bF] d h)) (fun d f g=>
 B0 d.a (
 K7 e 0 f fun _ d=>
 W56 .string c d bT f g fun _ c d=>
 b [] c d) (
 b [] f g))) (fun _ c d=>
 D10 .add h.a i1 fun e=>
 b [e] c d)) (
 D10 .add e.a i1 fun b=>
 d [b] j l)) [i0] b h) (
 Rt c g h k)) [i0] d e
variable {a0 a1 a2 H nx k}
theorem spec88:F88 a0 H nx k->Q2 gQ 88 [a0] H nx k:=Q12 [] [] [.one (.tst (.one .nil) (.one .nil))]
theorem spec69:F69 a0 H nx k->Q2 gQ 69 [a0] H nx k:=Q12 [(3,[4])] [] []
theorem spec41:F41 a0 H nx k->Q2 gQ 41 [a0] H nx k:=Q12 [] [[10]] []
theorem spec42:F42 a0 H nx k->Q2 gQ 42 [a0] H nx k:=Q12 [(3,[5]),(7,[11])] [] []
theorem spec100:F100 a0 H nx k->Q2 gQ 100 [a0] H nx k:=Q12 [(11,[])] [[16]] []
theorem spec71:F71 a0 H nx k->Q2 gQ 71 [a0] H nx k:=Q12 [(5,[21]),(24,[47])] [[25],[38]] [.one (.tst (.one .nil) (.one .nil)),.one (.tst (.one .nil) (.one .nil))]
theorem spec47:F47 a0 H nx k->Q2 gQ 47 [a0] H nx k:=Q12 [] [[18],[25],[38]] []
theorem spec76:F76 a0 a1 a2 H nx k->Q2 gQ 76 [a0,a1,a2] H nx k:=Q12 [] [] []
theorem spec72:F72 a0 H nx k->Q2 gQ 72 [a0] H nx k:=Q12 [(11,[]),(13,[30])] [[12],[19]] [.one (.tst (.one .nil) (.one .nil))]
end
theorem M131(kind int:Int)(s:ByteArray)(H:Y0)(nx:Nat):Q2 gQ 88 [.agg ⟨[O8 kind,O8 int,.string s]⟩] H nx fun r H' nx' => .bool (V83 kind int s)=r/\D0 H nx H' nx':=by
 refine spec88 ?_;unfold F88;have hE:D0 H nx (hs H nx (O7 [O8 kind,O8 int,.string s])) (nx+1):=(D0.refl H nx).nw _
 by_cases h1:kind=1
 .have d1:decide (kind=1)=true:=by simp[h1]
  simp(disch:=try exact O3)only[W0,Z0,Q0.val,K5,d1];exact⟨by rw[V83,if_pos h1];rfl,hE⟩
 have d1:decide (kind=1)=false:=by simp[h1]
 by_cases h2:kind=2
 .have d2:decide (kind=2)=true:=by simp[h2]
  by_cases h3:int=0
  .have d3:decide (int=0)=true:=by simp[h3]
   simp(disch:=try exact O3)only[W0,Z0,Q0.val,d1,d2,d3];refine⟨?_,hE⟩;rw[V83,if_neg h1,if_pos h2,d3,iA];congr 2;apply propext;omega
  .have d3:decide (int=0)=false:=by simp[h3]
   simp(disch:=try exact O3)only[W0,Z0,Q0.val,d1,d2,d3];exact⟨by rw[V83,if_neg h1,if_pos h2,d3];rfl,hE⟩
 have d2:decide (kind=2)=false:=by simp[h2]
 simp(disch:=try exact O3)only[W0,Z0,Q0.val,d1,d2];exact⟨by rw[V83,if_neg h1,if_neg h2],hE⟩
open Classical in
theorem C125(s:ByteArray)(H:Y0)(nx:Nat)(hs:s.size<=1000000):Q2 gQ 69 [.string s] H nx fun r H' nx' => .bool (C71 s)=r/\H=H'/\nx=nx':=by
 refine spec69 ?_;unfold F69;refine N5 (fun L H' nx'=>(∃ c:Bool,L=[.bool c]/\(c=true<->s ∈ E39))/\H=H'/\nx=nx') ?_ ?_
 .intro j B
  have hj:∀(c:Bool) (q:c=true<->s ∈ E39),j [.bool c] H nx:=fun c q=>B _ _ _ ⟨⟨c,rfl,q⟩,rfl,rfl⟩
  by_cases q0:s=(⟨#[99,111,117,110,116]⟩:ByteArray)
  .have e0:decide (s=(⟨#[99,111,117,110,116]⟩:ByteArray))=true:=by simp[q0]
   simp(disch:=try exact O3)only[W0,K5,e0];exact hj _ ⟨fun _=>by rw[q0];simp[E39],fun _=>rfl⟩
  have e0:decide (s=(⟨#[99,111,117,110,116]⟩:ByteArray))=false:=by simp[q0]
  by_cases q1:s=(⟨#[100,101,115,99]⟩:ByteArray)
  .have e1:decide (s=(⟨#[100,101,115,99]⟩:ByteArray))=true:=by simp[q1]
   simp(disch:=try exact O3)only[W0,K5,e0,e1];exact hj _ ⟨fun _=>by rw[q1];simp[E39],fun _=>rfl⟩
  have e1:decide (s=(⟨#[100,101,115,99]⟩:ByteArray))=false:=by simp[q1]
  by_cases q2:s=(⟨#[109,97,120]⟩:ByteArray)
  .have e2:decide (s=(⟨#[109,97,120]⟩:ByteArray))=true:=by simp[q2]
   simp(disch:=try exact O3)only[W0,K5,e0,e1,e2];exact hj _ ⟨fun _=>by rw[q2];simp[E39],fun _=>rfl⟩
  have e2:decide (s=(⟨#[109,97,120]⟩:ByteArray))=false:=by simp[q2]
  by_cases q3:s=(⟨#[109,105,110]⟩:ByteArray)
  .have e3:decide (s=(⟨#[109,105,110]⟩:ByteArray))=true:=by simp[q3]
   simp(disch:=try exact O3)only[W0,K5,e0,e1,e2,e3];exact hj _ ⟨fun _=>by rw[q3];simp[E39],fun _=>rfl⟩
  have e3:decide (s=(⟨#[109,105,110]⟩:ByteArray))=false:=by simp[q3]
  by_cases q4:s=(⟨#[110,111,116]⟩:ByteArray)
  .have e4:decide (s=(⟨#[110,111,116]⟩:ByteArray))=true:=by simp[q4]
   simp(disch:=try exact O3)only[W0,K5,e0,e1,e2,e3,e4];exact hj _ ⟨fun _=>by rw[q4];simp[E39],fun _=>rfl⟩
  have e4:decide (s=(⟨#[110,111,116]⟩:ByteArray))=false:=by simp[q4]
  by_cases q5:s=(⟨#[111,114,100,101,114]⟩:ByteArray)
  .have e5:decide (s=(⟨#[111,114,100,101,114]⟩:ByteArray))=true:=by simp[q5]
   simp(disch:=try exact O3)only[W0,K5,e0,e1,e2,e3,e4,e5];exact hj _ ⟨fun _=>by rw[q5];simp[E39],fun _=>rfl⟩
  have e5:decide (s=(⟨#[111,114,100,101,114]⟩:ByteArray))=false:=by simp[q5]
  by_cases q6:s=(⟨#[115,117,109]⟩:ByteArray)
  .have e6:decide (s=(⟨#[115,117,109]⟩:ByteArray))=true:=by simp[q6]
   simp(disch:=try exact O3)only[W0,K5,e0,e1,e2,e3,e4,e5,e6];exact hj _ ⟨fun _=>by rw[q6];simp[E39],fun _=>rfl⟩
  have e6:decide (s=(⟨#[115,117,109]⟩:ByteArray))=false:=by simp[q6]
  simp(disch:=try exact O3)only[W0,K5,e0,e1,e2,e3,e4,e5,e6];exact hj _ ⟨fun h=>(by cases h),fun h=>by simp[E39,q0,q1,q2,q3,q4,q5,q6] at h⟩
 rintro _ _ _ ⟨⟨c,rfl,hc⟩,rfl,rfl⟩;unfold C71
 cases c with
 | true=>
  have hm:=hc.1 rfl;have e:decide (s ∈ E39)=true:=by simp[hm]
  simp(disch:=try exact O3)only[W0];rw[e];rfl
 | false=>
  have hm:¬ s ∈ E39:=fun h=>by have:=hc.2 h;cases this
  have e:decide (s ∈ E39)=false:=by simp[hm]
  simp(disch:=try exact O3)only[W0];refine R0 (X133 s H nx hs) ?_;rintro _ _ _ ⟨⟨b,rfl,hb⟩,rfl,rfl⟩;refine⟨?_,rfl,rfl⟩;rw[e,Bool.not_false,iA];congr 1;rw[eX,decide_eq_true_eq];exact hb.symm
section
variable {i:Nat} {α:Type}
theorem Sl.take{H:Y0}{nx:Nat}{A:Option Addr}{l:List ByteArray}(h:Sl H nx A (N0 l))(i:Nat):Sl H nx A (N0 (l.take i)):=by
 intro j v hv;refine h j v ?_;unfold N0 at hv ⊢;rw[cP,bU] at hv ⊢;obtain⟨z,hz,e⟩:=hv;rw[aX] at hz
 split at hz
 .exact⟨z,hz,e⟩
 .cases hz
open Classical in
theorem Y136(l:List ByteArray)(s:ByteArray):decide (0<=J12 l s)=decide (s ∈ l):=by
 rw[eX,decide_eq_true_eq,decide_eq_true_eq];have:=M124 (l:=l) (s:=s)
 constructor
 .intro h
  refine aI fun hn => ?_
  have:=this.2 hn;omega
 .intro h
  refine aI fun hn => ?_
  exact this.1 O0 h
theorem J131{l:List α}{x:α}(h:l[i]? = some x):l.drop i=x :: l.drop (i+1):=by
 obtain⟨hi,rfl⟩:=aJ.1 h;exact List.drop_eq_getElem_cons hi
theorem R37{l:List α}{x:α}(h:l[i]? = some x):l.take (i+1)=l.take i++[x]:=by
 rw[List.take_add_one,h];rfl
open Classical in
theorem C148(A:Option Addr)(l:List ByteArray)(cap:Nat)(H:Y0)(nx:Nat)(hS:Sl H nx A (N0 l))(hR:V9 H nx A)(hcap:l.length<=cap)(hv:∀ s ∈ l,s.size<=100):
  Q2 gQ 41 [.slice A l.length cap] H nx fun r H' nx'=>O8 (K41 l)=r/\H=H'/\nx=nx':=by
 refine spec41 ?_;unfold F41
 by_cases h6:6<l.length
 .have d:(6:Int)<(l.length:Int):=O0
  simp(disch:=try exact O3)only[W0,d];rw[K41,if_pos h6]
 have d:¬ (6:Int)<(l.length:Int):=O0;have hH:K41 l=Q123 [] l:=by rw[K41,if_neg h6]
 rw[hH];simp(disch:=try exact O3)only[W0,d];refine B1 (m:=l.length) (fun m L H' nx'=>∃ i:Nat,m+i=l.length/\L=[O8 (i:Int)]/\Q123 [] l=Q123 (l.take i) (l.drop i)/\H=H'/\nx=nx') ?_ ⟨0,rfl,rfl,O2,rfl,rfl⟩;rintro m ih L _ _ ⟨i,hm,rfl,hc,rfl,rfl⟩ Q;simp(disch:=try exact O3)only[W0]
 by_cases hi:i<l.length
 case neg=>
  have E:¬ (i:Int)<(l.length:Int):=O0;simp(disch:=try exact O3)only[W0,E];rw[hc,List.drop_eq_nil_of_le O0];rfl
 have E:(i:Int)<(l.length:Int):=O0;obtain⟨s,hs⟩:∃ s,l[i]? = some s:=⟨_,aE hi⟩
 have R:=aH hs;obtain⟨b,o,row,rfl,hb,M,O⟩:=hS.open (i:=i) (by rw[W2];omega);obtain⟨c,J⟩:∃ c,J0 H b=some (.rom c):=by
  rcases hR with h | ⟨b',o',c,h1,h2,h3⟩
  .cases h
  .cases h1;exact⟨c,h3⟩
 have g0:=O _ _ (B6 hs);rw[J131 hs] at hc;simp(disch:=try exact O3)only[W0,E,X3 M,g0];refine R0 (C125 s H nx (by have:=hv s R;omega)) ?_;rintro _ _ _ ⟨rfl,rfl,rfl⟩
 cases hn:C71 s with
 | false=>
  simp(disch:=try exact O3)only[W0];rw[hc,Q123,if_neg (by simp[hn])]
 | true=>
  rw[Q123,if_pos hn] at hc;have hw:=fun k=>X131 (o:=o) (n:=l.length) (cap:=cap) (h:=i) J O0 k
  simp(disch:=try exact O3)only[W0,hw];have call:=C126 (some ⟨b,o,none⟩) (l.take i) s cap H nx (Sl.take hS i) (by rw[cK];omega);rw[cK,Nat.min_eq_left O0] at call;refine R0 call ?_;rintro _ _ _ ⟨rfl,rfl,rfl⟩;rw[Y136]
  by_cases B:s ∈ l.take i
  .have d:decide (s ∈ l.take i)=true:=by simp[B]
   simp(disch:=try exact O3)only[W0,d];rw[hc,if_pos B]
  .have d:decide (s ∈ l.take i)=false:=by simp[B]
   rw[if_neg B,<- R37 hs] at hc;simp(disch:=try exact O3)only[W0,d];exact Q (m-1) _ _ _ O0 ⟨i+1,O0,O2,hc,rfl,rfl⟩
theorem B149(q:M13)(H:Y0)(nx:Nat)(hv:q.aggvar.size<=100):Q2 gQ 42 [.agg ⟨Z16 q⟩] H nx fun r H' nx'=>O8 (Q117 q.agg q.aggvar)=r/\D0 H nx H' nx':=by
 refine spec42 ?_;unfold F42;unfold Z16;generalize q.agg=g;generalize q.aggvar=s at hv;have hE:∀ b,D0 H nx (hs H nx (some b)) (nx+1):=fun b=>(D0.refl H nx).nw _
 unfold Q117
 by_cases E:g=0\/g=1
 .rw[if_pos E]
  by_cases J:s=N3
  .have ds:decide (s=⟨#[]⟩)=true:=by simp[J,N3]
   rw[if_pos J]
   by_cases h0:g=0
   .have d0:decide (g=0)=true:=by simp[h0]
    simp(disch:=try exact O3)only[W0,Z0,Q0.val,N13,d0,N46,ds];exact hE _
   .have d0:decide (g=0)=false:=by simp[h0]
    have d1:decide (g=1)=true:=by simp[E.resolve_left h0]
    simp(disch:=try exact O3)only[W0,Z0,Q0.val,N13,d0,d1,N46,ds];exact hE _
  .have ds:decide (s=⟨#[]⟩)=false:=by simpa [N3] using J
   rw[if_neg J]
   by_cases h0:g=0
   .have d0:decide (g=0)=true:=by simp[h0]
    simp(disch:=try exact O3)only[W0,Z0,Q0.val,N13,d0,N46,ds];exact hE _
   .have d0:decide (g=0)=false:=by simp[h0]
    have d1:decide (g=1)=true:=by simp[E.resolve_left h0]
    simp(disch:=try exact O3)only[W0,Z0,Q0.val,N13,d0,d1,N46,ds];exact hE _
 rw[if_neg E];have d0:decide (g=0)=false:=by simp;exact fun h=>E (.inl h)
 have d1:decide (g=1)=false:=by simp;exact fun h=>E (.inr h)
 by_cases B:g=2\/g=3\/g=4
 case neg=>
  rw[if_neg B];have d2:decide (g=2)=false:=by simp;exact fun h=>B (.inl h)
  have d3:decide (g=3)=false:=by simp;exact fun h=>B (.inr (.inl h))
  have d4:decide (g=4)=false:=by simp;exact fun h=>B (.inr (.inr h))
  simp(disch:=try exact O3)only[W0,Z0,Q0.val,N13,d0,d1,d2,d3,d4];exact hE _
 rw[if_pos B];simp(disch:=try exact O3)only[W0,Z0,Q0.val,N13,d0,d1];generalize hK:hs H nx (O7 [.slice q.HA q.head.length q.hc,O8 g,.string s,.slice q.RA q.rules.length q.rc,.slice q.OA q.order.length q.oc])=K;have kQ:J0 K nx=O7 [.slice q.HA q.head.length q.hc,O8 g,.string s,.slice q.RA q.rules.length q.rc,.slice q.OA q.order.length q.oc]:=by rw[<- hK,Z11]
 have kE:D0 H nx K (nx+1):=by rw[<- hK];exact hE _
 have L:Y2 gQ 69 [.string s] K (nx+1) fun t H4 M=>C5 .not t fun O=>B0 O (cD .i64 (if C71 s=true then 0 else 7)=O8 7/\D0 H nx H4 M) (cD .i64 (if C71 s=true then 0 else 7)=O8 0/\D0 H nx H4 M):=by
  refine R0 (C125 s K _ O0) ?_;rintro _ _ _ ⟨rfl,rfl,rfl⟩
  cases hn:C71 s with
  | true => 
   simp(disch:=try exact O3)only[W0];exact kE
  | false => 
   simp(disch:=try exact O3)only[W0];exact kE
 by_cases h2:g=2
 .have d2:decide (g=2)=true:=by simp[h2]
  simp(disch:=try exact O3)only[W0,d2];exact L
 have d2:decide (g=2)=false:=by simp[h2]
 by_cases h3:g=3
 .have d3:decide (g=3)=true:=by simp[h3]
  simp(disch:=try exact O3)only[W0,d2,d3];exact L
 have d3:decide (g=3)=false:=by simp[h3]
 have d4:decide (g=4)=true:=by
  simp;exact(B.resolve_left h2).resolve_left h3
 simp(disch:=try exact O3)only[W0,d2,d3,d4];exact L
end
theorem G88(a b c d x y z u:Value):B12 [a,b,c,d] 0 [x,y,z,u]=[x,y,z,u]:=rfl
theorem N117(a b c d e x y z u v:Value):B12 [a,b,c,d,e] 0 [x,y,z,u,v]=[x,y,z,u,v]:=rfl
theorem B116(v a b c:Value)(k:VP):B10 [v,a,b,c] 1 (some 3) k=k (.agg ⟨[a,b,c]⟩):=by rw[X21];simp
theorem U125(v o a b c:Value)(k:VP):B10 [v,o,a,b,c] 2 (some 3) k=k (.agg ⟨[a,b,c]⟩):=by rw[X21];simp
theorem R131(k:VP):U11 [O8 0,O8 0,.string ⟨#[]⟩] [(0,1),(1,1),(2,1)] [] k=k (.agg ⟨[O8 0,O8 0,.string ⟨#[]⟩]⟩):=V14 _ _
theorem J138(a b:ByteArray):(a.toList==b.toList)=decide (a=b):=by
 rw[eX,beq_iff_eq,decide_eq_true_eq];exact⟨fun h=>J113 h,fun h=>by rw[h]⟩
theorem C134(kd i:Int)(s:ByteArray)(k:VP):D9 (.eqs true [⟨0,0⟩,⟨1,0⟩,⟨2,2⟩]) [.agg ⟨[O8 kd,O8 i,.string s]⟩,.agg ⟨[O8 0,O8 0,.string ⟨#[]⟩]⟩] k=k (.bool (!decide (kd=0/\i=0/\s=N3))):=by
 have e:VF.ev (.eqs true [⟨0,0⟩,⟨1,0⟩,⟨2,2⟩]) [.agg ⟨[O8 kd,O8 i,.string s]⟩,.agg ⟨[O8 0,O8 0,.string ⟨#[]⟩]⟩]=some (.bool (!(decide (kd=0/\i=0/\s=N3)))):=by
  show((G18 [O8 kd,O8 i,.string s] [O8 0,O8 0,.string ⟨#[]⟩] [⟨0,0⟩,⟨1,0⟩,⟨2,2⟩]).map fun r=>dU (cond true (!r) r))=_;have e2:G18 [O8 kd,O8 i,.string s] [O8 0,O8 0,.string ⟨#[]⟩] [⟨0,0⟩,⟨1,0⟩,⟨2,2⟩]=some ((kd==0)&&((i==0)&&((s.toList==(⟨#[]⟩:ByteArray).toList)&&true))):=rfl;rw[e2,J138];simp only[Option.map_some,cond_true];congr 3;rw[eX];simp[N3];exact decide_eq_true_iff.symm
 unfold D9;rw[e,J8];rfl
def Q130(a:J90):Prop:=a.rel.size<=100/\∀ t ∈ a.terms,t.var.size<=100
def C128(r:V32):Prop:=(∀ a ∈ r.atoms,Q130 a)/\∀ c ∈ r.conds,c.var.size<=100
theorem W146(a:J90)(H:Y0)(nx:Nat)(hA:D122 H nx a)(Z:Q130 a):Q2 gQ 100 [.agg ⟨Q115 a⟩] H nx fun r H' nx'=>O8 (Y26 a)=r/\D0 H nx H' nx':=by
 refine spec100 ?_;unfold F100;unfold Q115;have Y:D0 H nx (hs H nx (O7 [.bool a.neg,.string a.rel,.slice a.TA a.terms.length a.tc])) (nx+1):=(D0.refl H nx).nw _;have a5:=Z.1;simp(disch:=try exact O3)only[W0,Z0,Q0.val];refine R0 (C125 a.rel _ _ O0) ?_;rintro _ _ _ ⟨rfl,rfl,rfl⟩
 cases hn:C71 a.rel with
 | false=>
  simp(disch:=try exact O3)only[W0];exact⟨by rw[Y26,if_neg (by simp[hn])],Y⟩
 | true=>
 by_cases h6:6<a.terms.length
 .have d:(6:Int)<(a.terms.length:Int):=O0
  simp(disch:=try exact O3)only[W0,d];exact⟨by rw[Y26,if_pos hn,if_pos h6],Y⟩
 have d:¬ (6:Int)<(a.terms.length:Int):=O0;have U:Y26 a=B9 (a.terms.map V62):=by rw[Y26,if_pos hn,if_neg h6]
 rw[U];simp(disch:=try exact O3)only[W0,d];refine B1 (m:=a.terms.length) (fun m L H' nx'=>∃ i:Nat,m+i=a.terms.length/\L=[O8 (i:Int)]/\(∀(j:Nat) t,j<i->a.terms[j]? = some t->V62 t=0)/\D0 H nx H' nx') ?_ ⟨0,rfl,rfl,fun j t h=>O0,Y⟩;rintro m ih L H2 nx2 ⟨i,hm,rfl,hz,W⟩ a4;simp(disch:=try exact O3)only[W0]
 by_cases hi:i<a.terms.length
 case neg=>
  have M:¬ (i:Int)<(a.terms.length:Int):=O0;simp(disch:=try exact O3)only[W0,M];exact⟨by rw[V123 fun j t ht=>hz j t (by have:=(aJ.1 ht).1;omega) ht],W⟩
 have M:(i:Int)<(a.terms.length:Int):=O0;obtain⟨t,ht⟩:∃ t,a.terms[i]? = some t:=⟨_,aE hi⟩
 have a3:=aH ht;have a7:=Z.2 t a3;obtain⟨b,o,row,a1,hb,R,_,B⟩:=Sl.elem (hA.ext W) V117 O0 ht;have J:∀ {c:Int} {H':Y0} {nx':Nat},V62 t=c->c≠0->D0 H nx H' nx'->cD .i64 (B9 (a.terms.map V62))=O8 c/\D0 H nx H' nx':=fun h1 h2 h3=>⟨by rw[B124 hz ht (by rw[h1];exact h2),h1],h3⟩
 have next:∀ {H':Y0} {nx':Nat},V62 t=0->D0 H nx H' nx'->ih [O8 ((i:Int)+1)] H' nx':=fun h1 h3=>
  a4 (m-1) _ _ _ O0 ⟨i+1,O0,O2,fun j u hj hu=>by
   by_cases a2:j=i
   .subst a2;rw[ht] at hu;cases hu;exact h1
   .exact hz j u O0 hu,h3⟩
 have E:∀ b1 b2,D0 H nx (hs (hs H2 nx2 (some b1)) nx2 (some b2)) (nx2+1):=fun b1 b2=>W.trans (((D0.refl H2 nx2).nw _:D0 H2 nx2 _ (nx2+1)).h0)
 unfold U118 at B;rw[a1]
 by_cases hv:t.var=N3
 .have dv:decide (t.var=⟨#[]⟩)=true:=by simp[hv,N3]
  simp(disch:=try exact O3)only[W0,Z0,Nat.reduceAdd,M,X3 R,B,D121,G88,N13,K5,dv,B116];refine R0 (M131 t.kind t.int t.str _ _) ?_;rintro _ H4 a6 ⟨rfl,a0⟩
  cases Q:V83 t.kind t.int t.str with
  | false=>
   simp(disch:=try exact O3)only[W0];exact J (by rw[V62,if_pos hv,if_neg (by simp[Q])]) (by decide) ((E _ _).trans a0)
  | true=>
   simp(disch:=try exact O3)only[W0];exact next (by rw[V62,if_pos hv,if_pos Q]) ((E _ _).trans a0)
 .have dv:decide (t.var=⟨#[]⟩)=false:=by simpa [N3] using hv
  simp(disch:=try exact O3)only[W0,Z0,Nat.reduceAdd,M,X3 R,B,D121,G88,N13,K5,dv,B116];refine R0 (C125 t.var _ _ O0) ?_;rintro _ _ _ ⟨rfl,rfl,rfl⟩
  cases V:C71 t.var with
  | false=>
   simp(disch:=try exact O3)only[W0];exact J (by rw[V62,if_neg hv,if_neg (by simp[V])]) (by decide) (E _ _)
  | true=>
   by_cases O:t.kind=0/\t.int=0/\t.str=N3
   .have dz:decide (t.kind=0/\t.int=0/\t.str=N3)=true:=decide_eq_true O
    simp(disch:=try exact O3)only[W0,B116,R131,C134,dz];exact next (by rw[V62,if_neg hv,if_pos V,if_pos O]) (E _ _)
   .have dz:decide (t.kind=0/\t.int=0/\t.str=N3)=false:=decide_eq_false O
    simp(disch:=try exact O3)only[W0,B116,R131,C134,dz];exact J (by rw[V62,if_neg hv,if_pos V,if_neg O]) (by decide) (E _ _)
theorem B146(r:V32)(H:Y0)(nx:Nat)(hA:V118 H nx r)(ad:C128 r):Q2 gQ 71 [.agg ⟨K111 r⟩] H nx fun v H' nx'=>O8 (G23 r)=v/\D0 H nx H' nx':=by
 refine spec71 ?_;unfold F71;unfold K111;have R:D0 H nx (hs H nx (O7 [.slice r.AA r.atoms.length r.ac,.slice r.CA r.conds.length r.cc])) (nx+1):=(D0.refl H nx).nw _;have a8:J0 (hs H nx (O7 [.slice r.AA r.atoms.length r.ac,.slice r.CA r.conds.length r.cc])) nx=O7 [.slice r.AA r.atoms.length r.ac,.slice r.CA r.conds.length r.cc]:=Z11 _ _ _
 by_cases h0:r.atoms.length=0
 .have d0:decide (r.atoms.length=0)=true:=decide_eq_true h0
  simp(disch:=try exact O3)only[W0,Z0,Q0.val,d0];exact⟨by rw[G23,if_pos h0],R⟩
 have d0:decide (r.atoms.length=0)=false:=decide_eq_false h0
 by_cases h8:8<r.atoms.length\/8<r.conds.length
 .have hc:G23 r=12:=by rw[G23,if_neg h0,if_pos h8]
  by_cases af:8<r.atoms.length
  .have d1:(8:Int)<(r.atoms.length:Int):=O0
   simp(disch:=try exact O3)only[W0,Z0,Q0.val,d0,d1,N13];exact⟨by rw[hc],R⟩
  .have d1:¬ (8:Int)<(r.atoms.length:Int):=O0
   have d2:(8:Int)<(r.conds.length:Int):=by have:=h8.resolve_left af;omega
   simp(disch:=try exact O3)only[W0,Z0,Q0.val,d0,d1,d2,N13];exact⟨by rw[hc],R⟩
 have d1:¬ (8:Int)<(r.atoms.length:Int):=O0;have d2:¬ (8:Int)<(r.conds.length:Int):=O0;have hc:G23 r=if B9 (r.atoms.map Y26)≠0 then B9 (r.atoms.map Y26) else B9 (r.conds.map X63):=by rw[G23,if_neg h0,if_neg h8]
 rw[hc];generalize hX:(if B9 (r.atoms.map Y26)≠0 then B9 (r.atoms.map Y26) else B9 (r.conds.map X63))=X;simp(disch:=try exact O3)only[W0,Z0,Q0.val,d0,d1,d2,N13];generalize hs H nx (O7 [.slice r.AA r.atoms.length r.ac,.slice r.CA r.conds.length r.cc])=H1 at R a8 ⊢;refine B1 (m:=r.atoms.length) (fun m L H' nx'=>∃ i:Nat,m+i=r.atoms.length/\L=[O8 (i:Int)]/\(∀(j:Nat) a,j<i->r.atoms[j]? = some a->Y26 a=0)/\D0 H1 (nx+1) H' nx') ?_ ⟨0,rfl,rfl,fun j t h=>O0,D0.refl _ _⟩;rintro m ih L H2 nx2 ⟨i,hm,rfl,hz,a4⟩ aj;have E:=R.trans a4;have ag:=(a4.gt nx).trans a8;simp(disch:=try exact O3)only[W0]
 by_cases hi:i<r.atoms.length
 case pos=>
  have a5:(i:Int)<(r.atoms.length:Int):=O0;obtain⟨a,ha⟩:∃ a,r.atoms[i]? = some a:=⟨_,aE hi⟩
  have ab:=aH ha;obtain⟨b,o,row,ak,hb,U,_,B⟩:=Sl.elem (hA.ext E).atoms M117 O0 ha;have Z:D0 H2 nx2 (hs (hs H2 nx2 (O7 [.bool false,.string ⟨#[]⟩,O6])) nx2 (O7 (Q115 a))) (nx2+1):=((D0.refl H2 nx2).nw _:D0 H2 nx2 _ (nx2+1)).h0;have call:=W146 a _ _ ((hA.terms a ab).ext (E.trans Z)) (ad.1 a ab);unfold Q115 at B Z call;rw[ak];simp(disch:=try exact O3)only[W0,Z0,Nat.reduceAdd,a5,X3 U,B,D7,Y12];refine R0 call ?_;rintro _ H4 al ⟨rfl,a9⟩
  by_cases Q:Y26 a=0
  .have d:decide (Y26 a≠0)=false:=by simp[Q]
   simp(disch:=try exact O3)only[W0,d];refine aj (m-1) _ _ _ O0 ⟨i+1,O0,O2,fun j u hj hu => ?_,a4.trans (Z.trans a9)⟩
   by_cases a3:j=i
   .subst a3;rw[ha] at hu;cases hu;exact Q
   .exact hz j u O0 hu
  .have d:decide (Y26 a≠0)=true:=by simp[Q]
   have e:=B124 hz ha Q;simp(disch:=try exact O3)only[W0,d];exact⟨by rw[<- hX,e,if_pos Q],E.trans (Z.trans a9)⟩
 have a5:¬ (i:Int)<(r.atoms.length:Int):=O0;have e0:B9 (r.atoms.map Y26)=0:=V123 fun j t ht=>hz j t (by have:=(aJ.1 ht).1;omega) ht
 rw[if_neg (by simp[e0])] at hX;subst hX;simp(disch:=try exact O3)only[W0,a5,ag];refine B1 (m:=r.conds.length) (fun m L H' nx'=>∃ i:Nat,m+i=r.conds.length/\L=[O8 (i:Int)]/\(∀(j:Nat) c,j<i->r.conds[j]? = some c->X63 c=0)/\D0 H nx H' nx') ?_ ⟨0,rfl,rfl,fun j t h=>O0,E⟩;rintro m5 ap L5 H5 M ⟨i5,an,rfl,a6,a2⟩ a7;simp(disch:=try exact O3)only[W0]
 by_cases ae:i5<r.conds.length
 case neg=>
  have V:¬ (i5:Int)<(r.conds.length:Int):=O0;simp(disch:=try exact O3)only[W0,V];exact⟨by rw[V123 fun j t ht=>a6 j t (by have:=(aJ.1 ht).1;omega) ht],a2⟩
 have V:(i5:Int)<(r.conds.length:Int):=O0;obtain⟨c,a0⟩:∃ c,r.conds[i5]? = some c:=⟨_,aE ae⟩
 have ai:=aH a0;have am:=ad.2 c ai;obtain⟨b,o,row,ah,hb,U,_,B⟩:=Sl.elem (hA.ext a2).conds C121 O0 a0;have W:∀ b1 b2,D0 H nx (hs (hs H5 M (some b1)) M (some b2)) (M+1):=fun b1 b2=>a2.trans (((D0.refl H5 M).nw _:D0 H5 M _ (M+1)).h0)
 have J:∀ {cc:Int} {H':Y0} {nx':Nat},X63 c=cc->cc≠0->D0 H nx H' nx'->cD .i64 (B9 (r.conds.map X63))=O8 cc/\D0 H nx H' nx':=fun h1 h2 h3=>⟨by rw[B124 a6 a0 (by rw[h1];exact h2),h1],h3⟩
 unfold Y127 at B;rw[ah];simp(disch:=try exact O3)only[W0,Z0,Nat.reduceAdd,V,X3 U,B,R109,N117];refine R0 (C125 c.var _ _ O0) ?_;rintro _ _ _ ⟨rfl,rfl,rfl⟩
 cases Y:C71 c.var with
 | false=>
  simp(disch:=try exact O3)only[W0];exact J (by rw[X63,if_neg (by simp[Y])]) (by decide) (W _ _)
 | true=>
 by_cases O:c.op<0\/5<c.op
 .have e:X63 c=2:=by rw[X63,if_pos Y,if_pos O]
  by_cases h1:c.op<0
  .simp(disch:=try exact O3)only[W0,h1]
   exact J e (by decide) (W _ _)
  .have h2:(5:Int)<c.op:=O.resolve_left h1
   simp(disch:=try exact O3)only[W0,h1,h2];exact J e (by decide) (W _ _)
 have h1:¬ c.op<0:=fun h=>O (.inl h)
 have h2:¬ (5:Int)<c.op:=fun h=>O (.inr h)
 simp(disch:=try exact O3)only[W0,h1,h2,U125];refine R0 (M131 c.kind c.int c.str _ _) ?_;rintro _ H7 ao ⟨rfl,aa⟩
 cases a1:V83 c.kind c.int c.str with
 | false=>
  simp(disch:=try exact O3)only[W0];exact J (by rw[X63,if_pos Y,if_neg O,if_neg (by simp[a1])]) (by decide) ((W _ _).trans aa)
 | true=>
  simp(disch:=try exact O3)only[W0];refine a7 (m5-1) _ _ _ O0 ⟨i5+1,O0,O2,fun j u hj hu => ?_,(W _ _).trans aa⟩
  by_cases a3:j=i5
  .subst a3;rw[a0] at hu;cases hu;rw[X63,if_pos Y,if_neg O,if_pos a1]
  .exact a6 j u O0 hu
structure VS (H:Y0) (n0 nx:Nat) (acc:List ByteArray):Prop where
 box:J0 H (n0+3)=some (.cells [.map (some (n0+2))] 0)
 vars:∃ v,J0 H (n0+1)=some (.cells [v] 0)/\J6 (n0+4) H nx 1 v acc.length (N0 acc)
 set:∃ S:ByteArray->Bool,J75 H (n0+2) S/\∀ s,S s=true<->s=N3\/s ∈ acc
theorem VS.ext{H:Y0}{n0 nx:Nat}{acc:List ByteArray}{H':Y0}{nx':Nat}(h:VS H n0 nx acc)(hn:n0+4<=nx)(e:D0 H nx H' nx'):VS H' n0 nx' acc:=by
 obtain⟨v,h1,h2⟩:=h.vars;obtain⟨S,h3,h4⟩:=h.set;exact⟨by rw[e.gt _];exact h.box,⟨v,by rw[e.gt _];exact h1,h2.ext e⟩,⟨S,h3.ext O0 e,h4⟩⟩
theorem R137(a x:Value):B12 [a] 0 [x]=[x]:=rfl
theorem Q125(k:Prop):M64 none k=k:=rfl
theorem E132(l:List ByteArray)(v:ByteArray):N0 l++[.string v]=N0 (l++[v]):=by simp[N0]
theorem R144{n0:Nat}(acc:List ByteArray)(v:ByteArray)(H:Y0)(nx:Nat)(h:VS H n0 nx acc)(hn:n0+4<=nx)(hl:acc.length<=1000):
  Q2 gQ 76 [.string v,.pointer (some ⟨n0+3,0,none⟩),.pointer (some ⟨n0+1,0,none⟩)] H nx fun _ H' nx'=>VS H' n0 nx' (X41 acc v)/\nx<=nx'/\∀ i,i<=n0->J0 H' i=J0 H i:=by
 refine spec76 ?_;unfold F76;obtain⟨u,hu,O⟩:=h.vars;obtain⟨S,hS,R⟩:=h.set;have hb:=h.box
 cases hv:S v with
 | true=>
  simp(disch:=try exact O3)only[W0,Q0.val,hb,hS.lk,hv];rw[X41,if_pos ((R v).1 hv)];exact⟨h,fun i _=>trivial⟩
 | false=>
  have Z:¬ (v=N3\/v ∈ acc):=fun q=>by have:=(R v).2 q;rw[hv] at this;cases this
  simp(disch:=try exact O3)only[W0,Q0.val,hb,hS.lk,hv];refine hS.put v ?_;intro blk M;have a1:n0+3≠n0+2:=O0;have Q:J0 (hs H (n0+2) (some blk)) (n0+1)=O7 [u]:=by rw[gN _];exact hu
  have U:J0 (hs H (n0+2) (some blk)) (n0+3)=O7 [.map (some (n0+2))]:=by rw[gN _];exact hb
  have L:∀ i,i<=n0->J0 (hs H (n0+2) (some blk)) i=J0 H i:=fun i hi=>gN _
  have B:J6 (n0+4) (hs H (n0+2) (some blk)) nx 1 u acc.length (N0 acc):=by
   refine⟨O.1,O.2.imp id ?_⟩;rintro⟨b,h1,h2,h3,h4⟩;exact⟨b,h1,h2,h3,by rw[gN _];exact h4⟩
  generalize hs H (n0+2) (some blk)=H1 at M Q U L B ⊢;have W:∀(x:ByteArray) (k:List Value->Prop),K6 1 1 [.string ⟨#[]⟩] [(0,.string x)] k=k [.string x]:=fun x k=>rfl
  simp(disch:=try exact O3)only[W0,Q,W];have V:D0 H1 nx (hs H1 nx (O7 [.string v])) (nx+1):=(D0.refl _ _).nw _;refine Y20 (H0:=H1) (lo:=n0+4) (l:=[.string v]) (m:=1) O0 (B.ext V) (J9 (Z11 _ _ _) rfl O0) O0 rfl O0 O0 ⟨O0,fun i hi=>V.gt i⟩ O0 ?_;intro v' H2 J E _;have a0:=(E.gt (n0+1)).trans Q;have Y:=(E.gt (n0+3)).trans U;obtain⟨A2,rfl,_⟩:=J.sl;simp(disch:=try exact O3)only[W0,a0,R137];rw[X41,if_neg Z];rw[E132] at J;refine⟨⟨by rw[gN _];exact Y,⟨_,Z11 _ _ _,?_⟩,⟨_,M.same ?_,fun s => ?_⟩⟩,O0,fun i hi => ?_⟩
  .have e:(acc++[v]).length=acc.length+1:=O2
   rw[e];refine⟨J.1,J.2.imp id ?_⟩;rintro⟨b,h1,h2,h3,h4⟩;exact⟨b,h1,h2,h3,by rw[gN _];exact h4⟩
  .rw[gN _];exact E.gt _
  .rw[cO,R,decide_eq_true_eq,dN,dJ,or_assoc]
  .rw[gN _,E.gt i,L i hi]
theorem U83:∀(l acc:List ByteArray),(l.foldl X41 acc).length<=acc.length+l.length
 | [],acc=>O2
 | v :: l,acc=>by
  rw[dF];have h1:=U83 l (X41 acc v);have h2:(X41 acc v).length<=acc.length+1:=by
   by_cases h:v=N3\/v ∈ acc
   .rw[X41,if_pos h];omega
   .rw[X41,if_neg h];simp
  simp only[cV];omega
structure Q126 (r:V32):Prop where
 atoms:r.atoms.length<=8
 terms:∀ a ∈ r.atoms,a.terms.length<=6
 conds:r.conds.length<=8
theorem G134{r:V32}(h:Q126 r):∀ i,((r.atoms.take i).flatMap fun a=>a.terms.map R33.var).length<=48:=by
 intro i;have:∀(l:List J90),(∀ a ∈ l,a.terms.length<=6)->(l.flatMap fun a=>a.terms.map R33.var).length<=6*l.length:=by
  intro l
  induction l with
  | nil=>simp
  | cons a l ih=>
   intro hl;have h1:=ih fun b hb=>hl b (eJ _ hb)
   have h2:=hl a List.mem_cons_self;rw[List.flatMap_cons,bH,gM,cV];omega
 have h1:=this (r.atoms.take i) fun a ha=>h.terms a (List.mem_of_mem_take ha)
 have h2:=h.atoms;rw[cK] at h1;omega
theorem R148(r:V32)(H:Y0)(nx:Nat)(hA:V118 H nx r)(hB:Q126 r):Q2 gQ 47 [.agg ⟨K111 r⟩] H nx fun v H' nx'=>J6 nx H' nx' 1 v (D34 r).length (N0 (D34 r))/\D0 H nx H' nx':=by
 refine spec47 ?_;unfold F47;unfold K111;have b4:=hB.atoms;have b6:=hB.conds;simp(disch:=try exact O3)only[W0,Z0,Q0.val,Q125];generalize a2:hs (hs (hs H nx (O7 [.slice r.AA r.atoms.length r.ac,.slice r.CA r.conds.length r.cc])) (nx+1) (O7 [O6])) (nx+1+1) (some (.map [] 0))=K1;have ar:J0 K1 (nx+1+1)=some (.map [] 0):=by rw[<- a2,Z11]
 have ap:J0 K1 nx=O7 [.slice r.AA r.atoms.length r.ac,.slice r.CA r.conds.length r.cc]:=by rw[<- a2,gN _,gN _,Z11]
 have ay:J0 K1 (nx+1)=O7 [O6]:=by rw[<- a2,gN _,Z11]
 have aq:∀ i,i<nx->J0 K1 i=J0 H i:=fun i hi=>by rw[<- a2,gN _,gN _,gN _]
 refine(J75.nil ar).put ⟨#[]⟩ ?_;intro blk a5;have ab:J0 (hs K1 (nx+1+1) (some blk)) nx=O7 [.slice r.AA r.atoms.length r.ac,.slice r.CA r.conds.length r.cc]:=by rw[gN _];exact ap
 have aj:J0 (hs K1 (nx+1+1) (some blk)) (nx+1)=O7 [O6]:=by rw[gN _];exact ay
 have ai:∀ i,i<nx->J0 (hs K1 (nx+1+1) (some blk)) i=J0 H i:=fun i hi=>by rw[gN _];exact aq i hi
 generalize hs K1 (nx+1+1) (some blk)=K2 at a5 ab aj ai ⊢;simp(disch:=try exact O3)only[W0,R137,ab];generalize a1:hs (hs K2 (nx+1+1+1) (O7 [.map none])) (nx+1+1+1) (O7 [.map (some (nx+1+1))])=K3;have al:J0 K3 nx=O7 [.slice r.AA r.atoms.length r.ac,.slice r.CA r.conds.length r.cc]:=by rw[<- a1,gN _,gN _];exact ab
 have ag:D0 H nx K3 (nx+4):=⟨O0,fun i hi=>by rw[<- a1,gN _,gN _];exact ai i hi⟩
 have ax:VS K3 nx (nx+4) []:=by
  refine⟨by rw[<- a1,Z11],⟨O6,by rw[<- a1,gN _,gN _];exact aj,J6.nil _ _ _ _⟩,⟨_,a5.same (by rw[<- a1,gN _,gN _]),fun s => ?_⟩⟩;simp[N3]
 have aa:nx+1+1+1+1=nx+4:=O0;refine B1 (m:=r.atoms.length) (fun m L H' nx'=>∃ i:Nat,m+i=r.atoms.length/\L=[O8 (i:Int)]/\VS H' nx nx' (((r.atoms.take i).flatMap fun a=>a.terms.map R33.var).foldl X41 [])/\nx+4<=nx'/\∀ q,q<=nx->J0 H' q=J0 K3 q) ?_ ⟨0,rfl,rfl,by simpa [aa] using ax,O0,fun q _=>rfl⟩;rintro m ih L H2 nx2 ⟨i,hm,rfl,af,an,U⟩ aw;have g2:=(U nx (aD _)).trans al;have ao:D0 H nx H2 nx2:=⟨O0,fun q hq=>(U q O0).trans (ag.get q hq)⟩
 simp(disch:=try exact O3)only[W0]
 by_cases hi:i<r.atoms.length
 case pos=>
  have ad:(i:Int)<(r.atoms.length:Int):=O0;obtain⟨a,ha⟩:∃ a,r.atoms[i]? = some a:=⟨_,aE hi⟩
  have ae:=aH ha;have b7:=hB.terms a ae;obtain⟨b,o,row,b1,hb,ah,_,Y⟩:=Sl.elem (hA.ext ao).atoms M117 O0 ha;unfold Q115 at Y;rw[b1];simp(disch:=try exact O3)only[W0,Z0,Nat.reduceAdd,ad,X3 ah,Y,D7];have a8:D0 H2 nx2 (hs (hs H2 nx2 (O7 [.bool false,.string ⟨#[]⟩,O6])) nx2 (O7 [.bool a.neg,.string a.rel,.slice a.TA a.terms.length a.tc])) (nx2+1):=((D0.refl H2 nx2).nw _:D0 H2 nx2 _ (nx2+1)).h0;have a7:=af.ext an a8;have W:∀ q,q<=nx->J0 (hs (hs H2 nx2 (O7 [.bool false,.string ⟨#[]⟩,O6])) nx2 (O7 [.bool a.neg,.string a.rel,.slice a.TA a.terms.length a.tc])) q=J0 K3 q:=fun q hq=>(a8.gt q).trans (U q hq)
  generalize hs (hs H2 nx2 (O7 [.bool false,.string ⟨#[]⟩,O6])) nx2 (O7 [.bool a.neg,.string a.rel,.slice a.TA a.terms.length a.tc])=H3 at a8 a7 W ⊢;refine B1 (m:=a.terms.length) (fun m L H' nx'=>∃ j:Nat,m+j=a.terms.length/\L=[O8 (j:Int)]/\VS H' nx nx' (((a.terms.take j).map R33.var).foldl X41 (((r.atoms.take i).flatMap fun a=>a.terms.map R33.var).foldl X41 []))/\nx+4<=nx'/\∀ q,q<=nx->J0 H' q=J0 K3 q) ?_ ⟨0,rfl,rfl,by simpa using a7,O0,W⟩;rintro m4 az L4 H4 B ⟨j,b2,rfl,M,a4,J⟩ Z;have a3:D0 H nx H4 B:=⟨O0,fun q hq=>(J q O0).trans (ag.get q hq)⟩
  simp(disch:=try exact O3)only[W0]
  by_cases hj:j<a.terms.length
  case neg=>
   have O:¬ (j:Int)<(a.terms.length:Int):=O0;simp(disch:=try exact O3)only[W0,O];refine aw (m-1) _ _ _ O0 ⟨i+1,O0,O2,?_,a4,J⟩;rw[R37 ha,List.flatMap_append,List.foldl_append];have e:a.terms.take j=a.terms:=gJ O0;rw[e] at M;simpa using M
  have O:(j:Int)<(a.terms.length:Int):=O0;obtain⟨t,ht⟩:∃ t,a.terms[j]? = some t:=⟨_,aE hj⟩
  obtain⟨b5,o5,ak,am,b3,Q,_,E⟩:=Sl.elem (show Sl H4 B a.TA (a.terms.flatMap U118) from(hA.terms a ae).ext a3) V117 O0 ht;unfold U118 at E;rw[am];simp(disch:=try exact O3)only[W0,Z0,Nat.reduceAdd,O,X3 Q,E,D121,G88];have V:D0 H4 B (hs (hs H4 B (O7 [.string ⟨#[]⟩,O8 0,O8 0,.string ⟨#[]⟩])) B (O7 [.string t.var,O8 t.kind,O8 t.int,.string t.str])) (B+1):=((D0.refl H4 B).nw _:D0 H4 B _ (B+1)).h0;have a9:((((a.terms.take j).map R33.var).foldl X41 (((r.atoms.take i).flatMap fun a=>a.terms.map R33.var).foldl X41 []))).length<=1000:=by
   have h1:=U83 ((a.terms.take j).map R33.var) (((r.atoms.take i).flatMap fun a=>a.terms.map R33.var).foldl X41 []);have h2:=U83 ((r.atoms.take i).flatMap fun a=>a.terms.map R33.var) [];have h3:=G134 hB i;have h4:=hB.terms a ae;rw[gM,cK] at h1;simp only[bE] at h2;omega
  refine V22 (first:=[]) (args:=[.string t.var]) (cap:=[.pointer (some ⟨nx+3,0,none⟩),.pointer (some ⟨nx+1,0,none⟩)]) (R144 _ t.var _ _ (M.ext a4 V) O0 a9) ?_;rintro _ H6 av ⟨a0,b0,R⟩
  try simp(disch:=try exact O3)only[W0,Z0,Q0.val,Nat.reduceAdd,Nat.reduceMul,Nat.reduceLeDiff]
  refine Z (m4-1) _ _ _ O0 ⟨j+1,O0,O2,?_,O0,fun q hq=>(R q hq).trans ((V.gt q).trans (J q hq))⟩;rw[R37 ht,List.map_append,List.foldl_append];exact a0
 have ad:¬ (i:Int)<(r.atoms.length:Int):=O0;rw[gJ O0] at af;simp(disch:=try exact O3)only[W0,ad,g2];refine B1 (m:=r.conds.length) (fun m L H' nx'=>∃ j:Nat,m+j=r.conds.length/\L=[O8 (j:Int)]/\VS H' nx nx' (((r.conds.take j).map Q111.var).foldl X41 ((Q112 r).foldl X41 []))/\nx+4<=nx'/\∀ q,q<=nx->J0 H' q=J0 K3 q) ?_ ⟨0,rfl,rfl,by simpa [Q112] using af,O0,U⟩;rintro m4 az L4 H4 B ⟨j,b2,rfl,M,a4,J⟩ Z;have a3:D0 H nx H4 B:=⟨O0,fun q hq=>(J q O0).trans (ag.get q hq)⟩
 simp(disch:=try exact O3)only[W0]
 by_cases hj:j<r.conds.length
 case neg=>
  have O:¬ (j:Int)<(r.conds.length:Int):=O0;rw[gJ O0,<- List.foldl_append] at M;obtain⟨v,hv,a6⟩:=M.vars;simp(disch:=try exact O3)only[W0,O,hv];refine⟨?_,a3⟩;refine⟨a6.1,a6.2.imp id ?_⟩;rintro⟨b,h1,h2,h3,h4⟩;exact⟨b,O0,h2,h3,h4⟩
 have O:(j:Int)<(r.conds.length:Int):=O0;obtain⟨c,hc⟩:∃ c,r.conds[j]? = some c:=⟨_,aE hj⟩
 obtain⟨b5,o5,ak,au,b3,Q,_,E⟩:=Sl.elem (hA.ext a3).conds C121 O0 hc;unfold Y127 at E;rw[au];simp(disch:=try exact O3)only[W0,Z0,Nat.reduceAdd,O,X3 Q,E,R109,N117];have V:D0 H4 B (hs (hs H4 B (O7 [.string ⟨#[]⟩,O8 0,O8 0,O8 0,.string ⟨#[]⟩])) B (O7 [.string c.var,O8 c.op,O8 c.kind,O8 c.int,.string c.str])) (B+1):=((D0.refl H4 B).nw _:D0 H4 B _ (B+1)).h0;have a9:((((r.conds.take j).map Q111.var).foldl X41 ((Q112 r).foldl X41 []))).length<=1000:=by
  have h1:=U83 ((r.conds.take j).map Q111.var) ((Q112 r).foldl X41 []);have h2:=U83 (Q112 r) [];have h3:=G134 hB r.atoms.length;rw[List.take_length] at h3;have h4:=hB.conds;rw[gM,cK] at h1;simp only[bE] at h2;unfold Q112 at h1 h2 ⊢;omega
 refine V22 (first:=[]) (args:=[.string c.var]) (cap:=[.pointer (some ⟨nx+3,0,none⟩),.pointer (some ⟨nx+1,0,none⟩)]) (R144 _ c.var _ _ (M.ext a4 V) O0 a9) ?_;rintro _ H6 av ⟨a0,b0,R⟩
 try simp(disch:=try exact O3)only[W0,Z0,Q0.val,Nat.reduceAdd,Nat.reduceMul,Nat.reduceLeDiff]
 refine Z (m4-1) _ _ _ O0 ⟨j+1,O0,O2,?_,O0,fun q hq=>(R q hq).trans ((V.gt q).trans (J q hq))⟩;rw[R37 hc,List.map_append,List.foldl_append];exact a0
section
variable (a0:Value) (H:Y0) (nx:Nat) (k:EP)
def F70:Prop:=
 D9 (.eqn false (.slice 9)) [a0,(.slice none 0 0)] fun b=>
 B0 b (
 Rt (.slice none 0 0) H nx k) (
 D24 0 1 [.string ⟨#[]⟩] [] H nx fun b c d=>
 B5 b a0 1 16 c d fun b c d=>
 Rt b c d k)
def F73:Prop:=
 R4 a0 0 H fun b=>
 G3 (fun c d e f=>
 D10 .lss d.b b fun b=>
 B0 b (
 V4 (fun b=>
 U6 a0 d.b e fun _ c=>
 R4 c 0 e fun c=>
 D10 .add d.a c fun c=>
 D10 .lss c i0 fun d=>
 B0 d (
 D9 .bad [] fun _=>
 b [c] e f) (
 b [c] e f)) (fun b e f=>
 D10 .add d.b i1 fun d=>
 c [b.a,d] e f)) (
 Y2 gQ 101 [(.slice none 0 0),d.a] e f fun b c d=>
 R4 a0 0 c fun e=>
 G3 (fun b c d f=>
 D10 .lss c.b e fun e=>
 B0 e (
 U6 a0 c.b d fun _ e=>
 B5 c.a e 1 16 d f fun d e f=>
 D10 .add c.b i1 fun c=>
 b [d,c] e f) (
 Rt c.a d f k)) [b,i0] c d)) [i0,i0] H nx
def F43:Prop:=
 M12 a0 H nx fun b c d=>
 K7 b 0 c fun _ e=>
 Y2 gQ 70 [e] c d fun c d e=>
 V4 (fun f=>
 K7 b 2 d fun _ g=>
 D10 .neq g (.string ⟨#[]⟩) fun g=>
 B0 g (
 K7 b 2 d fun _ b=>
 D24 1 1 [.string ⟨#[]⟩] [(0,b)] d e fun b d e=>
 B5 c b 1 16 d e fun b c d=>
 f [b] c d) (
 f [c] d e)) (fun c d e=>
 K7 b 3 d fun _ b=>
 R4 b 0 d fun f=>
 G3 (fun d e g h=>
 D10 .lss e.b f fun f=>
 B0 f (
 B15 b e.b 2 g fun _ b=>
 Q4 [.slice none 0 0,.slice none 0 0] g h fun f g h=>
 D5 f b 2 g fun b=>
 J1 f (some 2) b fun g=>
 Y2 gQ 71 [g] b h fun b g h=>
 D10 .neq b i0 fun i=>
 B0 i (
 Rt b g h k) (
 J1 f (some 2) g fun i=>
 Y2 gQ 47 [i] g h fun g h i=>
 R4 g 0 h fun j=>
 D10 .gtr j (.int .i64 8) fun j=>
 B0 j (
 Rt (.int .i64 12) h i k) (
 J1 f (some 2) h fun f=>
 Y2 gQ 72 [f] h i fun f h i=>
 D24 2 1 [.slice none 0 0] [(0,c.a),(1,g)] h i fun c g h=>
 Y2 gQ 73 [c] g h fun c g h=>
 R4 c 0 g fun i=>
 G3 (fun b g h j=>
 D10 .lss g.b i fun i=>
 B0 i (
 U6 c g.b h fun _ c=>
 wLk .string bF f c false h fun c=>
 C5 .not c fun c=>
 B0 c (
 Rt (.int .i64 22) h j k) (
 D10 .add g.b i1 fun c=>
 b [g.a,c] h j)) (
 D10 .add e.b i1 fun b=>
 d [g.a,b] h j)) [b,i0] g h))) (
 Rt e.a g h k)) [i0,i0] d e)
def F44:Prop:=
 M12 a0 H nx fun b c d=>
 M64 none <| J3 (.map [] 0) .map c d fun c d e=>
 K7 b 4 d fun _ f=>
 R4 f 0 d fun g=>
 G3 (fun d e h i=>
 D10 .lss e.a g fun g=>
 B0 g (
 B15 f e.a 2 h fun _ f=>
 Q4 [.string ⟨#[]⟩,.bool false] h i fun g h i=>
 D5 g f 2 h fun f=>
 K7 b 0 f fun _ b=>
 K7 g 0 f fun _ h=>
 Y2 gQ 39 [b,h] f i fun b f h=>
 C5 .not b fun b=>
 B0 b (
 Rt (.int .i64 7) f h k) (
 K7 g 0 f fun _ b=>
 wLk .string bF c b false f fun b=>
 B0 b (
 Rt (.int .i64 8) f h k) (
 K7 g 0 f fun _ b=>
 W56 .string c b bT f h fun _ b c=>
 D10 .add e.a i1 fun e=>
 d [e] b c))) (
 Rt i0 h i k)) [i0] d e
def F17:Prop:=
 M12 a0 H nx fun b c d=>
 K7 b 3 c fun _ e=>
 R4 e 0 c fun e=>
 D10 .eql e i0 fun e=>
 B0 e (
 Rt (.int .i64 10) c d k) (
 V4 (fun e=>
 K7 b 3 c fun _ f=>
 R4 f 0 c fun f=>
 D10 .gtr f (.int .i64 3) fun f=>
 C1 false f (
 K7 b 3 c fun _ f=>
 R4 f 0 c fun f=>
 D10 .gtr f i1 fun f=>
 C1 true f (
 K7 b 1 c fun _ b=>
 D10 .neq b i0 fun b=>
 e [b] c d) (
 e [bF] c d)) (
 e [bT] c d)) (fun c d e=>
 B0 c.a (
 Rt (.int .i64 12) d e k) (
 K7 b 0 d fun _ c=>
 Y2 gQ 41 [c] d e fun c d e=>
 D10 .neq c i0 fun f=>
 B0 f (
 Rt c d e k) (
 J1 b (some 5) d fun c=>
 Y2 gQ 42 [c] d e fun c d e=>
 D10 .neq c i0 fun f=>
 B0 f (
 Rt c d e k) (
 J1 b (some 5) d fun c=>
 Y2 gQ 43 [c] d e fun c d e=>
 D10 .neq c i0 fun f=>
 B0 f (
 Rt c d e k) (
 J1 b (some 5) d fun b=>
 Y2 gQ 44 [b] d e fun b c d=>
 Rt b c d k))))))
variable {a0 H nx k}
theorem spec70:F70 a0 H nx k->Q2 gQ 70 [a0] H nx k:=Q12 [] [] []
theorem spec73:F73 a0 H nx k->Q2 gQ 73 [a0] H nx k:=Q12 [(6,[3])] [[3,11],[6,27]] []
theorem spec43:F43 a0 H nx k->Q2 gQ 43 [a0] H nx k:=Q12 [(2,[3])] [[4,25],[4,45]] []
theorem spec44:F44 a0 H nx k->Q2 gQ 44 [a0] H nx k:=Q12 [] [[10]] []
theorem spec17:F17 a0 H nx k->Q2 gQ 17 [a0] H nx k:=Q12 [(5,[24])] [] [.one (.tst (.tst (.one (.one .nil)) (.one (.one .nil))) (.one (.one (.one .nil))))]
end
theorem G146(A:Option Addr)(l:List ByteArray)(cap:Nat)(H:Y0)(nx:Nat)(hS:Sl H nx A (N0 l))(hA:U9 H nx A)(hl:l.length<=1000):
  Q2 gQ 70 [.slice A l.length cap] H nx fun v H' nx'=>E23 nx H' nx' v (N0 l)/\D0 H nx H' nx':=by
 refine spec70 ?_;unfold F70
 cases A with
 | none=>
  have hp:l=[]:=by
   cases l with
   | nil=>rfl
   | cons x r=>
    obtain⟨b,o,row,e,_⟩:=hS 0 (.string x) rfl
    cases e
  subst hp;simp(disch:=try exact O3)only[W0,Q0.val,G21,Option.isNone_none];exact⟨.inl (J6.nil _ _ _ _),D0.refl _ _⟩
 | some a=>
  have hX:D0 H nx (hs H nx (O7 [])) (nx+1):=(D0.refl H nx).nw _;simp(disch:=try exact O3)only[W0,Q0.val,G21,Option.isNone_some,U21];refine R20 (lo:=nx) (H0:=H) (Z11 _ _ _) (aD _) O0 (C27 (hS.ext hX) (hA.ext hX) (by rw[W2];omega) O0) (K93 l) O0 O0 hX ?_;intro v H' nx' _ h1 h2;exact⟨h1,h2⟩
theorem Y128(n:Nat):(fV #[aB ⟨#[]⟩] n).toList=N0 (aF n N3):=by
 apply List.ext_getElem
 .simp[fV,N0]
 .intro i h1 h2
  simp[fV,N0,N3,Nat.mod_one]
theorem X134:Go.Clo.Enters gQ 101:=⟨_,_,Tryz.func101,rfl,by kernel_rfl⟩
open Go.RowKit Go.Shelf in
theorem M149(n:Nat)(h0:0<n)(hn:n<=100000)(w:World):Calls gQ 101 #[O6,O8 (n:Int)] w fun e w'=>∃(G:Nat) (B:Array Value),e = .returned (.slice (some ⟨w.heap.size,0,none⟩) 0 G)/\(n<=G/\G<=9223372036854775807)/\RowKit.Below w.heap.size w w' /\
  w'.heap[w.heap.size]? = some (.cells B 9 (0,0))/\B.size=G/\B.toList.take n=N0 (aF n N3):=by
 obtain⟨i0,hi,E,L,J⟩:=info_parts N144;have hc:=Any8.slices_Grow_grow Tryz.grow101 i0 (.string ⟨#[]⟩) hi E O0 none 0 0 n [] w (aD _) O0 (by rw[J];omega) O0 O2 (fun _=>rfl) (fun a h=>by cases h);refine Calls.mono hc ?_;rintro e w' ⟨rfl,rfl⟩;have hG:=grownCap_ge w (0+n) 0 (Tryz.grow101_ren.t 25);refine⟨_,(#[]++fV (aB ⟨#[]⟩).cells (0+n-0)++fV (aB ⟨#[]⟩).cells (grownCap w (0+n) 0 (Tryz.grow101_ren.t 25)-(0+n))),rfl,⟨O0,by have:=grownCap_le_maxLen w (0+n) 0 (Tryz.grow101_ren.t 25) (by unfold maxLen;omega);unfold maxLen at this;omega⟩,((RowKit.Below.refl _ w).drew).alloc (aD _) _,?_,?_,?_⟩
 .show(w.heap.push _)[w.heap.size]? = _
  rw[Array.getElem?_push_size];rfl
 .have hz:∀ m,(fV (aB ⟨#[]⟩).cells m).size=m:=fun m=>by
   have:=congrArg List.length (Y128 m);rw[Array.length_toList,W2,iC] at this;exact this
  rw[Array.size_append,Array.size_append,hz,hz];simp only[Array.size_empty];omega
 .simp only[Array.toList_append,eR]
  rw[show(aB ⟨#[]⟩).cells = #[aB ⟨#[]⟩] from rfl,Y128,Y128];simp[N0]
section
variable {k:EP}
theorem grow101(n:Nat)(h0:0<n)(hn:n<=100000)(H:Y0)(nx:Nat):Q2 gQ 101 [O6,O8 (n:Int)] H nx fun r H' nx'=>r = .slice (some ⟨nx,0,none⟩) 0 n/\H'=hs H nx (some (.cells (N0 (aF n N3)) 1))/\nx'=nx+1:=by
 refine⟨_,_,_,⟨X134,fun F L w hh hl => ?_⟩,rfl,rfl,rfl⟩;have e:=J19 hl rfl;subst e;refine Calls.mono (M149 n h0 hn w) ?_;rintro e w' ⟨G,B,he,hG,hb,hc,J,E⟩;have hl:(N0 (aF n N3)).length=n:=by rw[W2,iC]
 refine⟨_,upd F nx ⟨w.heap.size,0,n,1,G⟩,he,?_,N2.name hh rfl hb.os hb.tape hb.output hb.size (fun k hk=>hb.block k hk) ?_ (aD _)⟩
 .have:=VR.slice (F:=upd F nx ⟨w.heap.size,0,n,1,G⟩) (b:=nx) (o:=0) (n:=0) (c:=n) (c':=G) (t:=⟨w.heap.size,0,n,1,G⟩) (Y6 _ _ _) (.inr ⟨Nat.one_pos,hG.1,O2,O2,hG.2⟩)
  exact this
 .refine⟨B,_,hc,⟨J,V77.low _ O0⟩,?_,rfl,by rw[hl];simpa using hG.1,?_⟩
  .exact hl.symm
  .simp only[bW]
   rw[hl,E];exact J10 _ _ (J133 _)
theorem E149(H:Y0)(nx:Nat):Q2 gQ 101 [O6,O8 (0:Int)] H nx fun r H' nx'=>O6=r/\H=H'/\nx=nx':=
 X130 X134 rfl rfl (fun w=>Any8.slices_Grow_room Tryz.grow101 none 0 0 0 w (aD _) O0 O0 (aD _)) H nx
def CS(H:Y0)(g B:Nat)(acc:List ByteArray)(v:Value):Prop:=
 (B=0/\v = .slice none 0 0/\acc=[])\/(0<B/\v = .slice (some ⟨g,0,none⟩) acc.length B/\acc.length<=B/\J0 H g=some (.cells (N0 (acc++aF (B-acc.length) N3)) 1))
theorem Q137{H:Y0}{nx g B:Nat}{acc l:List ByteArray}{v x:Value}(h:CS H g B acc v)(hx:Go.Clo.Src H 1 x l.length (N0 l))(E:acc.length+l.length<=B)(ht:B<=100000)(hk:∀ v' H',CS H' g B (acc++l) v'->(∀ i,i≠g->J0 H' i=J0 H i)->k v' H' nx):B5 v x 1 16 H nx k:=by
 rcases h with ⟨h0,rfl,rfl⟩ | ⟨h0,rfl,h1,h2⟩
 .have hl:l=[]:=dT.1 (by simp at E;omega)
  subst hl;rw[V141 hx O0];exact hk _ _ (.inl ⟨h0,rfl,rfl⟩) fun _ _=>rfl
 .have J:(N0 (acc++aF (B-acc.length) N3)).length=B:=by rw[W2,bH,iC];omega
  unfold B5 Z22;rw[hx.len];dsimp only;rw[G1,V6 (show(2*(acc.length+l.length)+1000)*16<=281474976710656 by omega),V6 (show acc.length+l.length<=1000000000 by omega)];simp only[Bool.and_self,cond_true];rw[hx.first,K93,V6 E];simp only[cond_true,C42];rw[G1,J30,eQ,cF,h2];simp only[U20];refine⟨by rw[J,W2];exact E,hk _ _ (.inr ⟨h0,by rw[bH],by rw[bH];exact E,?_⟩) fun i hi=>Z1 _ hi⟩;rw[Z11];congr 2;unfold B12 N0;rw[gM,<- List.map_take,<- List.map_drop,<- List.map_append,<- List.map_append];congr 1;rw[List.take_append_of_le_length (aD _),List.take_length,List.drop_append,List.drop_eq_nil_of_le O0,eR,List.drop_replicate,bH];congr 2;omega
theorem B129(q:Nat)(A1 A2:Option Addr)(l1 l2:List ByteArray)(c1 c2:Nat)(H:Y0)(nx:Nat)(hq:J0 H q=O7 [.slice A1 l1.length c1,.slice A2 l2.length c2])(a9:q<nx)(a8:Sl H nx A1 (N0 l1))(a7:U9 H nx A1)(ab:Sl H nx A2 (N0 l2))(aa:U9 H nx A2)(ae:l1.length<=1000)(ad:l2.length<=1000)(v:Value)(H3:Y0)(O:Nat)(a6:CS H3 nx (l1.length+l2.length) [] v)(Z:∀ i,i<nx->J0 H3 i=J0 H i)(a4:nx<=O)(a2:0<l1.length+l2.length->nx<O)(hk:∀ v H' nx',((∃ A c,v = .slice A (l1++l2).length c/\Sl H' nx' A (N0 (l1++l2)))/\D0 H nx H' nx')->k v H' nx'):
   G3 (fun V B H4 a0=>
    D10 .lss (B.getD 1 undef) (O8 2) fun Q=>
    B0 Q (
     M3 (.slice (some ⟨q,0,none⟩) 2 2) (B.getD 1 undef) none 1 fun R=>
     J1 R none H4 fun W=>
     B5 (B.getD 0 undef) W 1 16 H4 a0 fun U H5 a5=>
     D10 .add (B.getD 1 undef) (O8 1) fun Y=>
     V [U,Y] H5 a5) (
     k (B.getD 0 undef) H4 a0)) [v,O8 0] H3 O:=by
 have z0:(0:Int)<2:=by decide
 have z1:(1:Int)<2:=by decide
 have z2:¬ (2:Int)<2:=by decide
 have e2:(1:Int)+1=2:=by decide
 have e3:(0:Int)+1=1:=by decide
 refine B1 (m:=2) (fun m L H' nx'=>((m=2/\∃ u,L=[u,O8 0]/\CS H' nx (l1.length+l2.length) [] u)\/(m=1/\∃ u,L=[u,O8 1]/\CS H' nx (l1.length+l2.length) l1 u)\/(m=0/\∃ u,L=[u,O8 2]/\CS H' nx (l1.length+l2.length) (l1++l2) u))/\(∀ i,i<nx->J0 H' i=J0 H i)/\O=nx') ?_ ⟨.inl ⟨rfl,v,rfl,a6⟩,Z,rfl⟩;rintro m ih L H4 _ ⟨hL,E,rfl⟩ a3;have M:D0 H nx H4 O:=⟨a4,E⟩
 have a1:=(E q a9).trans hq;rcases hL with ⟨rfl,u,rfl,J⟩ | ⟨rfl,u,rfl,J⟩ | ⟨rfl,u,rfl,J⟩
 .simp(disch:=try exact O3)only[W0,z0,a1]
  refine Q137 (l:=l1) J (C27 (a8.ext M) (a7.ext M) (by rw[W2];omega) O0) O2 O0 ?_;intro v' H5 h5 h6;simp(disch:=try exact O3)only[e3];exact a3 1 _ _ _ O0 ⟨.inr (.inl ⟨rfl,_,rfl,by simpa using h5⟩),fun i hi=>(h6 i O0).trans (E i hi),rfl⟩
 .simp(disch:=try exact O3)only[W0,z1,a1]
  refine Q137 (l:=l2) J (C27 (ab.ext M) (aa.ext M) (by rw[W2];omega) O0) (aD _) O0 ?_;intro v' H5 h5 h6;simp(disch:=try exact O3)only[e2];exact a3 0 _ _ _ O0 ⟨.inr (.inr ⟨rfl,_,rfl,h5⟩),fun i hi=>(h6 i O0).trans (E i hi),rfl⟩
 .simp(disch:=try exact O3)only[W0,z2]
  refine hk _ _ _ ⟨?_,M⟩;rcases J with ⟨h0,rfl,h1⟩ | ⟨h0,rfl,_,hg⟩
  .rw[h1]
   exact⟨none,0,rfl,Sl.nil _ _ _⟩
  .refine⟨_,_,rfl,?_⟩
   have e:(l1++l2).length=l1.length+l2.length:=bH;rw[e,Nat.sub_self,List.replicate_zero,gV] at hg;exact Go.Clo.sl_new (a2 h0) hg
theorem C142(q:Nat)(A1 A2:Option Addr)(l1 l2:List ByteArray)(c1 c2:Nat)(H:Y0)(nx:Nat)(hq:J0 H q=O7 [.slice A1 l1.length c1,.slice A2 l2.length c2])(Q:q<nx)(O:Sl H nx A1 (N0 l1))(M:U9 H nx A1)(V:Sl H nx A2 (N0 l2))(R:U9 H nx A2)(U:l1.length<=1000)(E:l2.length<=1000):
  Q2 gQ 73 [.slice (some ⟨q,0,none⟩) 2 2] H nx fun v H' nx'=>(∃ A c,v = .slice A (l1++l2).length c/\Sl H' nx' A (N0 (l1++l2)))/\D0 H nx H' nx':=by
 refine spec73 ?_;unfold F73;have z0:(0:Int)<2:=by decide
 have z1:(1:Int)<2:=by decide
 have z2:¬ (2:Int)<2:=by decide
 have e1:(l1.length:Int)+(l2.length:Int)=((l1.length+l2.length:Nat):Int):=O0;have n1:¬ (l1.length:Int)<0:=O0;have n2:¬ ((l1.length+l2.length:Nat):Int)<0:=O0;have e0:(0:Int)+(l1.length:Int)=(l1.length:Int):=O0;have e2:(1:Int)+1=2:=by decide
 have e3:(0:Int)+1=1:=by decide
 have B:((2:Nat):Int)=2:=rfl;simp(disch:=try exact O3)only[W0];refine B1 (m:=2) (fun m L H' nx'=>((m=2/\L=[O8 0,O8 0])\/(m=1/\L=[O8 (l1.length:Int),O8 1])\/(m=0/\L=[O8 ((l1.length+l2.length:Nat):Int),O8 2]))/\H=H'/\nx=nx') ?_ ⟨.inl ⟨rfl,rfl⟩,rfl,rfl⟩;rintro m ih L _ _ ⟨hL,rfl,rfl⟩ J;rcases hL with ⟨rfl,rfl⟩ | ⟨rfl,rfl⟩ | ⟨rfl,rfl⟩
 .simp(disch:=try exact O3)only[W0,B,z0,hq,N13,e0,n1,e3]
  exact J 1 _ _ _ O0 ⟨.inr (.inl ⟨rfl,rfl⟩),rfl,rfl⟩
 .simp(disch:=try exact O3)only[W0,B,z1,hq,N13,e1,n2,e2]
  exact J 0 _ _ _ O0 ⟨.inr (.inr ⟨rfl,rfl⟩),rfl,rfl⟩
 simp only[fZ,gD,E45,B,z2,decide_false,C46,dQ,if_false];rcases cI (l1.length+l2.length) with h0 | h0
 .have ez:((l1.length+l2.length:Nat):Int)=0:=O0
  rw[ez];refine R0 (E149 H nx) ?_;rintro _ _ _ ⟨rfl,rfl,rfl⟩;exact B129 (k:=fun v H' nx'=>(∃ A c,v = .slice A (l1++l2).length c/\Sl H' nx' A (N0 (l1++l2)))/\D0 H nx H' nx') q A1 A2 l1 l2 c1 c2 H nx hq Q O M V R U E _ _ _ (.inl ⟨h0,rfl,rfl⟩) (fun i _=>rfl) (aD _) (fun h=>O0) fun _ _ _ h=>h
 .refine R0 (grow101 _ h0 O0 H nx) ?_
  rintro _ _ _ ⟨rfl,rfl,rfl⟩;exact B129 (k:=fun v H' nx'=>(∃ A c,v = .slice A (l1++l2).length c/\Sl H' nx' A (N0 (l1++l2)))/\D0 H nx H' nx') q A1 A2 l1 l2 c1 c2 H nx hq Q O M V R U E _ _ _ (.inr ⟨h0,rfl,aL _,by rw[Z11];simp⟩) (fun i hi=>gN _) O0 (fun _=>O0) fun _ _ _ h=>h
end
theorem Q143{a:J90}{s:ByteArray}:s ∈ V19 a<->a.neg=false/\s≠N3/\s ∈ a.terms.map R33.var:=by
 unfold V19
 cases a.neg with
 | true=>simp
 | false=>simp[and_comm]
def PS(H:Y0)(n0:Nat)(acc:ByteArray->Prop):Prop:=∃ S:ByteArray->Bool,J75 H (n0+1) S/\∀ s,S s=true<->acc s
theorem PS.ext{H:Y0}{n0 nx:Nat}{acc:ByteArray->Prop}{H':Y0}{nx':Nat}(h:PS H n0 acc)(hn:n0+2<=nx)(e:D0 H nx H' nx'):PS H' n0 acc:=by
 obtain⟨S,h1,h2⟩:=h;exact⟨S,h1.ext O0 e,h2⟩
theorem PS.congr{H:Y0}{n0:Nat}{acc B:ByteArray->Prop}(h:PS H n0 acc)(e:∀ s,acc s<->B s):PS H n0 B:=by
 obtain⟨S,h1,h2⟩:=h;exact⟨S,h1,fun s=>(h2 s).trans (e s)⟩
theorem M139(r:V32)(H:Y0)(nx:Nat)(hA:V118 H nx r)(hB:Q126 r):Q2 gQ 72 [.agg ⟨K111 r⟩] H nx fun v H' nx'=>(v = .map (some (nx+1))/\nx+2<=nx'/\PS H' nx fun s=>s ∈ D128 r)/\D0 H nx H' nx':=by
 refine spec72 ?_;unfold F72;unfold K111;have ap:=hB.atoms;simp(disch:=try exact O3)only[W0,Z0,Q0.val,Q125];generalize hK:hs (hs H nx (O7 [.slice r.AA r.atoms.length r.ac,.slice r.CA r.conds.length r.cc])) (nx+1) (some (.map [] 0))=K;have kM:J0 K (nx+1)=some (.map [] 0):=by rw[<- hK,Z11]
 have kE:D0 H nx K (nx+1+1):=⟨O0,fun i hi=>by rw[<- hK,gN _,gN _]⟩
 refine B1 (m:=r.atoms.length) (fun m L H' nx'=>∃ i:Nat,m+i=r.atoms.length/\L=[O8 (i:Int)]/\PS H' nx (fun s=>s ∈ (r.atoms.take i).flatMap V19)/\nx+2<=nx'/\∀ q,q<nx->J0 H' q=J0 H q) ?_ ⟨0,rfl,rfl,⟨_,J75.nil kM,fun s=>O2⟩,O0,kE.get⟩;rintro m ih L H2 nx2 ⟨i,hm,rfl,aa,ae,a1⟩ aj;have af:D0 H nx H2 nx2:=⟨O0,a1⟩
 simp(disch:=try exact O3)only[W0]
 by_cases hi:i<r.atoms.length
 case neg=>
  have a8:¬ (i:Int)<(r.atoms.length:Int):=O0;simp(disch:=try exact O3)only[W0,a8];rw[gJ O0] at aa;exact⟨⟨ae,aa⟩,af⟩
 have a8:(i:Int)<(r.atoms.length:Int):=O0;obtain⟨a,ha⟩:∃ a,r.atoms[i]? = some a:=⟨_,aE hi⟩
 have ah:=aH ha;have aq:=hB.terms a ah;obtain⟨b,o,row,an,hb,ag,_,W⟩:=Sl.elem (hA.ext af).atoms M117 O0 ha;unfold Q115 at W;rw[an];simp(disch:=try exact O3)only[W0,Z0,Nat.reduceAdd,a8,X3 ag,W,D7];have a5:D0 H2 nx2 (hs (hs H2 nx2 (O7 [.bool false,.string ⟨#[]⟩,O6])) nx2 (O7 [.bool a.neg,.string a.rel,.slice a.TA a.terms.length a.tc])) (nx2+1):=((D0.refl H2 nx2).nw _:D0 H2 nx2 _ (nx2+1)).h0;have a3:=aa.ext ae a5;have ab:J0 (hs (hs H2 nx2 (O7 [.bool false,.string ⟨#[]⟩,O6])) nx2 (O7 [.bool a.neg,.string a.rel,.slice a.TA a.terms.length a.tc])) nx2=O7 [.bool a.neg,.string a.rel,.slice a.TA a.terms.length a.tc]:=Z11 _ _ _;have V:∀ q,q<nx->J0 (hs (hs H2 nx2 (O7 [.bool false,.string ⟨#[]⟩,O6])) nx2 (O7 [.bool a.neg,.string a.rel,.slice a.TA a.terms.length a.tc])) q=J0 H q:=fun q hq=>(a5.gt q).trans (a1 q hq)
 generalize hs (hs H2 nx2 (O7 [.bool false,.string ⟨#[]⟩,O6])) nx2 (O7 [.bool a.neg,.string a.rel,.slice a.TA a.terms.length a.tc])=H3 at a5 a3 ab V ⊢;refine B1 (m:=a.terms.length) (fun m L H' nx'=>∃ j:Nat,m+j=a.terms.length/\L=[O8 (j:Int)]/\PS H' nx (fun s=>s ∈ (r.atoms.take i).flatMap V19\/(a.neg=false/\s≠N3/\s ∈ (a.terms.take j).map R33.var))/\nx2+1<=nx'/\J0 H' nx2=O7 [.bool a.neg,.string a.rel,.slice a.TA a.terms.length a.tc]/\∀ q,q<nx->J0 H' q=J0 H q) ?_
  ⟨0,rfl,rfl,a3.congr fun s=>O2,aD _,ab,V⟩
 rintro m4 al L4 H4 B ⟨j,au,rfl,R,ar,Z,J⟩ a2;have ai:D0 H nx H4 B:=⟨O0,J⟩
 simp(disch:=try exact O3)only[W0]
 by_cases hj:j<a.terms.length
 case neg=>
  have a6:¬ (j:Int)<(a.terms.length:Int):=O0;have e:a.terms.take j=a.terms:=gJ O0;rw[e] at R;simp(disch:=try exact O3)only[W0,a6];refine aj (m-1) _ _ _ O0 ⟨i+1,O0,O2,R.congr fun s => ?_,O0,J⟩;rw[R37 ha,List.flatMap_append,dN,<- Q143];simp
 have a6:(j:Int)<(a.terms.length:Int):=O0;obtain⟨t,ht⟩:∃ t,a.terms[j]? = some t:=⟨_,aE hj⟩
 obtain⟨b5,o5,ao,a4,av,a7,_,O⟩:=Sl.elem (show Sl H4 B a.TA (a.terms.flatMap U118) from(hA.terms a ah).ext ai) V117 O0 ht;unfold U118 at O;have U:∀ s,s ∈ (a.terms.take (j+1)).map R33.var<->s ∈ (a.terms.take j).map R33.var\/s=t.var:=fun s=>by
  rw[R37 ht,List.map_append,dN];simp
 rw[a4] at Z ⊢;simp(disch:=try exact O3)only[W0,Z0,Nat.reduceAdd,a6,X3 a7,O,D121,G88];have a0:D0 H4 B (hs (hs H4 B (O7 [.string ⟨#[]⟩,O8 0,O8 0,.string ⟨#[]⟩])) B (O7 [.string t.var,O8 t.kind,O8 t.int,.string t.str])) (B+1):=((D0.refl H4 B).nw _:D0 H4 B _ (B+1)).h0;have Y:=R.ext O0 a0;have Q:=(a0.gt nx2).trans Z;have M:∀ q,q<nx->J0 (hs (hs H4 B (O7 [.string ⟨#[]⟩,O8 0,O8 0,.string ⟨#[]⟩])) B (O7 [.string t.var,O8 t.kind,O8 t.int,.string t.str])) q=J0 H q:=fun q hq=>(a0.gt q).trans (J q hq)
 have a9:J0 (hs (hs H4 B (O7 [.string ⟨#[]⟩,O8 0,O8 0,.string ⟨#[]⟩])) B (O7 [.string t.var,O8 t.kind,O8 t.int,.string t.str])) B=O7 [.string t.var,O8 t.kind,O8 t.int,.string t.str]:=Z11 _ _ _;generalize hs (hs H4 B (O7 [.string ⟨#[]⟩,O8 0,O8 0,.string ⟨#[]⟩])) B (O7 [.string t.var,O8 t.kind,O8 t.int,.string t.str])=H5 at a0 Y Q M a9 ⊢;have skip:¬ (a.neg=false/\t.var≠N3)->al [O8 ((j:Int)+1)] H5 (B+1):=fun am=>
  a2 (m4-1) _ _ _ O0 ⟨j+1,O0,O2,Y.congr fun s=>by
   rw[U]
   constructor
   .rintro (h | ⟨h1,h2,h3⟩)
    .exact .inl h
    .exact .inr ⟨h1,h2,.inl h3⟩
   .rintro (h | ⟨h1,h2,h3 | h3⟩)
    .exact .inl h
    .exact .inr ⟨h1,h2,h3⟩
    .subst h3;exact absurd ⟨h1,h2⟩ am,O0,by rw[a4];exact Q,M⟩
 cases E:a.neg with
 | true=>
  simp(disch:=try exact O3)only[W0,N13,Z,E];exact skip fun h=>by rw[E] at h;cases h.1
 | false=>
  by_cases hv:t.var=N3
  .have dv:decide (t.var=⟨#[]⟩)=true:=by simp[hv,N3]
   simp(disch:=try exact O3)only[W0,N13,Z,E,a9,N46,dv];exact skip fun h=>h.2 hv
  .have dv:decide (t.var=⟨#[]⟩)=false:=by simpa [N3] using hv
   obtain⟨S,hS,ak⟩:=Y;simp(disch:=try exact O3)only[W0,N13,Z,E,a9,N46,dv];refine hS.put t.var ?_;intro blk ad;refine a2 (m4-1) _ _ _ O0 ⟨j+1,O0,O2,⟨_,ad,fun s => ?_⟩,O0,by rw[gN _,a4];exact Q,fun q hq=>by rw[gN _];exact M q hq⟩;rw[cO,ak,decide_eq_true_eq];show _<->(s ∈ (r.atoms.take i).flatMap V19\/(a.neg=false/\s≠N3/\s ∈ (a.terms.take (j+1)).map R33.var))
   rw[U]
   constructor
   .rintro ((h | ⟨h1,h2,h3⟩) | rfl)
    .exact .inl h
    .exact .inr ⟨h1,h2,.inl h3⟩
    .exact .inr ⟨E,hv,.inr rfl⟩
   .rintro (h | ⟨h1,h2,h3 | h3⟩)
    .exact .inl (.inl h)
    .exact .inl (.inr ⟨h1,h2,h3⟩)
    .exact .inr h3
section
variable {nd:List ByteArray} {r:V32}
theorem Y132(h:G23 r=0):Q126 r:=by
 unfold G23 at h
 split at h
 .cases h
 split at h
 .cases h
 rename_i h8
 split at h
 .rename_i h1;exact absurd h h1
 rename_i h1;have h1:B9 (r.atoms.map Y26)=0:=by simpa using h1
 refine⟨O0,fun a ha => ?_,O0⟩;have h2:=R78 h1 a ha;unfold Y26 at h2
 split at h2
 .split at h2
  .cases h2
  .omega
 .cases h2
theorem D138(q:M13):(C21 q).length<=q.head.length+1:=by
 unfold C21
 split<;>simp
open Classical in
theorem J129(h0:G23 r=0)(h:8<(D34 r).length):Z23 nd r=12:=by
 rw[Z23,if_neg (by simpa using h0),if_pos h]
theorem M125(h0:G23 r≠0):Z23 nd r=G23 r:=by
 rw[Z23,if_pos h0]
open Classical in
theorem U129(h0:G23 r=0)(h:¬ 8<(D34 r).length){v:ByteArray}(hv:v ∈ nd++D34 r)(hp:v ∉ D128 r):Z23 nd r=22:=by
 rw[Z23,if_neg (by simpa using h0),if_neg h,if_neg];intro B;rw[iE] at B;exact hp (by simpa using B v hv)
open Classical in
theorem J139{nd:List ByteArray}{r:V32}(h0:G23 r=0)(h:¬ 8<(D34 r).length)(hv:∀ v ∈ nd++D34 r,v ∈ D128 r):Z23 nd r=0:=by
 rw[Z23,if_neg (by simpa using h0),if_neg h,if_pos];rw[iE];intro v hm;simpa using hv v hm
theorem N148(A B:Option Addr)(n c m d:Nat)(k:List Value->Prop):K6 2 1 [O6] [(0,.slice A n c),(1,.slice B m d)] k=k [.slice A n c,.slice B m d]:=rfl
theorem K147(x:ByteArray)(k:List Value->Prop):K6 1 1 [.string ⟨#[]⟩] [(0,.string x)] k=k [.string x]:=rfl
theorem K146(q:M13)(H:Y0)(nx:Nat)(hQ:D66 H nx q)(bk:∀ r ∈ q.rules,C128 r)(br:q.head.length<=6)(bs:q.rules.length<=3):
  Q2 gQ 43 [.agg ⟨Z16 q⟩] H nx fun v H' nx'=>O8 (B9 (q.rules.map (Z23 (C21 q))))=v/\D0 H nx H' nx':=by
 refine spec43 ?_;unfold F43;unfold Z16;generalize hX:B9 (q.rules.map (Z23 (C21 q)))=X;have bq:=D138 q;have a1:D0 H nx (hs H nx (O7 [.slice q.HA q.head.length q.hc,O8 q.agg,.string q.aggvar,.slice q.RA q.rules.length q.rc,.slice q.OA q.order.length q.oc])) (nx+1):=(D0.refl H nx).nw _;have af:J0 (hs H nx (O7 [.slice q.HA q.head.length q.hc,O8 q.agg,.string q.aggvar,.slice q.RA q.rules.length q.rc,.slice q.OA q.order.length q.oc])) nx=O7 [.slice q.HA q.head.length q.hc,O8 q.agg,.string q.aggvar,.slice q.RA q.rules.length q.rc,.slice q.OA q.order.length q.oc]:=Z11 _ _ _;simp(disch:=try exact O3)only[W0,Z0,Q0.val];generalize hs H nx (O7 [.slice q.HA q.head.length q.hc,O8 q.agg,.string q.aggvar,.slice q.RA q.rules.length q.rc,.slice q.OA q.order.length q.oc])=H1 at a1 af ⊢;refine R0 (G146 q.HA q.head q.hc H1 (nx+1) (hQ.head.ext a1) (hQ.headH.has.ext a1) O0) ?_;rintro v2 H2 nx2 ⟨an,a0⟩;have bn:=a0.le;have ao:=(a0.gt nx).trans af;refine N5 (fun L H' nx'=>∃ u,L=[u]/\E23 (nx+1) H' nx' u (N0 (C21 q))/\D0 H1 (nx+1) H' nx') ?_ ?_
 .intro tj hj
  by_cases hv:q.aggvar=N3
  .have dv:decide (q.aggvar=⟨#[]⟩)=true:=by simp[hv,N3]
   simp(disch:=try exact O3)only[W0,ao,N46,dv];exact hj _ _ _ ⟨_,rfl,by rw[C21,if_pos hv,gV];exact an,a0⟩
  .have dv:decide (q.aggvar=⟨#[]⟩)=false:=by simpa [N3] using hv
   simp(disch:=try exact O3)only[W0,ao,N46,dv,K147];have b0:D0 H2 nx2 (hs H2 nx2 (O7 [.string q.aggvar])) (nx2+1):=(D0.refl _ _).nw _;refine K38 (lo:=nx+1) (H0:=H1) (c:=N0 q.head) (y := .string q.aggvar) (an.ext b0) (J9 (Z11 _ _ _) rfl O0) rfl O0 (by rw[W2];omega) (a0.trans b0) O0 ?_;intro v' H' h1 h2 _;refine hj _ _ _ ⟨_,rfl,?_,h2⟩;rw[C21,if_neg hv,<- E132];exact h1
 rintro _ H3 be ⟨u,rfl,hu,ae⟩;have b2:=(ae.gt nx).trans af;have ar:=a1.trans ae;have bo:=ae.le;obtain⟨NA,rfl,b7,b6⟩:=hu.sl;rw[W2];simp(disch:=try exact O3)only[W0,b2];refine B1 (m:=q.rules.length) (fun m L H' nx'=>∃ i:Nat,m+i=q.rules.length/\L=[O8 0,O8 (i:Int)]/\(∀(j:Nat) r,j<i->q.rules[j]? = some r->Z23 (C21 q) r=0)/\D0 H3 be H' nx') ?_ ⟨0,rfl,rfl,fun j t h=>O0,D0.refl _ _⟩;rintro m ih L H4 B ⟨i,hm,rfl,hz,au⟩ ba;have M:=ar.trans au;simp(disch:=try exact O3)only[W0]
 by_cases hi:i<q.rules.length
 case neg=>
  have ag:¬ (i:Int)<(q.rules.length:Int):=O0;have e:X=0:=by
   rw[<- hX];exact V123 fun j b hb=>hz j b (by have:=(aJ.1 hb).1;omega) hb
  simp(disch:=try exact O3)only[W0,ag,e];exact M
 have ag:(i:Int)<(q.rules.length:Int):=O0;obtain⟨r,hr⟩:∃ r,q.rules[i]? = some r:=⟨_,aE hi⟩
 have a4:=aH hr;have J:Z23 (C21 q) r≠0->X=Z23 (C21 q) r:=fun h=>by rw[<- hX];exact B124 hz hr h
 obtain⟨b,o,row,b9,hb,al,_,O⟩:=Sl.elem (hQ.ext M).rules G124 O0 hr;unfold K111 at O;rw[b9];simp(disch:=try exact O3)only[W0,Z0,Nat.reduceAdd,ag,X3 al,O,G26,C13];have a9:D0 H4 B (hs (hs H4 B (O7 [O6,O6])) B (O7 [.slice r.AA r.atoms.length r.ac,.slice r.CA r.conds.length r.cc])) (B+1):=((D0.refl H4 B).nw _:D0 H4 B _ (B+1)).h0;have az:J0 (hs (hs H4 B (O7 [O6,O6])) B (O7 [.slice r.AA r.atoms.length r.ac,.slice r.CA r.conds.length r.cc])) B=O7 [.slice r.AA r.atoms.length r.ac,.slice r.CA r.conds.length r.cc]:=Z11 _ _ _;generalize hs (hs H4 B (O7 [O6,O6])) B (O7 [.slice r.AA r.atoms.length r.ac,.slice r.CA r.conds.length r.cc])=H5 at a9 az ⊢;have a8:=M.trans a9;refine R0 (B146 r H5 (B+1) ((hQ.rule r a4).ext a8) (bk r a4)) ?_;rintro _ H6 ap ⟨rfl,a3⟩;have Z:=a8.trans a3;have bv:=a3.le;have ai:=(a3.gt B).trans az
 by_cases E:G23 r=0
 case neg=>
  have d:decide (G23 r≠0)=true:=decide_eq_true E;have e:=J (by rw[M125 E];exact E);rw[M125 E] at e;simp(disch:=try exact O3)only[W0,d,e];exact Z
 rw[E];simp(disch:=try exact O3)only[W0,ai,C13];refine R0 (R148 r H6 ap ((hQ.rule r a4).ext Z) (Y132 E)) ?_;rintro v7 H7 ak ⟨bh,a5⟩;have W:=Z.trans a5;have bu:=a5.le;have bd:=(a5.gt B).trans ai;have aj:E23 ap H7 ak v7 (N0 (D34 r)) := .inl (by rw[W2];exact bh);obtain⟨VA,rfl,bf,bg⟩:=aj.sl;rw[W2]
 by_cases h8:8<(D34 r).length
 .have d:(8:Int)<((D34 r).length:Int):=O0
  have e:=J (by rw[J129 E h8];decide);rw[J129 E h8] at e;simp(disch:=try exact O3)only[W0,d,e];exact W
 have d:¬ (8:Int)<((D34 r).length:Int):=O0;simp(disch:=try exact O3)only[W0,d,bd,C13];refine R0 (M139 r H7 ak ((hQ.rule r a4).ext W) (Y132 E)) ?_;rintro _ H8 Y ⟨⟨rfl,bc,bl⟩,aa⟩;have am:=W.trans aa;simp(disch:=try exact O3)only[N148];have a6:D0 H8 Y (hs H8 Y (O7 [.slice NA (C21 q).length (C21 q).length,.slice VA (D34 r).length (D34 r).length])) (Y+1):=(D0.refl _ _).nw _;have Q:=(((au.trans a9).trans a3).trans a5).trans (aa.trans a6);have a7:=aa.trans a6;refine R0 (C142 Y NA VA (C21 q) (D34 r) _ _ _ (Y+1) (Z11 _ _ _) O0 (b7.ext Q) (b6.ext Q) (bf.ext a7) (bg.ext a7) O0 O0) ?_;rintro _ b4 av ⟨⟨CA,cc,rfl,aq⟩,V⟩;have ad:=(am.trans a6).trans V;obtain⟨S,hS,aw⟩:=bl.ext bc (a6.trans V);have ax:(C21 q++D34 r).length<=15:=by rw[bH];omega
 generalize hN:C21 q++D34 r=N at ax aq ⊢;simp(disch:=try exact O3)only[W0];refine B1 (m:=N.length) (fun m L H' nx'=>∃ j:Nat,m+j=N.length/\L=[O8 0,O8 (j:Int)]/\(∀ s ∈ N.take j,s ∈ D128 r)/\b4=H'/\av=nx') ?_ ⟨0,rfl,rfl,fun s h=>by simp at h,rfl,rfl⟩;rintro m9 bp L _ _ ⟨j,bt,rfl,U,rfl,rfl⟩ b1;simp(disch:=try exact O3)only[W0]
 by_cases hj:j<N.length
 case neg=>
  have a2:¬ (j:Int)<(N.length:Int):=O0;rw[gJ O0] at U;simp(disch:=try exact O3)only[W0,a2];refine ba (m-1) _ _ _ O0 ⟨i+1,O0,O2,fun k r' hk ah => ?_,?_⟩
  .by_cases b3:k=i
   .subst b3
    rw[hr] at ah
    cases ah
    exact J139 E h8 (by rw[hN];exact U)
   .exact hz k r' O0 ah
  .exact Q.trans V
 have a2:(j:Int)<(N.length:Int):=O0;obtain⟨s,hs⟩:∃ s,N[j]? = some s:=⟨_,aE hj⟩
 have ay:=aH hs;obtain⟨b5,o5,bm,b8,bw,R,ab⟩:=aq.open (i:=j) (by rw[W2];omega);have g5:=ab _ _ (B6 hs);rw[b8]
 cases hv:S s with
 | false=>
  have hp:s ∉ D128 r:=fun h=>by rw[(aw s).2 h] at hv;cases hv
  have e:=J (by rw[U129 E h8 (by rw[hN];exact ay) hp];decide);rw[U129 E h8 (by rw[hN];exact ay) hp] at e;simp(disch:=try exact O3)only[W0,a2,X3 R,g5,hS.lk,hv,e];exact ad
 | true=>
  simp(disch:=try exact O3)only[W0,a2,X3 R,g5,hS.lk,hv];refine b1 (m9-1) _ _ _ O0 ⟨j+1,O0,O2,fun t ht => ?_,rfl,rfl⟩;rw[R37 hs,dN,dJ] at ht;rcases ht with ht | rfl
  .exact U t ht
  .exact(aw _).1 hv
end
open Classical in
theorem Y147(q:M13)(H:Y0)(nx:Nat)(hQ:D66 H nx q)(af:q.head.length<=6):
  Q2 gQ 44 [.agg ⟨Z16 q⟩] H nx fun v H' nx'=>O8 (U113 q.head [] (q.order.map B94.var))=v/\D0 H nx H' nx':=by
 refine spec44 ?_;unfold F44;unfold Z16;generalize hX:U113 q.head [] (q.order.map B94.var)=X;have aa:(q.order.map B94.var).length=q.order.length:=gM _;have a7:∀(i:Nat) (k:B94),q.order[i]? = some k->(q.order.map B94.var)[i]? = some k.var:=fun i k h=>by rw[cP,h];rfl
 generalize q.order.map B94.var=V at hX aa a7;simp(disch:=try exact O3)only[W0,Z0,Q0.val,Q125];generalize hK:hs (hs H nx (O7 [.slice q.HA q.head.length q.hc,O8 q.agg,.string q.aggvar,.slice q.RA q.rules.length q.rc,.slice q.OA q.order.length q.oc])) (nx+1) (some (.map [] 0))=K;have kM:J0 K (nx+1)=some (.map [] 0):=by rw[<- hK,Z11]
 have kE:D0 H nx K (nx+1+1):=⟨O0,fun i hi=>by rw[<- hK,gN _,gN _]⟩
 have kq:J0 K nx=O7 [.slice q.HA q.head.length q.hc,O8 q.agg,.string q.aggvar,.slice q.RA q.rules.length q.rc,.slice q.OA q.order.length q.oc]:=by rw[<- hK,gN _,Z11]
 refine B1 (m:=q.order.length) (fun m L H' nx'=>∃ i:Nat,m+i=q.order.length/\L=[O8 (i:Int)]/\X=U113 q.head (V.take i) (V.drop i)/\(V.take i).Nodup/\(∀ v ∈ V.take i,v ∈ q.head)/\(∃ S:ByteArray->Bool,J75 H' (nx+1) S/\∀ s,S s=true<->s ∈ V.take i)/\nx+2<=nx'/\∀ z,z<=nx->J0 H' z=J0 K z) ?_
  ⟨0,rfl,rfl,by simpa using hX.symm,O2,O2,⟨_,J75.nil kM,fun s=>O2⟩,O0,fun z _=>rfl⟩
 rintro m ih L H2 nx2 ⟨i,hm,rfl,hc,a4,W,⟨S,hS,a1⟩,ad,E⟩ ab;have a0:D0 H nx H2 nx2:=⟨O0,fun z hz=>(E z O0).trans (kE.get z hz)⟩
 have a8:=(E nx (aD _)).trans kq;simp(disch:=try exact O3)only[W0]
 by_cases hi:i<q.order.length
 case neg=>
  have Y:¬ (i:Int)<(q.order.length:Int):=O0;rw[List.drop_eq_nil_of_le O0,U113] at hc;simp(disch:=try exact O3)only[W0,Y,hc];exact a0
 have Y:(i:Int)<(q.order.length:Int):=O0;have ae:i<=6:=by
  have h1:=iB a4 fun v hv=>W v hv
  rw[cK] at h1;omega
 obtain⟨k,hk⟩:∃ k,q.order[i]? = some k:=⟨_,aE hi⟩
 have M:=a7 i k hk;obtain⟨b,o,row,a9,hb,a6,_,O⟩:=Sl.elem (hQ.ext a0).order B126 O0 hk;unfold D19 at O;rw[a9];simp(disch:=try exact O3)only[W0,Z0,Nat.reduceAdd,Y,X3 a6,O,G26,a8];have R:D0 H2 nx2 (hs (hs H2 nx2 (O7 [.string ⟨#[]⟩,.bool false])) nx2 (O7 [.string k.var,.bool k.desc])) (nx2+1):=((D0.refl H2 nx2).nw _:D0 H2 nx2 _ (nx2+1)).h0;have Z:J0 (hs (hs H2 nx2 (O7 [.string ⟨#[]⟩,.bool false])) nx2 (O7 [.string k.var,.bool k.desc])) nx2=O7 [.string k.var,.bool k.desc]:=Z11 _ _ _;have U:=hS.ext O0 R;have J:∀ z,z<=nx->J0 (hs (hs H2 nx2 (O7 [.string ⟨#[]⟩,.bool false])) nx2 (O7 [.string k.var,.bool k.desc])) z=J0 K z:=fun z hz=>(R.gt z).trans (E z hz)
 generalize hs (hs H2 nx2 (O7 [.string ⟨#[]⟩,.bool false])) nx2 (O7 [.string k.var,.bool k.desc])=H3 at R Z U J ⊢;have Q:=a0.trans R;rw[J131 M] at hc;refine R0 (C126 q.HA q.head k.var q.hc H3 (nx2+1) (hQ.head.ext Q) O0) ?_;rintro _ _ _ ⟨rfl,rfl,rfl⟩
 by_cases B:k.var ∈ q.head
 case neg=>
  have dm:decide (0<=J12 q.head k.var)=false:=by rw[Y136];exact decide_eq_false B
  rw[U113,if_neg B] at hc;rw[dm];simp(disch:=try exact O3)only[W0,hc];exact Q
 have dm:decide (0<=J12 q.head k.var)=true:=by rw[Y136];exact decide_eq_true B
 rw[U113,if_pos B] at hc;rw[dm]
 cases hv:S k.var with
 | true=>
  rw[if_pos ((a1 _).1 hv)] at hc;simp(disch:=try exact O3)only[W0,Z,U.lk,hv,hc];exact Q
 | false=>
  have a3:k.var ∉ V.take i:=fun h=>by rw[(a1 _).2 h] at hv;cases hv
  rw[if_neg a3] at hc;simp(disch:=try exact O3)only[W0,Z,U.lk,hv];refine U.put k.var ?_;intro blk a5;refine ab (m-1) _ _ _ O0 ⟨i+1,O0,O2,?_,?_,?_,⟨_,a5,fun s => ?_⟩,O0,fun z hz=>by rw[gN _];exact J z hz⟩
  .rw[R37 M];exact hc
  .rw[R37 M]
   rw[gT];refine⟨a4,O2,?_⟩;intro a ha b hb;rw[dJ] at hb;subst hb;rintro rfl;exact a3 ha
  .intro v a2
   rw[R37 M,dN,dJ] at a2;rcases a2 with h | rfl
   .exact W v h
   .exact B
  .rw[cO,a1,decide_eq_true_eq,R37 M,dN,dJ]
structure G113 (q:M13):Prop where
 head:∀ s ∈ q.head,s.size<=100
 agg:q.aggvar.size<=100
 rules:∀ r ∈ q.rules,C128 r
theorem D147(q:M13)(H:Y0)(nx:Nat)(hQ:D66 H nx q)(W:G113 q):
  Q2 gQ 17 [.agg ⟨Z16 q⟩] H nx fun v H' nx'=>O8 (V81 q)=v/\D0 H nx H' nx':=by
 refine spec17 ?_;unfold F17;unfold Z16;generalize hX:V81 q=X;have B:D0 H nx (hs H nx (O7 [.slice q.HA q.head.length q.hc,O8 q.agg,.string q.aggvar,.slice q.RA q.rules.length q.rc,.slice q.OA q.order.length q.oc])) (nx+1):=(D0.refl H nx).nw _;have J:J0 (hs H nx (O7 [.slice q.HA q.head.length q.hc,O8 q.agg,.string q.aggvar,.slice q.RA q.rules.length q.rc,.slice q.OA q.order.length q.oc])) nx=O7 [.slice q.HA q.head.length q.hc,O8 q.agg,.string q.aggvar,.slice q.RA q.rules.length q.rc,.slice q.OA q.order.length q.oc]:=Z11 _ _ _
 by_cases h0:q.rules.length=0
 .have d0:decide (q.rules.length=0)=true:=decide_eq_true h0
  have e:X=10:=by rw[<- hX,V81,if_pos h0]
  simp(disch:=try exact O3)only[W0,Z0,Q0.val,d0,e];exact B
 have d0:decide (q.rules.length=0)=false:=decide_eq_false h0
 by_cases Q:3<q.rules.length\/(1<q.rules.length/\q.agg≠0)
 .have e:X=12:=by rw[<- hX,V81,if_neg h0,if_pos Q]
  by_cases h3:3<q.rules.length
  .have d1:(3:Int)<(q.rules.length:Int):=O0
   simp(disch:=try exact O3)only[W0,Z0,Q0.val,d0,d1,N13,e];exact B
  .have d1:¬ (3:Int)<(q.rules.length:Int):=O0
   obtain⟨ha,hb⟩:=Q.resolve_left h3;have d2:(1:Int)<(q.rules.length:Int):=O0;have dn:decide (q.agg≠0)=true:=decide_eq_true hb;simp(disch:=try exact O3)only[W0,Z0,Q0.val,d0,d1,d2,N13,e,dn];exact B
 have a2:(decide ((3:Int)<(q.rules.length:Int))=false)/\((decide ((1:Int)<(q.rules.length:Int))=false)\/(decide ((1:Int)<(q.rules.length:Int))=true/\decide (q.agg≠0)=false)):=by
  refine⟨decide_eq_false O0,?_⟩
  by_cases h1:1<q.rules.length
  .refine .inr ⟨decide_eq_true O0,decide_eq_false fun h=>Q (.inr ⟨h1,h⟩)⟩
  .exact .inl (decide_eq_false O0)
 have a4:q.rules.length<=3:=O0;have d1:¬ (3:Int)<(q.rules.length:Int):=O0;have e0:X=if K41 q.head≠0 then K41 q.head else if Q117 q.agg q.aggvar≠0 then Q117 q.agg q.aggvar else if B9 (q.rules.map (Z23 (C21 q)))≠0 then B9 (q.rules.map (Z23 (C21 q))) else U113 q.head [] (q.order.map B94.var):=by
  rw[<- hX,V81,if_neg h0,if_neg Q]
 clear hX;have dz:decide ((0:Int)≠0)=false:=by decide
 simp(disch:=try exact O3)only[W0,Z0,Q0.val,d0];generalize hs H nx (O7 [.slice q.HA q.head.length q.hc,O8 q.agg,.string q.aggvar,.slice q.RA q.rules.length q.rc,.slice q.OA q.order.length q.oc])=H1 at B J ⊢;refine N5 (fun L H' nx'=>L=[.bool false]/\H1=H'/\nx+1=nx') ?_ ?_
 .intro tj hj
  have:=hj _ _ _ ⟨rfl,rfl,rfl⟩
  by_cases h1:1<q.rules.length
  .have hb:q.agg=0:=aI fun h=>Q (.inr ⟨h1,h⟩)
   have d2:(1:Int)<(q.rules.length:Int):=O0;simp(disch:=try exact O3)only[W0,d1,d2,hb,dz];exact this
  .have d2:¬ (1:Int)<(q.rules.length:Int):=O0
   simp(disch:=try exact O3)only[W0,d1,d2];exact this
 rintro _ _ _ ⟨rfl,rfl,rfl⟩;simp(disch:=try exact O3)only[W0,J];refine R0 (C148 q.HA q.head q.hc H1 (nx+1) (hQ.head.ext B) (hQ.headH.ext B) hQ.hcap W.head) ?_;rintro _ _ _ ⟨rfl,rfl,rfl⟩
 by_cases E:K41 q.head=0
 case neg=>
  have d:decide (K41 q.head≠0)=true:=decide_eq_true E;rw[if_pos E] at e0;simp(disch:=try exact O3)only[W0,d,e0];exact B
 rw[if_neg (by simpa using E)] at e0;have a0:q.head.length<=6:=by
  unfold K41 at E
  split at E
  .cases E
  .omega
 rw[E];simp(disch:=try exact O3)only[W0,dz,R109,J,G123];refine R0 (B149 q H1 (nx+1) W.agg) ?_;rintro _ H2 nx2 ⟨rfl,V⟩;have O:=B.trans V;have a6:=V.le;have Y:=(V.gt nx).trans J
 by_cases U:Q117 q.agg q.aggvar=0
 case neg=>
  have d:decide (Q117 q.agg q.aggvar≠0)=true:=decide_eq_true U;rw[if_pos U] at e0;simp(disch:=try exact O3)only[W0,d,e0];exact O
 rw[if_neg (by simpa using U)] at e0;rw[U];simp(disch:=try exact O3)only[W0,dz,Y,G123];refine R0 (K146 q H2 nx2 (hQ.ext O) W.rules a0 a4) ?_;rintro _ H3 a3 ⟨rfl,Z⟩;have M:=O.trans Z;have a1:=(Z.gt nx).trans Y
 by_cases R:B9 (q.rules.map (Z23 (C21 q)))=0
 case neg=>
  have d:decide (B9 (q.rules.map (Z23 (C21 q)))≠0)=true:=decide_eq_true R;rw[if_pos R] at e0;simp(disch:=try exact O3)only[W0,d,e0];exact M
 rw[if_neg (by simpa using R)] at e0;rw[R];simp(disch:=try exact O3)only[W0,dz,a1,G123];refine R0 (Y147 q H3 a3 (hQ.ext M) a0) ?_;rintro _ H4 a7 ⟨rfl,a5⟩;simp(disch:=try exact O3)only[W0,e0];exact M.trans a5
theorem M140:U46 gQ K134 100 18 [O8 1]=some (.string ⟨#[49]⟩):=by kernel_rfl
theorem V140:U46 gQ K134 100 18 [O8 2]=some (.string ⟨#[50]⟩):=by kernel_rfl
theorem X141:U46 gQ K134 100 18 [O8 3]=some (.string ⟨#[51]⟩):=by kernel_rfl
def N10(i:Nat):ByteArray:=⟨#[UInt8.ofNat (49+i)]⟩
theorem U149(i:Nat)(hi:i<3)(H:Y0)(nx:Nat):Q2 gQ 18 [O8 ((i:Int)+1)] H nx fun v H' nx' => .string (N10 i)=v/\H=H'/\nx=nx':=by
 match i,hi with
 | 0,_=>exact B55 mixed J2 (W130 _) M140 rfl rfl H nx
 | 1,_=>exact B55 mixed J2 (W130 _) V140 rfl rfl H nx
 | 2,_=>exact B55 mixed J2 (W130 _) X141 rfl rfl H nx
theorem K137{q:M13}(h:V81 q=0):∀ r ∈ q.rules,G23 r=0:=by
 unfold V81 at h
 split at h
 .cases h
 split at h
 .cases h
 split at h
 .rename_i a3;exact absurd h a3
 split at h
 .rename_i a4;exact absurd h a4
 split at h
 .rename_i a5;exact absurd h a5
 rename_i a5;have a5:B9 (q.rules.map (Z23 (C21 q)))=0:=by simpa using a5
 intro r hr;have h2:=R78 a5 r hr;unfold Z23 at h2
 split at h2
 .rename_i h3;exact absurd h2 h3
 rename_i h3;simpa using h3
theorem Z149{i:Nat}(hi:i<3)(k:VP):W8 .u8 (O8 (49+(i:Int))) k=k (.int .u8 (49+(i:Int))):=by
 have h2:i=0\/i=1\/i=2:=O0;rcases h2 with rfl | rfl | rfl<;>rfl
theorem N147(z:Int)(k:List Value->Prop):K6 1 1 [.int .u8 0] [(0,.int .u8 z)] k=k [.int .u8 z]:=rfl
theorem Q148{i:Nat}(hi:i<3){H:Y0}{b:Nat}(hg:J0 H b=O7 [.int .u8 (49+(i:Int))])(k:VP):X16 (.slice (some ⟨b,0,none⟩) 1 1) H k=k (.string (N10 i)):=by
 unfold X16 B19;dsimp only;rw[Y4,hg];have h2:i=0\/i=1\/i=2:=O0;rcases h2 with rfl | rfl | rfl<;>rfl
theorem E125{vs:List ByteArray}(h:N39 vs)(kind:Int){l:List Int}(hl:l.length<=1000):(Z38 vs kind l).1.size<=70000:=by
 by_cases h0:B7 vs=0
 .by_cases hk:kind<0\/3<kind
  .rw[G93 h0 hk];exact aL _
  .cases B:G15 vs l with
   | none=>rw[Q121 h0 hk B];exact aL _
   | some zs=>
    rw[D79 h0 hk B];have h1:=D53 zs fun z hz=>h z (M46 B z hz)
    have h2:=B32 B;have h3:kind.toNat<4:=O0;have h4:=D127 h3;show(_++_:ByteArray).size<=_;rw[aA];omega
 .rw[B121 h0];exact aL _
section
variable (a0:Value) (H:Y0) (nx:Nat) (k:EP)
def F5:Prop:=
 M12 a0 H nx fun b c d=>
 K7 b 0 c fun _ e=>
 R4 e 0 c fun e=>
 K7 b 4 c fun _ f=>
 R4 f 0 c fun f=>
 D10 .add e f fun e=>
 K7 b 2 c fun _ f=>
 R4 f 1 c fun f=>
 D10 .gtr f (.int .i64 100) fun f=>
 K7 b 0 c fun _ g=>
 R4 g 0 c fun h=>
 G3 (fun c d f i=>
 D10 .lss d.b h fun h=>
 B0 h (
 V4 (fun b=>
 U6 g d.b f fun _ c=>
 C1 false d.a (
 R4 c 1 f fun c=>
 D10 .gtr c (.int .i64 100) fun c=>
 b [c] f i) (
 b [bT] f i)) (fun b e f=>
 D10 .add d.b i1 fun d=>
 c [b.a,d] e f)) (
 K7 b 4 f fun _ c=>
 R4 c 0 f fun g=>
 G3 (fun d f h i=>
 D10 .lss f.b g fun g=>
 B0 g (
 V4 (fun b=>
 B15 c f.b 2 h fun _ c=>
 Q4 [.string ⟨#[]⟩,.bool false] h i fun d e g=>
 D5 d c 2 e fun c=>
 C1 false f.a (
 K7 d 0 c fun _ d=>
 R4 d 1 c fun d=>
 D10 .gtr d (.int .i64 100) fun d=>
 b [d] c g) (
 b [bT] c g)) (fun b c e=>
 D10 .add f.b i1 fun f=>
 d [b.a,f] c e)) (
 K7 b 3 h fun _ c=>
 R4 c 0 h fun d=>
 G3 (fun e f g h=>
 D10 .lss f.c d fun d=>
 B0 d (
 B15 c f.c 2 g fun _ b=>
 Q4 [.slice none 0 0,.slice none 0 0] g h fun c d g=>
 D5 c b 2 d fun b=>
 K7 c 1 b fun _ d=>
 R4 d 0 b fun d=>
 D10 .add f.a d fun d=>
 K7 c 1 b fun _ h=>
 R4 h 0 b fun i=>
 G3 (fun b g j l=>
 D10 .lss g.b i fun i=>
 B0 i (
 V4 (fun b=>
 B15 h g.b 5 j fun _ c=>
 Q4 [.string ⟨#[]⟩,.int .i64 0,.int .i64 0,.int .i64 0,.string ⟨#[]⟩] j l fun d e f=>
 D5 d c 5 e fun c=>
 C1 false g.a (
 K7 d 0 c fun _ e=>
 R4 e 1 c fun e=>
 D10 .gtr e (.int .i64 100) fun e=>
 C1 false e (
 B4 d 2 fun d=>
 K7 d 2 c fun _ d=>
 R4 d 1 c fun d=>
 D10 .gtr d (.int .i64 100) fun d=>
 b [d] c f) (
 b [bT] c f)) (
 b [bT] c f)) (fun c d e=>
 D10 .add g.b i1 fun f=>
 b [c.a,f] d e)) (
 K7 c 0 j fun _ b=>
 R4 b 0 j fun c=>
 G3 (fun d g h i=>
 D10 .lss g.c c fun c=>
 B0 c (
 B15 b g.c 3 h fun _ b=>
 Q4 [.bool false,.string ⟨#[]⟩,.slice none 0 0] h i fun c e f=>
 D5 c b 3 e fun b=>
 K7 c 2 b fun _ e=>
 R4 e 0 b fun e=>
 D10 .add i1 e fun e=>
 D10 .add g.a e fun e=>
 V4 (fun d=>
 C1 false g.b (
 K7 c 1 b fun _ c=>
 R4 c 1 b fun c=>
 D10 .gtr c (.int .i64 100) fun c=>
 d [c] b f) (
 d [bT] b f)) (fun b f h=>
 K7 c 2 f fun _ c=>
 R4 c 0 f fun i=>
 G3 (fun b f h j=>
 D10 .lss f.b i fun i=>
 B0 i (
 V4 (fun b=>
 B15 c f.b 4 h fun _ c=>
 Q4 [.string ⟨#[]⟩,.int .i64 0,.int .i64 0,.string ⟨#[]⟩] h j fun d e g=>
 D5 d c 4 e fun c=>
 C1 false f.a (
 K7 d 0 c fun _ e=>
 R4 e 1 c fun e=>
 D10 .gtr e (.int .i64 100) fun e=>
 C1 false e (
 B4 d 1 fun d=>
 K7 d 2 c fun _ d=>
 R4 d 1 c fun d=>
 D10 .gtr d (.int .i64 100) fun d=>
 b [d] c g) (
 b [bT] c g)) (
 b [bT] c g)) (fun c d e=>
 D10 .add f.b i1 fun f=>
 b [c.a,f] d e)) (
 D10 .add g.c i1 fun b=>
 d [e,f.a,b] h j)) [b.a,i0] f h)) (
 D10 .add f.c i1 fun b=>
 e [g.a,g.b,b] h i)) [d,g.a,i0] j l)) [f.b,i0] b g) (
 C1 false f.b (
 D10 .gtr f.a (.int .i64 200) fun c=>
 C1 false c (
 K7 b 3 g fun _ b=>
 R4 b 0 g fun b=>
 D10 .gtr b (.int .i64 5) fun b=>
 Rt b g h k) (
 Rt bT g h k)) (
 Rt bT g h k))) [e,f.a,i0] h i)) [d.a,i0] f i)) [f,i0] c d
variable {a0 H nx k}
theorem spec5:F5 a0 H nx k->Q2 gQ 5 [a0] H nx k:=Q12 [(7,[4]),(13,[4]),(26,[4]),(34,[4]),(38,[4])] [[4,31],[4,45],[3,4,60],[4,72],[3,4,94],[4,114]] [.one (.tst (.one .nil) (.one .nil)),.one (.tst (.one .nil) (.one .nil)),.one (.tst (.one (.tst (.one .nil) (.one .nil))) (.one (.one (.one .nil)))),.one (.tst (.one .nil) (.one .nil)),.one (.tst (.one (.tst (.one .nil) (.one .nil))) (.one (.one (.one .nil)))),.one (.tst (.one (.tst (.one .nil) (.one .nil))) (.one (.one (.one .nil))))]
end
structure R130 (q:M13):Prop where
 head:q.head.length<2305843009213693952
 order:q.order.length<2305843009213693952
 rules:q.rules.length<2305843009213693952
 atoms:∀ r ∈ q.rules,r.atoms.length<2305843009213693952
 conds:∀ r ∈ q.rules,r.conds.length<2305843009213693952
 terms:∀ r ∈ q.rules,∀ a ∈ r.atoms,a.terms.length<2305843009213693952
theorem D23{α:Type}{p:α->Prop}{l:List α}{i:Nat}{a:α}(h:l[i]? = some a)(h1:∀ x ∈ l.take i,p x)(h2:p a):∀ x ∈ l.take (i+1),p x:=by
 intro x hx;rw[R37 h,dN,dJ] at hx;rcases hx with hx | rfl
 .exact h1 x hx
 .exact h2
theorem J148(q:M13)(H:Y0)(nx:Nat)(hQ:D66 H nx q)(hL:R130 q):
  F5 (.agg ⟨Z16 q⟩) H nx fun v H' nx'=>(∃ c:Bool,v = .bool c/\(c=false->G113 q))/\D0 H nx H' nx':=by
 unfold F5;unfold Z16;have l1:=hL.head;have l2:=hL.order;have l3:=hL.rules;have W:D0 H nx (hs H nx (O7 [.slice q.HA q.head.length q.hc,O8 q.agg,.string q.aggvar,.slice q.RA q.rules.length q.rc,.slice q.OA q.order.length q.oc])) (nx+1):=(D0.refl H nx).nw _;have aj:J0 (hs H nx (O7 [.slice q.HA q.head.length q.hc,O8 q.agg,.string q.aggvar,.slice q.RA q.rules.length q.rc,.slice q.OA q.order.length q.oc])) nx=O7 [.slice q.HA q.head.length q.hc,O8 q.agg,.string q.aggvar,.slice q.RA q.rules.length q.rc,.slice q.OA q.order.length q.oc]:=Z11 _ _ _;simp(config:={ maxSteps:=2000000 }) (disch:=try exact O3)only[W0,Z0,Q0.val,Nat.reduceAdd];generalize hs H nx (O7 [.slice q.HA q.head.length q.hc,O8 q.agg,.string q.aggvar,.slice q.RA q.rules.length q.rc,.slice q.OA q.order.length q.oc])=H1 at W aj ⊢;generalize c9:(q.head.length:Int)+(q.order.length:Int)=n0;refine B1 (m:=q.head.length) (fun m L H' nx'=>∃(i:Nat) (c:Bool),m+i=q.head.length/\L=[.bool c,O8 (i:Int)]/\(c=false->q.aggvar.size<=100/\∀ s ∈ q.head.take i,s.size<=100)/\H1=H'/\nx+1=nx') ?_
  ⟨0,_,rfl,rfl,fun h=>⟨by have:=of_decide_eq_false h;omega,O2⟩,rfl,rfl⟩
 rintro m1 ce L _ _ ⟨i,c,bt,rfl,hc,rfl,rfl⟩ af;simp(config:={ maxSteps:=2000000 }) (disch:=try exact O3)only[W0]
 by_cases hi:i<q.head.length
 case pos=>
  have R:(i:Int)<(q.head.length:Int):=O0;obtain⟨s,hs⟩:∃ s,q.head[i]? = some s:=⟨_,aE hi⟩
  obtain⟨b,o,row,bp,hb,Q,b1⟩:=(hQ.head.ext W).open (i:=i) (by rw[W2];omega);have g0:=b1 _ _ (B6 hs);rw[bp]
  cases c with
  | true=>
   simp(config:={ maxSteps:=2000000 }) (disch:=try exact O3)only[W0,N13,R,X3 Q,g0];exact af (m1-1) _ _ _ O0 ⟨i+1,true,O0,O2,(fun h=>by cases h),rfl,rfl⟩
  | false=>
   simp(config:={ maxSteps:=2000000 }) (disch:=try exact O3)only[W0,N13,R,X3 Q,g0];refine af (m1-1) _ _ _ O0 ⟨i+1,decide ((100:Int)<(s.size:Int)),O0,O2,fun h => ?_,rfl,rfl⟩;have h2:=of_decide_eq_false h;exact⟨(hc rfl).1,D23 hs (hc rfl).2 O0⟩
 have R:¬ (i:Int)<(q.head.length:Int):=O0;rw[gJ O0] at hc;simp(config:={ maxSteps:=2000000 }) (disch:=try exact O3)only[W0,R,aj];refine B1 (m:=q.order.length) (fun m L H' nx'=>∃(i:Nat) (c:Bool),m+i=q.order.length/\L=[.bool c,O8 (i:Int)]/\(c=false->q.aggvar.size<=100/\∀ s ∈ q.head,s.size<=100)/\D0 H1 (nx+1) H' nx') ?_
  ⟨0,c,rfl,rfl,hc,D0.refl _ _⟩
 clear af hc bt;rintro m2 cf L H2 nx2 ⟨i2,c2,bh,rfl,aw,a5⟩ aa;have ap:=W.trans a5;have b3:=(a5.gt nx).trans aj;simp(config:={ maxSteps:=2000000 }) (disch:=try exact O3)only[W0]
 by_cases br:i2<q.order.length
 case pos=>
  have R:(i2:Int)<(q.order.length:Int):=O0;obtain⟨k,hk⟩:∃ k,q.order[i2]? = some k:=⟨_,aE br⟩
  obtain⟨b,o,row,bl,hb,Q,_,J⟩:=Sl.elem (hQ.ext ap).order B126 O0 hk;unfold D19 at J;rw[bl];have a6:D0 H2 nx2 (hs (hs H2 nx2 (O7 [.string ⟨#[]⟩,.bool false])) nx2 (O7 [.string k.var,.bool k.desc])) (nx2+1):=((D0.refl H2 nx2).nw _:D0 H2 nx2 _ (nx2+1)).h0
  cases c2 with
  | true=>
   simp(config:={ maxSteps:=2000000 }) (disch:=try exact O3)only[W0,Z0,Nat.reduceAdd,N13,R,X3 Q,J,G26];exact aa (m2-1) _ _ _ O0 ⟨i2+1,true,O0,O2,(fun h=>by cases h),a5.trans a6⟩
  | false=>
   simp(config:={ maxSteps:=2000000 }) (disch:=try exact O3)only[W0,Z0,Nat.reduceAdd,N13,R,X3 Q,J,G26];exact aa (m2-1) _ _ _ O0 ⟨i2+1,decide ((100:Int)<(k.var.size:Int)),O0,O2,(fun h=>aw rfl),a5.trans a6⟩
 have bg:¬ (i2:Int)<(q.order.length:Int):=O0;simp(config:={ maxSteps:=2000000 }) (disch:=try exact O3)only[W0,bg,b3];refine B1 (m:=q.rules.length) (fun m L H' nx'=>∃(i:Nat) (c:Bool) (n:Int),m+i=q.rules.length/\L=[O8 n,.bool c,O8 (i:Int)]/\(c=false->(q.aggvar.size<=100/\∀ s ∈ q.head,s.size<=100)/\∀ r ∈ q.rules.take i,C128 r)/\D0 H1 (nx+1) H' nx') ?_
  ⟨0,c2,n0,rfl,rfl,fun h=>⟨aw h,O2⟩,a5⟩
 clear aa aw bh ap b3 a5;rintro m3 c0 L H3 E ⟨i3,c3,n3,cg,rfl,ab,a6⟩ be;have a3:=W.trans a6;have aq:=(a6.gt nx).trans aj;simp(config:={ maxSteps:=2000000 }) (disch:=try exact O3)only[W0]
 by_cases bm:i3<q.rules.length
 case neg=>
  have R:¬ (i3:Int)<(q.rules.length:Int):=O0;rw[gJ O0] at ab;have a8:c3=false->G113 q:=fun h=>⟨(ab h).1.2,(ab h).1.1,(ab h).2⟩
  cases c3 with
  | true=>
   simp(config:={ maxSteps:=2000000 }) (disch:=try exact O3)only[W0,R,aq];exact⟨⟨true,rfl,a8⟩,a3⟩
  | false=>
   by_cases am:(200:Int)<n3
   .simp(config:={ maxSteps:=2000000 }) (disch:=try exact O3)only[W0,R,aq,am]
    exact⟨⟨true,rfl,fun _=>a8 rfl⟩,a3⟩
   .simp(config:={ maxSteps:=2000000 }) (disch:=try exact O3)only[W0,R,aq,am]
    exact⟨⟨_,rfl,fun _=>a8 rfl⟩,a3⟩
 have ay:(i3:Int)<(q.rules.length:Int):=O0;obtain⟨r,hr⟩:∃ r,q.rules[i3]? = some r:=⟨_,aE bm⟩
 have a7:=aH hr;have l4:=hL.atoms r a7;have l5:=hL.conds r a7;obtain⟨b,o,row,bq,hb,Q,_,J⟩:=Sl.elem (hQ.ext a3).rules G124 O0 hr;unfold K111 at J;rw[bq];simp(config:={ maxSteps:=2000000 }) (disch:=try exact O3)only[W0,Z0,Nat.reduceAdd,ay,X3 Q,J,G26];rw[Z63];generalize IntKind.i64.wrap (n3+(r.conds.length:Int))=n4;have b8:D0 H3 E (hs (hs H3 E (O7 [O6,O6])) E (O7 [.slice r.AA r.atoms.length r.ac,.slice r.CA r.conds.length r.cc])) (E+1):=((D0.refl H3 E).nw _:D0 H3 E _ (E+1)).h0;have bf:J0 (hs (hs H3 E (O7 [O6,O6])) E (O7 [.slice r.AA r.atoms.length r.ac,.slice r.CA r.conds.length r.cc])) E=O7 [.slice r.AA r.atoms.length r.ac,.slice r.CA r.conds.length r.cc]:=Z11 _ _ _
 try simp(config:={ maxSteps:=2000000 }) (disch:=try exact O3)only[W0,Z0,Q0.val,Nat.reduceAdd,Nat.reduceMul,Nat.reduceLeDiff]
 generalize hs (hs H3 E (O7 [O6,O6])) E (O7 [.slice r.AA r.atoms.length r.ac,.slice r.CA r.conds.length r.cc])=H4 at b8 bf ⊢;have az:=a6.trans b8;refine B1 (m:=r.conds.length) (fun m L H' nx'=>∃(j:Nat) (c:Bool),m+j=r.conds.length/\L=[.bool c,O8 (j:Int)]/\(c=false->c3=false/\∀ x ∈ r.conds.take j,x.var.size<=100)/\D0 H4 (E+1) H' nx') ?_
  ⟨0,c3,rfl,rfl,fun h=>⟨h,O2⟩,D0.refl _ _⟩
 rintro m5 ci L H5 Y ⟨j,c5,cb,rfl,al,a9⟩ a2;have ao:=az.trans a9;have b4:=W.trans ao;have bs:=(a9.gt E).trans bf;simp(config:={ maxSteps:=2000000 }) (disch:=try exact O3)only[W0]
 by_cases hj:j<r.conds.length
 case pos=>
  have ad:(j:Int)<(r.conds.length:Int):=O0;obtain⟨x,hx⟩:∃ x,r.conds[j]? = some x:=⟨_,aE hj⟩
  obtain⟨b5,o5,bx,bn,cj,Z,_,M⟩:=Sl.elem ((hQ.rule r a7).ext b4).conds C121 O0 hx;unfold Y127 at M;rw[bn];have a0:D0 H5 Y (hs (hs H5 Y (O7 [.string ⟨#[]⟩,O8 0,O8 0,O8 0,.string ⟨#[]⟩])) Y (O7 [.string x.var,O8 x.op,O8 x.kind,O8 x.int,.string x.str])) (Y+1):=((D0.refl H5 Y).nw _:D0 H5 Y _ (Y+1)).h0
  cases c5 with
  | true=>
   simp(config:={ maxSteps:=2000000 }) (disch:=try exact O3)only[W0,Z0,Nat.reduceAdd,N13,ad,X3 Z,M,R109,N117];exact a2 (m5-1) _ _ _ O0 ⟨j+1,true,O0,O2,(fun h=>by cases h),a9.trans a0⟩
  | false=>
   by_cases U:(100:Int)<(x.var.size:Int)
   .simp(config:={ maxSteps:=2000000 }) (disch:=try exact O3)only[W0,Z0,Nat.reduceAdd,N13,ad,X3 Z,M,R109,N117,U]
    exact a2 (m5-1) _ _ _ O0 ⟨j+1,true,O0,O2,(fun h=>by cases h),a9.trans a0⟩
   .simp(config:={ maxSteps:=2000000 }) (disch:=try exact O3)only[W0,Z0,Nat.reduceAdd,N13,ad,X3 Z,M,R109,N117,U]
    exact a2 (m5-1) _ _ _ O0 ⟨j+1,decide ((100:Int)<(x.str.size:Int)),O0,O2,(fun h=>⟨(al rfl).1,D23 hx (al rfl).2 O0⟩),a9.trans a0⟩
 have ad:¬ (j:Int)<(r.conds.length:Int):=O0;rw[gJ O0] at al;simp(config:={ maxSteps:=2000000 }) (disch:=try exact O3)only[W0,ad,bs];refine B1 (m:=r.atoms.length) (fun m L H' nx'=>∃(k:Nat) (c:Bool) (n:Int),m+k=r.atoms.length/\L=[O8 n,.bool c,O8 (k:Int)]/\(c=false->c5=false/\∀ a ∈ r.atoms.take k,Q130 a)/\D0 H1 (nx+1) H' nx') ?_
  ⟨0,c5,n4,rfl,rfl,fun h=>⟨h,O2⟩,ao⟩
 clear a2;rintro m6 ch L H6 B ⟨k,c6,n6,ca,rfl,ar,a0⟩ b0;have bd:=W.trans a0;simp(config:={ maxSteps:=2000000 }) (disch:=try exact O3)only[W0]
 by_cases hk:k<r.atoms.length
 case neg=>
  have ax:¬ (k:Int)<(r.atoms.length:Int):=O0;rw[gJ O0] at ar;simp(config:={ maxSteps:=2000000 }) (disch:=try exact O3)only[W0,ax];refine be (m3-1) _ _ _ O0 ⟨i3+1,c6,n6,O0,O2,fun h => ?_,a0⟩;obtain⟨h1,h2⟩:=ar h;obtain⟨h3,h4⟩:=al h1;obtain⟨h5,h6⟩:=ab h3;exact⟨h5,D23 hr h6 ⟨h2,h4⟩⟩
 have ax:(k:Int)<(r.atoms.length:Int):=O0;obtain⟨a,ha⟩:∃ a,r.atoms[k]? = some a:=⟨_,aE hk⟩
 have bc:=aH ha;have l6:=hL.terms r a7 a bc;obtain⟨b7,o7,bv,bu,c4,au,_,a4⟩:=Sl.elem ((hQ.rule r a7).ext bd).atoms M117 O0 ha;unfold Q115 at a4;rw[bu];have ba:D0 H6 B (hs (hs H6 B (O7 [.bool false,.string ⟨#[]⟩,O6])) B (O7 [.bool a.neg,.string a.rel,.slice a.TA a.terms.length a.tc])) (B+1):=((D0.refl H6 B).nw _:D0 H6 B _ (B+1)).h0;have ak:J0 (hs (hs H6 B (O7 [.bool false,.string ⟨#[]⟩,O6])) B (O7 [.bool a.neg,.string a.rel,.slice a.TA a.terms.length a.tc])) B=O7 [.bool a.neg,.string a.rel,.slice a.TA a.terms.length a.tc]:=Z11 _ _ _;simp(config:={ maxSteps:=2000000 }) (disch:=try exact O3)only[W0,Z0,Nat.reduceAdd,ax,X3 au,a4,D7];rw[Z63];generalize IntKind.i64.wrap (n6+(1+(a.terms.length:Int)))=n7
 try simp(config:={ maxSteps:=2000000 }) (disch:=try exact O3)only[W0,Z0,Q0.val,Nat.reduceAdd,Nat.reduceMul,Nat.reduceLeDiff]
 generalize hs (hs H6 B (O7 [.bool false,.string ⟨#[]⟩,O6])) B (O7 [.bool a.neg,.string a.rel,.slice a.TA a.terms.length a.tc])=H7 at ba ak ⊢;have b6:=a0.trans ba;refine N5 (fun L H' nx'=>(∃ c:Bool,L=[.bool c]/\(c=false->c6=false/\a.rel.size<=100))/\H7=H'/\B+1=nx') ?_ ?_
 .intro tj hj
  cases c6 with
  | true=>
   simp(config:={ maxSteps:=2000000 }) (disch:=try exact O3)only[W0];exact hj _ _ _ ⟨⟨true,rfl,fun h=>by cases h⟩,rfl,rfl⟩
  | false=>
   simp(config:={ maxSteps:=2000000 }) (disch:=try exact O3)only[W0];exact hj _ _ _ ⟨⟨_,rfl,fun h=>⟨rfl,by have:=of_decide_eq_false h;omega⟩⟩,rfl,rfl⟩
 rintro _ _ _ ⟨⟨c7,rfl,bo⟩,rfl,rfl⟩;simp(config:={ maxSteps:=2000000 }) (disch:=try exact O3)only[W0,ak];refine B1 (m:=a.terms.length) (fun m L H' nx'=>∃(l:Nat) (c:Bool),m+l=a.terms.length/\L=[.bool c,O8 (l:Int)]/\(c=false->c7=false/\∀ t ∈ a.terms.take l,t.var.size<=100)/\D0 H7 (B+1) H' nx') ?_
  ⟨0,c7,rfl,rfl,fun h=>⟨h,O2⟩,D0.refl _ _⟩
 rintro m8 c1 L H8 V ⟨l,c8,bz,rfl,ai,ah⟩ ag;have an:=b6.trans ah;have b2:=W.trans an;simp(config:={ maxSteps:=2000000 }) (disch:=try exact O3)only[W0]
 by_cases hl:l<a.terms.length
 case neg=>
  have ae:¬ (l:Int)<(a.terms.length:Int):=O0;rw[gJ O0] at ai;simp(config:={ maxSteps:=2000000 }) (disch:=try exact O3)only[W0,ae];refine b0 (m6-1) _ _ _ O0 ⟨k+1,c8,n7,O0,O2,fun h => ?_,an⟩;obtain⟨h1,h2⟩:=ai h;obtain⟨h3,h4⟩:=bo h1;obtain⟨h5,h6⟩:=ar h3;exact⟨h5,D23 ha h6 ⟨h4,h2⟩⟩
 have ae:(l:Int)<(a.terms.length:Int):=O0;obtain⟨t,ht⟩:∃ t,a.terms[l]? = some t:=⟨_,aE hl⟩
 obtain⟨b9,o9,bw,bk,cd,a1,_,O⟩:=Sl.elem (show Sl H8 V a.TA (a.terms.flatMap U118) from((hQ.rule r a7).terms a bc).ext b2) V117 O0 ht;unfold U118 at O;rw[bk];have av:D0 H8 V (hs (hs H8 V (O7 [.string ⟨#[]⟩,O8 0,O8 0,.string ⟨#[]⟩])) V (O7 [.string t.var,O8 t.kind,O8 t.int,.string t.str])) (V+1):=((D0.refl H8 V).nw _:D0 H8 V _ (V+1)).h0
 cases c8 with
 | true=>
  simp(config:={ maxSteps:=2000000 }) (disch:=try exact O3)only[W0,Z0,Nat.reduceAdd,N13,ae,X3 a1,O,D121,G88];exact ag (m8-1) _ _ _ O0 ⟨l+1,true,O0,O2,(fun h=>by cases h),ah.trans av⟩
 | false=>
  by_cases U:(100:Int)<(t.var.size:Int)
  .simp(config:={ maxSteps:=2000000 }) (disch:=try exact O3)only[W0,Z0,Nat.reduceAdd,N13,ae,X3 a1,O,D121,G88,U]
   exact ag (m8-1) _ _ _ O0 ⟨l+1,true,O0,O2,(fun h=>by cases h),ah.trans av⟩
  .simp(config:={ maxSteps:=2000000 }) (disch:=try exact O3)only[W0,Z0,Nat.reduceAdd,N13,ae,X3 a1,O,D121,G88,U]
   exact ag (m8-1) _ _ _ O0 ⟨l+1,decide ((100:Int)<(t.str.size:Int)),O0,O2,(fun h=>⟨(ai rfl).1,D23 ht (ai rfl).2 O0⟩),ah.trans av⟩
end Go.Proofs.YthbdeaeghipliaaGreatDoor
namespace Go.Clo
section
variable {X:Type} {enc:TypeId × Value->X} {P:Program} {w:World} {α β:Type}
def X0(enc:TypeId × Value->X)(P:Program)(w:World)(t:TypeId)(f:α->List Value)(Pr:Y0->Nat->α->Prop):Prop:=
 ∀(F:FM) (H:Y0) (nx n:Nat) (cs:List Value) (y:DataW X × List MemPlace),In w F H nx->eB enc P w 0 (fun _=>true) true n t cs=some y->(∀ k ∈ y.1.weights P t,k<=reachBytes) ->
  ∃(F':FM) (H':Y0) (nx':Nat) (a:α),In w F' H' nx'/\F.le F'/\D0 H nx H' nx'/\VL F' (f a) cs/\Pr H' nx' a
def Y7(Pr:Y0->Nat->α->Prop):Prop:=∀ H nx H' nx' a,Pr H nx a->D0 H nx H' nx'->Pr H' nx' a
theorem X0.map{t:TypeId}{f:α->List Value}{Pr:Y0->Nat->α->Prop}{f':β->List Value}{B:Y0->Nat->β->Prop}(g:α->β)(h:X0 enc P w t f Pr)(hf:∀ a,f' (g a)=f a)(hP:∀ H nx a,Pr H nx a->B H nx (g a)):X0 enc P w t f' B:=by
 intro F H nx n cs y hi ht hw;obtain⟨F',H',nx',a,h1,h2,h3,h4,h5⟩:=h F H nx n cs y hi ht hw;exact⟨F',H',nx',g a,h1,h2,h3,by rw[hf];exact h4,hP _ _ _ h5⟩
theorem X0.int{t:TypeId}{k:IntKind}(ht:P.underlying t=some (.int k)):X0 enc P w t (fun n:Int=>[.int k n]) (fun _ _ n=>(gZ k n).wf=true):=by
 intro F H nx n cs y hi hd hw;obtain⟨z,rfl,_,hz⟩:=DataW.trod_int ht hd;exact⟨F,H,nx,z,hi,fun _ _ h=>h,D0.refl _ _,.cons (.int _ _) .nil,hz⟩
theorem X0.bool{t:TypeId}(ht:P.underlying t=some .bool):X0 enc P w t (fun b:Bool=>[.bool b]) (fun _ _ _=>True):=by
 intro F H nx n cs y hi hd hw;obtain⟨b,rfl,_⟩:=DataW.trod_bool ht hd;exact⟨F,H,nx,b,hi,fun _ _ h=>h,D0.refl _ _,.cons (.bool _) .nil,trivial⟩
theorem X0.string{t:TypeId}(ht:P.underlying t=some .string):X0 enc P w t (fun s:ByteArray=>[.string s]) (fun _ _ _=>True):=by
 intro F H nx n cs y hi hd hw;obtain⟨s,rfl,_,_⟩:=DataW.trod_string ht hd;exact⟨F,H,nx,s,hi,fun _ _ h=>h,D0.refl _ _,.cons (.string _) .nil,trivial⟩
def W17(enc:TypeId × Value->X)(P:Program)(w:World)(off:Nat)(fs:List Field)(f:α->List Value)(Pr:Y0->Nat->α->Prop):Prop:=
 ∀(F:FM) (H:Y0) (nx n:Nat) (cs:List Value) (xs:List (DataW X × List MemPlace)),In w F H nx->xs.length=fs.length ->
  (∀(i:Nat) (fl:Field),fs[i]? = some fl->eB enc P w 0 (fun _=>true) true n fl.type ((cs.drop fl.offset).take (P.cellsOf fl.type))=xs[i]?) ->
  (∀ k ∈ DataW.weightsEach P (fs.map (·.type)) (xs.map (·.1)),k<=reachBytes) ->
  cs.length=off+(fs.map fun fl=>P.cellsOf fl.type).foldr (· + ·) 0 ->
  ∃(F':FM) (H':Y0) (nx':Nat) (a:α),In w F' H' nx'/\F.le F'/\D0 H nx H' nx'/\VL F' (f a) (cs.drop off)/\Pr H' nx' a
theorem W17.nil{off:Nat}:W17 enc P w off [] (fun _:Unit=>[]) (fun _ _ _=>True):=by
 intro F H nx n cs xs hi _ _ _ hc;refine⟨F,H,nx,(),hi,fun _ _ h=>h,D0.refl _ _,?_,trivial⟩;simp only[List.map_nil,List.foldr_nil,eM] at hc;rw[List.drop_eq_nil_of_le O0];exact .nil
theorem W17.cons{off:Nat}(c:Nat){fl:Field}{fs:List Field}{f:α->List Value}{Pr:Y0->Nat->α->Prop}{f':β->List Value}{B:Y0->Nat->β->Prop}(ho:fl.offset=off)(hc:P.cellsOf fl.type=c)(hK:Y7 Pr)(h:X0 enc P w fl.type f Pr)(r:W17 enc P w (off+c) fs f' B):W17 enc P w off (fl :: fs) (fun x:α × β=>f x.1++f' x.2) (fun H nx x=>Pr H nx x.1/\B H nx x.2):=by
 intro F H nx n cs xs hi hl ht hw J
 cases xs with
 | nil=>simp at hl
 | cons x xs=>
  have h0:=ht 0 fl rfl;rw[ho,hc] at h0;obtain⟨F1,H1,E,a,i1,l1,e1,v1,p1⟩:=h F H nx n _ x hi h0 fun k hk=>hw k (by simp only[aC,DataW.weightsEach,dN];exact .inl hk)
  obtain⟨F2,H2,nx2,b,i2,l2,e2,v2,p2⟩:=r F1 H1 E n cs xs i1 (by simpa using hl) (fun i g hg=>by simpa using ht (i+1) g (by simpa using hg)) (fun k hk=>hw k (by simp only[aC,DataW.weightsEach,dN];exact .inr hk))
   (by simp only[aC,List.foldr_cons,hc] at J;omega)
  refine⟨F2,H2,nx2,(a,b),i2,fun _ _ hh=>l2 _ _ (l1 _ _ hh),e1.trans e2,?_,hK _ _ _ _ _ p1 e2,p2⟩;have e:cs.drop off=(cs.drop off).take c++cs.drop (off+c):=by rw[<- List.drop_drop,List.take_append_drop]
  rw[e];exact(VL.mono l2 v1).append v2
theorem X0.struct{t:TypeId}{fs:Array Field}{f:α->List Value}{Pr:Y0->Nat->α->Prop}(ht:P.underlying t=some (.struct fs))(hc:P.cellsOf t=(fs.toList.map fun fl=>P.cellsOf fl.type).foldr (· + ·) 0)(h:W17 enc P w 0 fs.toList f Pr):X0 enc P w t f Pr:=by
 intro F H nx n cs y hi hd hw;obtain⟨xs,m,_,rfl,hl,hx,B⟩:=DataW.trod_struct ht hd;have:=h F H nx m cs xs hi (by simpa using hx) (fun i fl hf=>B i fl (by simpa using hf)) (fun k hk=>hw k (by simpa [gK,ht] using hk)) (by rw[hl,hc];omega);simpa using this
theorem E121{e:TypeId}{d:DataW X}:∀ {l:List (DataW X)},d ∈ l->∀ k ∈ d.weights P e,k ∈ DataW.weightsAll P e l
 | [],h,_,_=>by cases h
 | a :: l,h,k,hk=>by
  simp only[DataW.weightsAll,dN];rcases aU.1 h with rfl | h
  .exact .inl hk
  .exact .inr (E121 h k hk)
theorem G137{F:FM}{f:α->List Value}{sz:Nat}(hf:∀ a,(f a).length=sz):∀(xs:List α) (l:List Value),(∀ i a,xs[i]? = some a->VL F (f a) ((l.drop (i*sz)).take sz))->VL F (xs.flatMap f) (l.take (xs.length*sz))
 | [],l,_=>by simp;exact .nil
 | a :: xs,l,h=>by
  have h0:VL F (f a) (l.take sz):=by simpa using h 0 a rfl
  have ih:=G137 hf xs (l.drop sz) fun i b hb=>by
   have:=h (i+1) b (by simpa using hb);rw[List.drop_drop];rw[dM,Nat.one_mul,Nat.add_comm] at this;exact this
  rw[cV,dM,Nat.one_mul,Nat.add_comm,List.take_add,List.flatMap_cons];exact h0.append ih
theorem V131{e:TypeId}{f:α->List Value}{Pr:Y0->Nat->α->Prop}(hK:Y7 Pr)(he:X0 enc P w e f Pr){n:Nat}{cs:Nat->List Value}:∀(len:Nat) (F:FM) (H:Y0) (nx:Nat),In w F H nx ->
  (∀ i,i<len->∃ y:DataW X × List MemPlace,eB enc P w 0 (fun _=>true) true n e (cs i)=some y/\∀ k ∈ y.1.weights P e,k<=reachBytes) ->
  ∃(F':FM) (H':Y0) (nx':Nat) (xs:List α),In w F' H' nx'/\F.le F'/\D0 H nx H' nx'/\xs.length=len/\(∀ i a,xs[i]? = some a->VL F' (f a) (cs i))/\∀ a ∈ xs,Pr H' nx' a
 | 0,F,H,nx,hi,_=>⟨F,H,nx,[],hi,fun _ _ h=>h,D0.refl _ _,rfl,fun i a h=>by simp at h,O2⟩
 | len+1,F,H,nx,hi,hh=>by
  obtain⟨F1,H1,B,xs,i1,l1,e1,c1,v1,p1⟩:=V131 hK he len F H nx hi fun i h=>hh i O0
  obtain⟨y,hy,hw⟩:=hh len O0;obtain⟨F2,H2,nx2,a,i2,l2,e2,v2,p2⟩:=he F1 H1 B n _ y i1 hy hw;refine⟨F2,H2,nx2,xs++[a],i2,fun _ _ h=>l2 _ _ (l1 _ _ h),e1.trans e2,by simp[c1],fun i b hb => ?_,fun b hb => ?_⟩
  .by_cases E:i<len
   .rw[bQ O0] at hb
    exact VL.mono l2 (v1 i b hb)
   .have:i=len:=by
     have:=(aJ.mp hb).1;simp at this;omega
    subst this;rw[bS O0,c1,Nat.sub_self] at hb;simp at hb;subst hb;exact v2
  .rcases dN.1 hb with hb | hb
   .exact hK _ _ _ _ _ (p1 b hb) e2
   .simp at hb;subst hb;exact p2
theorem U130{e:TypeId}{f:α->List Value}{Pr:Y0->Nat->α->Prop}{sz:Nat}(Q:P.cellsOf e=sz)(hf:∀ a,(f a).length=sz)(hK:Y7 Pr)(he:X0 enc P w e f Pr){F:FM}{H:Y0}{nx:Nat}(hi:In w F H nx){a:Addr}{c':Array Value}{R:TypeId}{m:Nat × Nat}(J:a.spot=none)(hb:w.heap[a.block]? = some (.cells c' R m))(V:a.off<=c'.size){len cap n:Nat}{B:List (DataW X × List MemPlace)}(W:B.length=len)(O:∀ i,i<len->(w.cells? 0 (a.add (i*P.cellsOf e)) (P.cellsOf e)).bind (eB enc P w 0 (fun _=>true) true n e)=B[i]?)(hw:∀ y ∈ B,∀ k ∈ y.1.weights P e,k<=reachBytes):
  ∃(F':FM) (H':Y0) (nx':Nat) (b:Nat) (xs:List α),In w F' H' nx'/\F.le F'/\D0 H nx H' nx'/\VR F' (.slice (some ⟨b,0,none⟩) len cap) (.slice (some a) len cap)/\xs.length=len/\b<nx'/\J0 H' b=some (.rom (xs.flatMap f))/\∀ x ∈ xs,Pr H' nx' x:=by
 obtain⟨F1,H1,E,xs,i1,l1,e1,c1,v1,p1⟩:=V131 (w:=w) hK he (n:=n) (cs:=fun i=>(c'.toList.drop (a.off+i*sz)).take sz) len F H nx hi fun i U=>by
  have h1:=O i U;rw[aE O0] at h1;obtain⟨cs,h2,h3⟩:=eA.mp h1;rw[Q] at h2;rw[N61 hb J h2];exact⟨_,h3,hw _ (List.getElem_mem _)⟩
 have hv:VL F1 (xs.flatMap f) ((c'.toList.drop a.off).take (xs.flatMap f).length):=by
  rw[Z49 hf];exact G137 hf xs _ fun i y hy=>by rw[List.drop_drop];exact v1 i y hy
 have M:a.off+(xs.flatMap f).length<=c'.size:=by
  have h1:=hv.length;simp only[cK,List.length_drop,Array.length_toList] at h1;omega
 have L:=i1.row hb M hv;have hg:J0 (hs H1 E (some (.rom (xs.flatMap f)))) E=some (.rom (xs.flatMap f)):=Z11 _ _ _;refine⟨_,_,_,E,xs,L,fun _ _ h=>M36 i1 _ _ _ (l1 _ _ h),(e1.new _ e1.le (Nat.le_succ _)),?_,c1,Nat.lt_succ_self _,hg,fun x hx=>hK _ _ _ _ _ (p1 x hx) ((D0.refl H1 E).new _ (aD _) (Nat.le_succ _))⟩;have:=VR.slice (F:=N26 F1 E ⟨a.block,a.off,(xs.flatMap f).length,0,c'.size⟩) (b:=E) (o:=0) (n:=len) (c:=cap) (c':=cap) (t:=⟨a.block,a.off,(xs.flatMap f).length,0,c'.size⟩) (by simp[N26]) (.inl rfl);have ha:a=⟨a.block,a.off+0,none⟩:=by cases a;simp at J;subst J;rfl
 rw[ha];exact this
theorem J135{H:Y0}{nx b:Nat}{c:List Value}(hb:b<nx)(hg:J0 H b=some (.rom c)):Sl H nx (some ⟨b,0,none⟩) c:=
 fun i v h=>⟨b,0,c,rfl,hb,by rw[Q5,hg];rfl,by rw[cF];exact h⟩
theorem Z126{a:Addr}{k sz:Nat}{cs:List Value}(h:w.cells? 0 (a.add k) sz=some cs)(E:0<sz)(hk:k=0):a.spot=none/\∃ c' B m,w.heap[a.block]? = some (.cells c' B m)/\a.off<=c'.size:=by
 subst hk;obtain⟨_,hl,hc⟩:=World.cells?_some h;have h0:=hc 0 E;rw[aE O0] at h0;have ha:(a.add 0).add 0=a:=rfl;rw[ha] at h0;unfold cB at h0
 split at h0
 .rename_i c' B m hb
  split at h0
  .cases h0
  .rename_i hs
   refine⟨by simpa using hs,c',B,m,hb,?_⟩;have:=(Array.getElem?_eq_some_iff.1 h0).1;omega
 .cases h0
theorem X0.slice{t e:TypeId}{f:α->List Value}{Pr:Y0->Nat->α->Prop}{sz:Nat}(ht:P.underlying t=some (.slice e))(M:P.cellsOf e=sz)(h0:0<sz)(W:1<=P.bytesOf e)(hf:∀ a,(f a).length=sz)(hK:Y7 Pr)(he:X0 enc P w e f Pr):
  X0 enc P w t (fun x:Option Addr × Nat × List α=>[.slice x.1 x.2.2.length x.2.1]) (fun H nx x=>Sl H nx x.1 (x.2.2.flatMap f)/\(∀ a ∈ x.2.2,Pr H nx a)/\x.2.2.length<=reachBytes):=by
 intro F H nx n cs y hi hd hw;rcases DataW.trod_slice ht hd with ⟨rfl,_⟩ | ⟨a,len,cap,B,E,m,_,rfl,rfl,_,a3,_,V,U,J,_⟩
 .exact⟨F,H,nx,(none,0,[]),hi,fun _ _ h=>h,D0.refl _ _,.cons (.sliceN 0 0) .nil,Sl.nil _ _ _,O2,O2⟩
 .have Z:∀ z ∈ B,∀ k ∈ z.1.weights P e,k<=reachBytes:=fun z hz k hk=>hw k (by
   simp only[gK,ht,aU,dN];exact .inr (.inl (E121 (List.mem_map_of_mem hz) k hk)))
  have a0:len<=reachBytes:=by
   have h1:=hw ((B.length+E.length)*P.bytesOf e) (by simp[gK,ht]);have h2:=eL (show len<=B.length+E.length by omega) W;omega
  by_cases hcap:cap=0
  .subst hcap
   have L:len=0:=O0;rw[L];exact⟨F,H,nx,(some ⟨0,0,some 0⟩,0,[]),hi,fun _ _ h=>h,D0.refl _ _,.cons (.sliceW 0 a) .nil,Sl.nil _ _ _,O2,O2⟩
  .obtain⟨R,O⟩:∃ R,w.cells? 0 (a.add 0) sz=some R:=by
    by_cases L:0<len
    .have h1:=U 0 L
     rw[aE O0,Nat.zero_mul,M] at h1;obtain⟨cs,h2,_⟩:=eA.mp h1;exact⟨cs,h2⟩
    .obtain⟨a1,h1⟩:=J rfl
     have h2:=h1 0 O0;rw[aE O0,show(len+0)*P.cellsOf e=0 by rw[show len=0 by omega];simp,M] at h2;obtain⟨cs,h3,_⟩:=eA.mp h2;exact⟨cs,h3⟩
   obtain⟨hs,c',a2,mm,hb,Q⟩:=Z126 O h0 rfl;obtain⟨F',H',nx',b,xs,i1,l1,e1,v1,c1,Y,hg,p1⟩:=U130 (cap:=cap) M hf hK he hi hs hb Q V U Z;exact⟨F',H',nx',(some ⟨b,0,none⟩,cap,xs),i1,l1,e1,by show VL F' [.slice (some ⟨b,0,none⟩) xs.length cap] _;rw[c1];exact .cons v1 .nil,J135 Y hg,p1,by show xs.length<=_;omega⟩
theorem J126{f:α->List Value}{Pr:Y0->Nat->α->Prop}(hK:Y7 Pr):Y7 (fun H nx (x:Option Addr × Nat × List α)=>Sl H nx x.1 (x.2.2.flatMap f)/\(∀ a ∈ x.2.2,Pr H nx a)/\x.2.2.length<=reachBytes):=
 fun H nx H' nx' a h e=>⟨h.1.ext e,fun x hx=>hK _ _ _ _ _ (h.2.1 x hx) e,h.2.2⟩
theorem X56:Y7 (fun(_:Y0) (_:Nat) (_:α)=>True):=fun _ _ _ _ _ _ _=>trivial
theorem X36{p:α->Prop}:Y7 (fun(_:Y0) (_:Nat) (a:α)=>p a):=fun _ _ _ _ _ h _=>h
theorem In.sliceR{t e:TypeId}{f:α->List Value}{Pr:Y0->Nat->α->Prop}{sz:Nat}{r:Reach}{b0:Nat}(ht:P.underlying t=some (.slice e))(a1:P.cellsOf e=sz)(W:1<=P.bytesOf e)(hf:∀ a,(f a).length=sz)(hK:Y7 Pr)(he:X0 enc P w e f Pr){F:FM}{H:Y0}{nx n:Nat}(hi:In w F H nx){A:Option Addr}{len cap:Nat}{y:DataW X × List MemPlace}(J:Cell.ok P w r b0 t (.slice A len cap))(hd:eB enc P w 0 (fun _=>true) true n t [.slice A len cap]=some y)(hw:∀ k ∈ y.1.weights P t,k<=reachBytes):
  ∃(F':FM) (H':Y0) (nx':Nat) (A':Option Addr) (xs:List α),In w F' H' nx'/\F.le F'/\D0 H nx H' nx'/\VR F' (.slice A' xs.length cap) (.slice A len cap)/\xs.length=len/\len<=cap/\len<=reachBytes/\Sl H' nx' A' (xs.flatMap f)/\(∀ a ∈ xs,Pr H' nx' a) /\
   (A'=none/\cap=0\/∃ b,A'=some ⟨b,0,none⟩/\b<nx'/\J0 H' b=some (.rom (xs.flatMap f))):=by
 rcases DataW.trod_slice ht hd with ⟨h,_⟩ | ⟨a,a4,cap',B,L,m,_,h,rfl,_,a2,_,V,Z,a0,_⟩
 .simp at h
  obtain⟨rfl,rfl,rfl⟩:=h;exact⟨F,H,nx,none,[],hi,fun _ _ h=>h,D0.refl _ _,.sliceN 0 0,rfl,aD _,aL _,Sl.nil _ _ _,O2,.inl ⟨rfl,rfl⟩⟩
 .simp at h
  obtain⟨rfl,rfl,rfl⟩:=h;have a3:∀ z ∈ B,∀ k ∈ z.1.weights P e,k<=reachBytes:=fun z hz k hk=>hw k (by
   simp only[gK,ht,aU,dN];exact .inr (.inl (E121 (List.mem_map_of_mem hz) k hk)))
  have Y:len<=reachBytes:=by
   have h1:=hw ((B.length+L.length)*P.bytesOf e) (by simp[gK,ht]);have h2:=eL (show len<=B.length+L.length by omega) W;omega
  have hs:a.spot=none:=by
   simp only[Cell.ok,ht] at J;exact J.2.2.2.1
  obtain⟨c',U,mm,hb,Q⟩:∃ c' U m,w.heap[a.block]? = some (.cells c' U m)/\a.off<=c'.size:=by
   simp only[Cell.ok,ht] at J;obtain⟨_,_,_,_,row,cells,E,O⟩:=J;unfold World.shape? at E
   split at E
   .rename_i cc ee mm M
    cases E
    refine⟨_,_,_,M,?_⟩;have h1:=C32 O;exact bK h1 (Nat.div_mul_le_self _ _)
   .cases E
  obtain⟨F',H',nx',b,xs,i1,l1,e1,v1,c1,R,hg,p1⟩:=U130 (cap:=cap) a1 hf hK he hi hs hb Q V Z a3;exact⟨F',H',nx',some ⟨b,0,none⟩,xs,i1,l1,e1,by rw[c1];exact v1,c1,a2,Y,J135 R hg,p1,.inr ⟨b,rfl,R,hg⟩⟩
end
end Go.Clo
