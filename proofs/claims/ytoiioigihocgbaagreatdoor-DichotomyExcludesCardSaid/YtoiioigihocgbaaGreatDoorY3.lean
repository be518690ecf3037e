/-
Plain: natural numbers as lists of digits to the base 2^32,least significant first.
-/
import Derived.Test.YtoiioigihocgbaaGreatDoorY2
import Derived.Carry
import Derived.ChangeArms
import Derived.DataReads
import Derived.Below
import Derived.SizedLaws
import Derived.ChangeMaps5
import Derived.Laws.AppendOwn
import Derived.KernelRfl
import Derived.Test.YtoiioigihocgbaaGreatDoorProg
import Derived.Test.YtoiioigihocgbaaGreatDoorY1
set_option maxHeartbeats 8000000
set_option maxRecDepth 100000
set_option linter.all false
noncomputable section
open Array renaming getElem?_eq_none->fK,getElem?_toList->cL
open BitVec renaming ofInt->cT,toNat_ofNat->eP
open Bool renaming and_eq_true->aG,false_eq_true->dQ,or_eq_true->cO,true_and->iA
open Classical renaming byContradiction->aI
open Go.IntKind renaming bits->dW,signed->eK,u32->eW,wrap->eY
open Go.Proofs.Tryz renaming prog->gQ
open Go.Value renaming bool->dU,int->cD
open Int renaming toNat_natCast->gR
open List renaming all_eq_true->iE,append_nil->gV,cons_append->dL,drop_of_length_le->cM,ext_getElem?->dH,getD_cons_succ->gD,getD_cons_zero->fZ,getD_eq_getElem?_getD->aP,getElem?_append_left->bQ,getElem?_append_right->bS,getElem?_cons_succ->dK,getElem?_drop->dB,getElem?_eq_getElem->aE,getElem?_eq_none->aT,getElem?_eq_some_iff->aJ,getElem?_map->cP,getElem?_set->cQ,getElem?_set_ne->bL,getElem?_set_self->dG,getElem?_take->aX,getElem_of_mem->gL,length_append->bH,length_cons->cV,length_eq_zero_iff->dT,length_map->gM,length_replicate->iC,length_set->dO,length_take->cK,mem_append_left->dX,mem_cons->aU,mem_cons_of_mem->eJ,mem_map->gN,mem_of_getElem?->aH,mem_of_mem_drop->fO,mem_range->cW,nil_append->eR,range->aY,replicate->aF,take_of_length_le->gJ
open Nat renaming add_assoc->eH,add_mul->dM,add_zero->eM,beq->bR,ble->dD,eq_zero_or_pos->cI,gcd->fF,le_of_lt->eG,le_refl->aD,le_trans->bK,log2->iG,lt_of_le_of_lt->iF,lt_of_lt_of_le->aO,lt_or_ge->aW,mod_eq_of_lt->bV,mod_lt->eZ,mul_add->bJ,mul_assoc->eE,mul_comm->cG,mul_le_mul->eL,mul_le_mul_left->bG,mul_le_mul_right->dS,mul_lt_mul_of_pos_right->fU,mul_one->eQ,pow_le_pow_right->aK,pow_succ->dR,shiftRight_eq_div_pow->eO,two_pow_pos->aQ,zero_add->cF
open Ne renaming symm->eT
open Option renaming elim_some->aN,map_eq_some_iff->bU
open Option.some renaming inj->fA,injEq->aZ
open Rat renaming mul_nonneg->fY
namespace Go.Clo
section
variable {d n:Nat} {ds:List Nat}
def val:List Nat->Nat
 | []=>0
 | d :: ds=>d+4294967296*val ds
def D11(n:Nat):List Nat:=if h:n=0 then [] else n%4294967296 :: D11 (n/4294967296)
termination_by n
decreasing_by exact Nat.div_lt_self O0 O0
theorem D20:D11 0=[]:=by rw[D11];simp
theorem M74(h:0<n):D11 n=n%4294967296 :: D11 (n/4294967296):=by
 rw[D11,dif_neg O0]
theorem V20(n:Nat):val (D11 n)=n:=by
 induction n using Nat.strongRecOn with
 | ind n ih=>
  by_cases h:n=0
  .subst h;rw[D20];rfl
  .rw[M74 O0,val,ih _ (Nat.div_lt_self O0 O0)]
   omega
theorem B25(n:Nat):U14 (D11 n):=by
 induction n using Nat.strongRecOn with
 | ind n ih=>
  by_cases h:n=0
  .subst h;rw[D20];intro e he;cases he
  .rw[M74 O0]
   intro e he;rcases aU.1 he with rfl | he
   .omega
   .exact ih _ (Nat.div_lt_self O0 O0) e he
theorem B77{d:Nat}:U14 (d :: ds)<->d<4294967296/\U14 ds:=by
 unfold U14;simp
theorem X84:U14 []:=fun e he=>by cases he
theorem G77(a b:List Nat):val (a++b)=val a+4294967296^a.length*val b:=by
 induction a with
 | nil=>simp[val]
 | cons d a ih=>simp only[dL,val,ih,cV,dR];rw[bJ,<- eH,<- eE,cG 4294967296 (4294967296^a.length)]
theorem J95(h:U14 ds):val ds<4294967296^ds.length:=by
 induction ds with
 | nil=>simp[val]
 | cons d ds ih=>
  have h1:=B77.1 h;have h2:=ih h1.2;simp only[val,cV,dR];have h3:(val ds+1)*4294967296<=4294967296^ds.length*4294967296:=dS _ h2;omega
theorem J101(k:Nat):val (aF k 0)=0:=by
 induction k with
 | zero=>rfl
 | succ k ih=>rw[List.replicate_succ,val,ih]
theorem R72(k:Nat):U14 (aF k 0):=fun e he=>by
 rw[List.mem_replicate] at he;omega
theorem Y83(h:U14 ds):∃ k,ds=D11 (val ds)++aF k 0:=by
 induction ds with
 | nil=>exact⟨0,by simp[val,D20]⟩
 | cons d ds ih=>
  have h1:=B77.1 h;obtain⟨k,hk⟩:=ih h1.2
  by_cases h0:val (d :: ds)=0
  .have hd:d=0:=by simp only[val] at h0;omega
   have hv:val ds=0:=by simp only[val] at h0;omega
   refine⟨k+1,?_⟩;rw[h0,D20,eR,List.replicate_succ,hd];rw[hv,D20,eR] at hk;rw[<- hk]
  .refine⟨k,?_⟩
   rw[M74 O0];have e1:val (d :: ds)%4294967296=d:=by simp only[val];omega
   have e2:val (d :: ds)/4294967296=val ds:=by simp only[val];omega
   rw[e1,e2,dL,<- hk]
theorem Z86(h:U14 ds):ds.take (D11 (val ds)).length=D11 (val ds):=by
 obtain⟨k,hk⟩:=Y83 h;generalize hv:D11 (val ds)=q at *
 rw[hk];simp
theorem N92(h:U14 ds):(D11 (val ds)).length<=ds.length:=by
 obtain⟨k,hk⟩:=Y83 h;have:=congrArg List.length hk;simp at this;omega
theorem V96(h:U14 ds){i:Nat}(hi:(D11 (val ds)).length<=i)(hd:ds[i]? = some d):d=0:=by
 obtain⟨k,hk⟩:=Y83 h;rw[hk,bS hi,List.getElem?_replicate] at hd
 split at hd
 .cases hd;rfl
 .cases hd
theorem U76(h:0<n):∃ d,(D11 n)[(D11 n).length-1]? = some d/\0<d/\0<(D11 n).length:=by
 induction n using Nat.strongRecOn with
 | ind n ih=>
  rw[M74 h]
  by_cases h1:n/4294967296=0
  .rw[h1,D20]
   exact⟨n%4294967296,O2,O0,O2⟩
  .obtain⟨d,hd,hp,hl⟩:=ih (n/4294967296) (Nat.div_lt_self O0 O0) O0
   refine⟨d,?_,hp,O2⟩;rw[cV,show(D11 (n/4294967296)).length+1-1=((D11 (n/4294967296)).length-1)+1 by omega,dK];exact hd
theorem M65:(D11 n).length=0<->n=0:=by
 constructor
 .intro h
  have h1:=V20 n;rw[List.eq_nil_of_length_eq_zero h] at h1;exact h1.symm
 .rintro rfl;rw[D20];rfl
theorem Q68(n:Nat):n<4294967296^(D11 n).length:=by
 have:=J95 (B25 n);rwa [V20] at this
theorem E84(h:0<n):4294967296^((D11 n).length-1)<=n:=by
 obtain⟨d,hd,hp,hl⟩:=U76 h;have e:D11 n=(D11 n).take ((D11 n).length-1)++[d]:=by
  apply dH;intro i
  by_cases hi:i<(D11 n).length-1
  .rw[bQ O5,aX,if_pos hi]
  .rw[bS O5]
   by_cases h2:i=(D11 n).length-1
   .rw[h2,hd];simp
   .rw[aT O0,aT O5]
 have hv:=V20 n;rw[e,G77] at hv;have E:((D11 n).take ((D11 n).length-1)).length=(D11 n).length-1:=O2;rw[E,val,val] at hv;have h3:4294967296^((D11 n).length-1)*1<=4294967296^((D11 n).length-1)*(d+4294967296*0):=bG _ O0;omega
theorem E29{k:Nat}(h:n<4294967296^k):(D11 n).length<=k:=by
 by_cases h0:n=0
 .subst h0;rw[D20];simp
 .have h1:=E84 (show 0<n by omega)
  rcases aW k (D11 n).length with g | g
  .have h2:4294967296^k<=4294967296^((D11 n).length-1):=aK O0 O0
   omega
  .exact g
end
section
variable {F:FM} {H:Y0} {P:Program} {args:List Value} {c':Array Value} {e:TypeId} {f:FuncId} {m:Nat × Nat} {nx sz:Nat} {v:Value} {w:World}
theorem B55{n:Nat}{J:Orc}(hm:P.follows .mixedOrders=true)(E:J18 P)(ho:B42 P J)(hr:U46 P J n f args=some v)(ha:args.all M4=true)(hv:X7 v=true)(H:Y0)(nx:Nat):
  Q2 P f args H nx fun v' H' nx'=>v=v'/\H=H'/\nx=nx':=by
 have hE:Enters P f:=by
  unfold U46 at hr;rcases W22 (β:=Option Value) hm E ho n f args .leaf 0 none (fun v _ _=>some v) with h | ⟨v',H',nx',h,hcs⟩
  .rw[h] at hr;cases hr
  .exact hcs.1
 refine⟨v,H,nx,⟨hE,fun F O w hh hl => ?_⟩,rfl,rfl,rfl⟩;have e:=J19 hl ha;subst e;refine(B56 hm E ho hr ha hv w hh.gl.1).mono fun e w' ⟨he,hb⟩=>⟨v,F,he,C6 F v hv,?_⟩
 exact { le:=aD _,ext:=fun _ _=>rfl,os:=hb.os,tape:=hb.tape,output:=hb.output,size:=hb.size,frame:=fun b h _=>hb.block b h,own:=fun _ h => .inl h,keep:=fun _ _ h=>h,rom:=fun i b h _=>⟨hh.low h,h⟩,hr:=⟨fun i b hi hg=>let ⟨t,h1,h2⟩:=hh.blk i b hi hg;⟨t,h1,h2.mono (fun _ _ h=>h) (hb.block _ h2.lt)⟩,hh.inj,hh.fresh,hh.top,hh.gl.step (fun b h _=>hb.block b h) (fun _ h => .inl h)⟩ }
structure In (w:World) (F:FM) (H:Y0) (nx:Nat):Prop where
 hr:HR F H nx w
 rom:∀ i b,J0 H i=some b->b.isRom=true
theorem In.start(w:World)(E:GlW w):In w (fun _=>none) .leaf 0:=
 ⟨⟨fun i b hi=>O0,fun i j bi bj ti tj hi=>O0,fun _ _=>rfl,fun _ _=>rfl,⟨E,fun x hx ⟨i,_,_,hi,_⟩=>O0⟩⟩,fun i b h=>by rw[C40] at h;cases h⟩
theorem Y46{E:List Value}{Q:Value->Y0->Nat->Prop}(h:Q2 P f args H nx Q)(hQ:∀ v H' nx',Q v H' nx'->v = .bool true)(hi:In w F H nx)(hl:VL F args E):
  Calls P f E.toArray w fun e w'=>e = .returned (.bool true)/\RowKit.Below w.heap.size w w':=by
 obtain⟨v,H',nx',O,hq⟩:=h;have:=hQ _ _ _ hq;subst this;refine(O.2 F E w hi.hr hl).mono fun e w' ⟨v',F',he,U,J⟩ => ?_
 cases U
 refine⟨he,J.os,J.tape,J.output,J.size,fun b hb=>J.frame b hb ?_⟩;rintro⟨i,k,t,_,hg,hk,_⟩;rw[hi.rom i k hg] at hk;cases hk
def N26(F:FM)(i:Nat)(t:J7):FM:=fun j=>if j=i then some t else F j
theorem M36(h:In w F H nx)(t:J7):F.le (N26 F nx t):=by
 intro i u hu;have:i≠nx:=by
  intro e;subst e;rw[h.hr.fresh i (aD _)] at hu;cases hu
 simp[N26,this,hu]
theorem In.name(h:In w F H nx)(t:J7):In w (N26 F nx t) H (nx+1):=by
 have E:=M36 h t;refine⟨⟨fun i b hi hg => ?_,fun i j bi bj ti tj hi hj O J _ _ _ => .inr ⟨h.rom _ _ O,h.rom _ _ J⟩,fun i hi => ?_,fun i hi=>h.hr.top i O0,⟨h.hr.gl.1,fun x hx ⟨i,k,u,_,hg,hk,_⟩=>by rw[h.rom i k hg] at hk;cases hk⟩⟩,h.rom⟩
 .obtain⟨u,h1,h2⟩:=h.hr.blk i b (h.hr.low hg) hg
  exact⟨u,E _ _ h1,h2.mono E rfl⟩
 .have:i≠nx:=O0
  simp[N26,this];exact h.hr.fresh i O0
theorem In.row(h:In w F H nx){a:Nat}{off:Nat}{c:List Value}(hb:w.heap[a]? = some (.cells c' e m))(Q:off+c.length<=c'.size)(hv:VL F c ((c'.toList.drop off).take c.length)):In w (N26 F nx ⟨a,off,c.length,0,c'.size⟩) (hs H nx (some (.rom c))) (nx+1):=by
 have h1:=h.name ⟨a,off,c.length,0,c'.size⟩;have J:=M36 h ⟨a,off,c.length,0,c'.size⟩;have E:∀ i b,J0 (hs H nx (some (.rom c))) i=some b->b.isRom=true:=by
  intro i b hg;rw[N7] at hg
  split at hg
  .cases hg;rfl
  .exact h.rom i b hg
 refine⟨⟨fun i b hi hg => ?_,fun i j bi bj ti tj hi hj U O _ _ _ => .inr ⟨E _ _ U,E _ _ O⟩,h1.hr.fresh,fun i hi => ?_,⟨h.hr.gl.1,fun x hx ⟨i,k,u,_,hg,hk,_⟩=>by rw[E i k hg] at hk;cases hk⟩⟩,E⟩
 .rw[N7] at hg
  split at hg
  .rename_i V
   subst V
   cases hg
   refine⟨_,by simp[N26];rfl,?_⟩;exact⟨c',e,m,hb,rfl,rfl,rfl,Q,VL.mono J hv⟩
  .exact h1.hr.blk i b hi hg
 .rw[N7,if_neg O0];exact h.hr.top i O0
theorem M28{α:Type}{p:Nat->α->Prop}:∀ {n:Nat},(∀ i,i<n->∃ a,p i a)->∃ xs:List α,xs.length=n/\∀ i a,xs[i]? = some a->p i a
 | 0,_=>⟨[],rfl,fun i a h=>by simp at h⟩
 | n+1,h=>by
  obtain⟨xs,h1,h2⟩:=M28 (n:=n) (p:=p) fun i hi=>h i O0
  obtain⟨a,ha⟩:=h n O0;refine⟨xs++[a],by simp[h1],fun i b hb => ?_⟩
  by_cases hi:i<n
  .rw[bQ O0] at hb;exact h2 i b hb
  .have:i=n:=by
    have:=(aJ.mp hb).1;simp at this;omega
   subst this;rw[bS O0,h1,Nat.sub_self] at hb;simp at hb;subst hb;exact ha
theorem J40{α:Type}{f:α->List Value}{sz:Nat}(hf:∀ a,(f a).length=sz):∀(xs:List α) (l:List Value),(∀ i a,xs[i]? = some a->(l.drop (i*sz)).take sz=f a)->l.take (xs.length*sz)=xs.flatMap f
 | [],l,_=>O2
 | a :: xs,l,h=>by
  have h0:l.take sz=f a:=by simpa using h 0 a rfl
  have ih:=J40 hf xs (l.drop sz) fun i b hb=>by
   have:=h (i+1) b (by simpa using hb);rw[List.drop_drop];rw[dM,Nat.one_mul,Nat.add_comm] at this;exact this
  rw[cV,dM,Nat.one_mul,Nat.add_comm,List.take_add,h0,ih];rfl
theorem Z49{α:Type}{f:α->List Value}(hf:∀ a,(f a).length=sz)(xs:List α):(xs.flatMap f).length=xs.length*sz:=by
 induction xs with
 | nil=>simp
 | cons a xs ih=>simp[hf,ih,dM];omega
section
variable {X:Type} {enc:TypeId × Value->X} {P:Program} {w:World} {base:Nat} {spare:Nat->Bool} {held:Bool}
theorem N61{a:Addr}(hb:w.heap[a.block]? = some (.cells c' e m))(hs:a.spot=none){k:Nat}{cs:List Value}(h:w.cells? base (a.add k) sz=some cs):
  (c'.toList.drop (a.off+k)).take sz=cs:=by
 obtain⟨_,hl,hc⟩:=World.cells?_some h;apply dH;intro i;rw[aX]
 split
 .rename_i hi
  rw[<- hc i hi,dB];have E:∀(b:Addr) (n:Nat),b.spot=none->b.add n=⟨b.block,b.off+n,none⟩:=by
   intro b n hn;unfold Addr.add
   split
   .rename_i h0
    subst h0
    cases b;simp at hn;subst hn;rfl
   .rfl
  rw[E a k hs,E _ i rfl];simp[World.cell?,hb,eH]
 .rw[aT O0]
theorem N24(hl:laidOutB P=true){W W':World}(hb:RowKit.Below W.heap.size W W'):∀(ts:List TypeId) (vs:List Value) (ds:List (DataW X)) (ps:List MemPlace),(∀ t ∈ ts,P.readableRec t=true/\t<P.types.size) ->
  DataW.TrodAll enc P W 0 (fun _=>true) true ts vs ds ps->(∀ x ∈ ps,x.block<W.heap.size)->DataW.TrodAll enc P W' 0 (fun b=>decide (b<W.heap.size)) true ts vs ds ps
 | [],[],[],ps,_,h,_=>h
 | t :: ts,v :: vs,d :: ds,ps,ht,⟨p,q,h1,h2,e⟩,hlt=>by
  subst e;refine⟨p,q,?_,N24 hl hb ts vs ds q (fun u hu=>ht u (eJ _ hu)) h2 fun x hx=>hlt x (List.mem_append_right _ hx),rfl⟩;obtain⟨h3,h4⟩:=ht t List.mem_cons_self;exact RowKit.Below.trod hl h3 h4 h1 hb fun x hx=>hlt x (dX _ hx)
theorem J41{f:Func}{s:ChangeSpec}{O fresh J:Bool}{W W':World}{args:Array Value}{ds gs:List (DataW X)}{E pa pv:List MemPlace}(hW:DataW.Whole enc P f.params.toList s.vars O W args.toList ds gs E)(hb:RowKit.Below W.heap.size W W')(V:∀(b:Nat) (sp:Nat->Bool) (hd:Bool),DataW.TrodAll enc P W' b sp hd f.resultTypes.toList (v.resultList f.resultTypes.size) (s.fn X (ds++gs)).results [])(U:DataW.TrodAll enc P W' 0 (fun b=>decide (b<W.heap.size)) true f.params.toList args.toList (s.fn X (ds++gs)).args pa)(Q:DataW.TrodVars enc P W' (fun b=>decide (b<W.heap.size)) s.vars (s.fn X (ds++gs)).vars pv):s.post enc P f O fresh J false W args v W':=
 ⟨ds,gs,E,[],pa,pv,hW,V _ _ _,U,Q,hb.frame _,fun h=>by cases h⟩
end
end
section
variable {A:Option Addr} {H:Y0} {cap i m n nx size:Nat} {e:TypeId} {l:List Value} {x:Value}
theorem E56{p:Program}{Q14:TypeId->Bool}{d:Nat}{E off:Nat}(h:rowAt p Q14 d e E off n=true):off<=E*p.cellsOf e:=by
 cases d with
 | zero=>simp[rowAt] at h
 | succ d=>
  unfold rowAt at h;simp only at h
  split at h
  .cases h
  .rename_i hs
   have h1:=Nat.div_add_mod off (p.cellsOf e);have h3:off%p.cellsOf e<p.cellsOf e:=eZ _ O0;rw[cO] at h;rcases h with h | h
   .simp only[aG,beq_iff_eq,decide_eq_true_eq] at h
    obtain⟨⟨hr,hi⟩,_⟩:=h;rw[hr,eM,cG] at h1;rw[<- h1];exact dS _ O0
   .simp only[aG,decide_eq_true_eq] at h
    have h2:(off/p.cellsOf e+1)*p.cellsOf e<=E*p.cellsOf e:=dS _ O0;rw[dM,Nat.one_mul,cG] at h2;omega
theorem C32{p:Program}{e:TypeId}{E off:Nat}:∀ {d:Nat} {u:TypeId} {n:Nat},liesAt p d e E off u n=true->off<=E*p.cellsOf e
 | 0,_,_,h=>by simp[liesAt] at h
 | d+1,u,n,h=>by
  unfold liesAt at h;rw[cO] at h;rcases h with h | h
  .exact E56 h
  .split at h
   .exact C32 h
   .cases h
def Has(H:Y0)(nx:Nat)(A:Option Addr):Prop:=A=none\/∃ b o row,A=some ⟨b,o,none⟩/\b<nx/\Q5 H b=some row
theorem Has.ext{H':Y0}{nx':Nat}(h:Has H nx A)(e:D0 H nx H' nx'):Has H' nx' A:=by
 rcases h with h | ⟨b,o,row,h1,h2,h3⟩
 .exact .inl h
 .exact .inr ⟨b,o,row,h1,aO h2 e.le,by rw[e.row h2];exact h3⟩
section
variable {X:Type} {enc:TypeId × Value->X} {P:Program} {w:World} {base:Nat} {spare:Nat->Bool} {held:Bool}
theorem In.sliceH{α:Type}{f:α->List Value}{Pr:α->Prop}{sz:Nat}{F:FM}(hi:In w F H nx){t:TypeId}{len b0 a6:Nat}{r:Reach}{x:DataW X × List MemPlace}(ht:P.underlying t=some (.slice e))(ad:P.cellsOf e=sz)(hf:∀ a,(f a).length=sz)(O:Cell.ok P w r b0 t (.slice A len cap))(ab:DataW.trod enc P w base spare held a6 t [.slice A len cap]=some x)(W:∀ n cs y,DataW.trod enc P w base spare held n e cs=some y->∃ a,f a=cs/\Pr a)(a2:∀ a,(f a).all M4=true):
  ∃(F':FM) (H':Y0) (nx':Nat) (A':Option Addr) (xs:List α),In w F' H' nx'/\F.le F'/\VR F' (.slice A' len cap) (.slice A len cap)/\xs.length=len/\(∀ a ∈ xs,Pr a)/\Sl H' nx' A' (xs.flatMap f)/\D0 H nx H' nx'/\len<=maxLen/\Has H' nx' A':=by
 rcases DataW.trod_slice ht ab with ⟨h0,_⟩ | ⟨a,ah,cap',ac,rest,n,_,h0,_,_,hl,hm,ae,aa,_,_⟩
 .simp at h0
  obtain⟨rfl,rfl,rfl⟩:=h0;exact⟨F,H,nx,none,[],hi,fun _ _ h=>h,.sliceN _ _,rfl,O2,fun i v h=>by simp at h,D0.refl _ _,Nat.zero_le _,.inl rfl⟩
 .simp at h0
  obtain⟨rfl,rfl,rfl⟩:=h0;have E:a.spot=none:=by
   simp only[Cell.ok,ht] at O;exact O.2.2.2.1
  obtain⟨c',a4,m,hb,ag⟩:∃ c' a4 m,w.heap[a.block]? = some (.cells c' a4 m)/\a.off<=c'.size:=by
   simp only[Cell.ok,ht] at O;obtain⟨_,_,_,_,row,cells,Q,Z⟩:=O;unfold World.shape? at Q
   split at Q
   .rename_i cc ee mm a0
    cases Q
    refine⟨_,_,_,a0,?_⟩;have h1:=C32 Z;exact bK h1 (Nat.div_mul_le_self _ _)
   .cases Q
  obtain⟨xs,V,a5⟩:∃ xs:List α,xs.length=len/\∀ i y,xs[i]? = some y->(c'.toList.drop (a.off+i*sz)).take sz=f y/\Pr y:=by
   refine M28 fun i a1 => ?_
   have h1:=aa i a1;rw[aE O0] at h1;obtain⟨cs,h2,h3⟩:=Option.bind_eq_some_iff.mp h1;obtain⟨y,rfl,hy⟩:=W _ _ _ h3;rw[ad] at h2;exact⟨y,N61 hb E h2,hy⟩
  have a7:∀ y ∈ xs,Pr y:=fun y hy=>by
   obtain⟨i,a1,rfl⟩:=gL hy;exact(a5 i _ (aE a1)).2
  have J:(c'.toList.drop a.off).take (len*sz)=xs.flatMap f:=by
   rw[<- V];exact J40 hf xs _ fun i y hy=>by rw[List.drop_drop];exact(a5 i y hy).1
  have a3:=Z49 hf xs;have a8:a.off+(xs.flatMap f).length<=c'.size:=by
   have h1:=congrArg List.length J;simp only[cK,List.length_drop,Array.length_toList] at h1;omega
  have a9:VL F (xs.flatMap f) ((c'.toList.drop a.off).take (xs.flatMap f).length):=by
   rw[a3,V,J];refine J10 F _ ?_;rw[iE];intro v hv;obtain⟨y,_,hy⟩:=List.mem_flatMap.mp hv;exact iE.mp (a2 y) v hy
  have U:Q5 (hs H nx (some (.rom (xs.flatMap f)))) nx=some (xs.flatMap f):=by rw[Q5,Z11];rfl
  refine⟨_,_,_,some ⟨nx,0,none⟩,xs,hi.row hb a8 a9,M36 hi _,?_,V,a7,fun i v h=>⟨nx,0,xs.flatMap f,rfl,O0,U,by rw[cF];exact h⟩,(D0.refl H nx).nw _,O0,.inr ⟨nx,0,_,rfl,O0,U⟩⟩;have:=VR.slice (F:=N26 F nx ⟨a.block,a.off,(xs.flatMap f).length,0,c'.size⟩) (b:=nx) (o:=0) (n:=len) (c:=cap) (c':=cap) (t:=⟨a.block,a.off,(xs.flatMap f).length,0,c'.size⟩) (by simp[N26]) (.inl rfl);have ha:a=⟨a.block,a.off+0,none⟩:=by cases a;simp at E;subst E;rfl
  rw[ha];exact this
end
theorem Y62(h:Has H nx A):Src H size (.slice A 0 cap) 0 []:=by
 refine⟨rfl,fun k => ?_,O2⟩;rcases h with rfl | ⟨b,o,row,rfl,_,hrow⟩
 .rfl
 .unfold Q5 at hrow
  cases hg:J0 H b with
  | none=>rw[hg] at hrow;cases hrow
  | some blk=>
   rw[hg] at hrow;show B19 H ⟨b,o,none⟩ (0*size) False k=k [];unfold B19;simp only;rw[Y4,hg,Nat.zero_mul]
   cases blk with
   | cells c sl=>rfl
   | map es c=>simp[V3.row] at hrow
   | rom c=>rfl
theorem C27(h:Sl H nx A l)(h0:Has H nx A)(hl:l.length=m*size)(E:0<size):Src H size (.slice A m cap) m l:=by
 cases m with
 | zero=>
  have:l=[]:=by simpa using hl
  subst this;exact Y62 h0
 | succ m=>exact B68 h hl (Nat.mul_pos O0 E)
theorem J79{b m sl:Nat}{row:List Value}(hg:J0 H b=some (.cells row sl))(hx:Src H size x m l)(hm:m<=n)(ho:Z0 l=true)(hl:l.length<=row.length)(k:EP):
  M82 (.slice (some ⟨b,0,none⟩) n cap) x size H nx k=k (O8 (m:Int)) (hs H b (some (.cells (B12 row 0 l) sl))) nx:=by
 unfold M82;rw[hx.len];dsimp only;have e:Nat.min m n=m:=Nat.min_eq_left hm;rw[G1,e,hx.first,ho];simp only[cond_true];rw[J30,hg];simp only[stP,cF,hl,true_and]
 rfl
theorem N31{c:List Value}{o:Nat}(h:o<c.length):B12 c o [x]=c.set o x:=by
 unfold B12;rw[List.set_eq_take_append_cons_drop,if_pos h];simp
theorem X62{l:List Nat}{x:Nat}:(K12 l).set i (O9 (x:Int))=K12 (l.set i x):=by simp[K12,List.map_set]
theorem J105{l:List Int}{x:Int}:(U4 l).set i (O8 x)=U4 (l.set i x):=by simp[U4,List.map_set]
theorem V10{l:List Nat}{x:Nat}(h:i<l.length):B12 (K12 l) i [O9 (x:Int)]=K12 (l.set i x):=by rw[N31 (by rw[E1];exact h),X62]
theorem J92{l:List Int}{x:Int}(h:i<l.length):B12 (U4 l) i [O8 x]=U4 (l.set i x):=by rw[N31 (by rw[X9];exact h),J105]
end
section
variable {F:FM} {H:Y0} {b nx o:Nat} {t:J7} {w:World} {xs:List Value}
theorem U23(hh:HR F H nx w)(hF:F b=some t)(hS:Sl H nx (some ⟨b,o,none⟩) xs){i:Nat}{v:Value}(hi:xs[i]? = some v):
  ∃ v',w.cell? ⟨t.blk,t.base+o+i,none⟩=some v'/\VR F v v':=by
 obtain⟨b',o',row,e,hb,E,hv⟩:=hS i v hi
 cases e
 unfold Q5 at E
 cases hg:J0 H b with
 | none=>rw[hg] at E;cases E
 | some blk=>
  rw[hg] at E;have Q:=hh.hb.get hF hg;have O:∀(c:List Value) (c':Array Value),row=c->VL F c ((c'.toList.drop t.base).take c.length)->∃ v',c'[t.base+o+i]? = some v'/\VR F v v':=by
   intro c c' e J;subst e;obtain⟨v',h1,h2⟩:=J.some hv;refine⟨v',?_,h2⟩;rw[aX] at h1
   split at h1
   .rw[dB,cL] at h1
    rw[<- h1];congr 1;omega
   .cases h1
  cases blk with
  | map es q=>cases E
  | cells c sl=>
   obtain⟨c',e,hw,_,_,_,_,J⟩:=Q;simp only[Option.bind_some,V3.row,aZ] at E;obtain⟨v',h1,h2⟩:=O c c' E.symm J;exact⟨v',by simp[World.cell?,hw,h1],h2⟩
  | rom c=>
   obtain⟨c',e,m,hw,_,_,_,_,J⟩:=Q;simp only[Option.bind_some,V3.row,aZ] at E;obtain⟨v',h1,h2⟩:=O c c' E.symm J;exact⟨v',by simp[World.cell?,hw,h1],h2⟩
theorem W40(hh:HR F H nx w)(hF:F b=some t)(hS:Sl H nx (some ⟨b,o,none⟩) xs)(h0:0<xs.length):t.blk<w.heap.size:=by
 obtain⟨v',h1,_⟩:=U23 hh hF hS (aE h0);unfold World.cell? at h1;rcases aW t.blk w.heap.size with g | g
 .exact g
 .rw[fK g] at h1;cases h1
theorem N2.row{w':World}(hh:HR F H nx w)(hb:RowKit.Below w.heap.size w w'){g cap:Nat}{E:Array Value}{e:TypeId}(hg:w.heap.size<=g)(hc:w'.heap[g]? = some (.cells E e (0,0)))(h1:xs.length<=cap)(h2:E.size=cap)(h3:E.toList.take xs.length=xs)(J:cap<=9223372036854775807)(O:xs.all M4=true):
  ∃ F',VR F' (.slice (some ⟨nx,0,none⟩) xs.length xs.length) (.slice (some ⟨g,0,none⟩) xs.length cap)/\N2 F H nx w F' (hs H nx (some (.cells xs 1))) (nx+1) w':=by
 refine⟨upd F nx ⟨g,0,xs.length,1,cap⟩,?_,N2.name hh rfl hb.os hb.tape hb.output hb.size (fun k hk=>hb.block k hk) ?_ hg⟩
 .have:=VR.slice (F:=upd F nx ⟨g,0,xs.length,1,cap⟩) (b:=nx) (o:=0) (n:=xs.length) (c:=xs.length) (c':=cap) (t:=⟨g,0,xs.length,1,cap⟩) (Y6 _ _ _) (.inr ⟨Nat.one_pos,h1,O2,O2,J⟩)
  exact this
 .refine⟨E,e,hc,h2,rfl,rfl,by simpa using h1,?_⟩
  simp only[List.drop_zero];rw[h3];exact J10 _ _ O
end
section
variable {H H0:Y0} {b bytes lo m n nx size:Nat} {c l:List Value} {k:EP} {x:Value}
theorem U21(z:List Value)(k:List Value->Prop):K6 0 1 z [] k=k []:=by
 rw[Q66];show(if Z0 []=true then k [] else False)=_;exact if_pos (show Z0 []=true from rfl)
theorem B52{cap sl:Nat}{c:List Value}(E:0<size)(hg:J0 H b=some (.cells c sl))(hl:c.length=n*size)(k:List Value->Prop):Z5 H size n (.slice (some ⟨b,0,none⟩) n cap) False k=k c:=by
 rcases cI n with h0 | h0
 .subst h0
  simp at hl;subst hl;unfold Z5 B19;dsimp only;rw[Y4,hg];simp only[aN,Nat.zero_mul,G5];exact V14 _ _
 .exact(J9 hg hl (Nat.mul_pos h0 E)).first k
theorem K44(U:0<size)(hg:J0 H b=O7 c)(hl:c.length=n*size)(hx:Src H size x m l)(hm:0<m)(ho:Z0 l=true)(J:(2*(n+m)+1000)*bytes<=281474976710656)(Q:n+m<=1000000000):B5 (.slice (some ⟨b,0,none⟩) n n) x size bytes H nx k=k (.slice (some ⟨nx,0,none⟩) (n+m) (n+m)) (hs H nx (some (.cells (c++l) size))) (nx+1):=by
 have E:(c++l).length=(n+m)*size:=by rw[bH,hl,hx.size,dM]
 unfold B5 Z22;rw[hx.len];dsimp only;rw[G1,V6 J,V6 Q];simp only[Bool.and_self,cond_true];rw[hx.first,ho,E27 (show n<n+m by omega)];simp only[cond_true,cond_false];rw[B52 U hg hl,V14,E,D13];simp only[cond_true,D22];rw[Y4,hg];simp only[aN];have O:N8 (.cells c 0) 0 n size=some false:=rfl;rw[O];dsimp only;simp only[K11];rw[G1,G1,G4]
theorem Y58(hg:J0 H b=O7 c)(hl:c.length=n*size)(hx:Src H size x 0 [])(E:(2*n+1000)*bytes<=281474976710656)(J:n<=1000000000):B5 (.slice (some ⟨b,0,none⟩) n n) x size bytes H nx k=k (.slice (some ⟨b,0,none⟩) n n) (hs H b (O7 c)) nx:=by
 unfold B5 Z22;rw[hx.len];dsimp only;rw[G1,V6 (show(2*(n+0)+1000)*bytes<=281474976710656 from E),V6 (show n+0<=1000000000 from J)];simp only[Bool.and_self,cond_true];rw[hx.first];simp only[Z0,cond_true,eM,V6 (aD n),C42,G1];rw[J30,hg];simp only[U20,List.length_nil,eM,cF,B12,gV,List.take_append_drop,hl,aD,true_and]
theorem G21(t:TypeId)(A:Option Addr)(n c:Nat)(k:VP):D9 (.eqn false (.slice t)) [.slice A n c,O6] k=k (.bool A.isNone):=by
 have e:VF.ev (.eqn false (.slice t)) [.slice A n c,O6]=some (.bool A.isNone):=by cases A<;>rfl
 unfold D9;rw[e,J8];rfl
theorem K13:∀ l:List Int,Z0 (U4 l)=true
 | []=>rfl
 | x :: l=>K13 l
def E23(lo:Nat)(H:Y0)(nx:Nat)(v:Value)(c:List Value):Prop:=
 Acc lo H nx 1 v c.length c\/(c=[]/\∃ b,lo<=b/\b<nx/\v = .slice (some ⟨b,0,none⟩) 0 0/\J0 H b=some (.cells [] 0))
theorem E23.ext{lo:Nat}{H:Y0}{nx:Nat}{v:Value}{c:List Value}{H':Y0}{nx':Nat}(h:E23 lo H nx v c)(e:D0 H nx H' nx'):E23 lo H' nx' v c:=by
 rcases h with h | ⟨h0,b,h1,h2,h3,h4⟩
 .exact .inl (h.ext e)
 .exact .inr ⟨h0,b,h1,aO h2 e.le,h3,by rw[e.get b h2];exact h4⟩
theorem E23.sl{lo:Nat}{H:Y0}{nx:Nat}{v:Value}{c:List Value}(h:E23 lo H nx v c):∃ A,v = .slice A c.length c.length/\Sl H nx A c/\Has H nx A:=by
 rcases h with h | ⟨rfl,b,h1,h2,rfl,h4⟩
 .obtain⟨A,rfl,hS⟩:=h.sl
  refine⟨A,rfl,hS,?_⟩;rcases h.2 with ⟨_,e⟩ | ⟨b,_,h2,e,h4⟩
  .injection e with e1
   exact .inl e1
  .injection e with e1
   subst e1;exact .inr ⟨b,0,c,rfl,h2,by simp[Q5,h4,V3.row]⟩
 .exact⟨_,rfl,Sl.nil _ _ _,.inr ⟨b,0,[],rfl,h2,by simp[Q5,h4,V3.row]⟩⟩
theorem K38{v:Value}{y:Value}(hA:E23 lo H nx v c)(hx:Src H 1 x 1 [y])(ho:Z0 [y]=true)(hb:bytes<=16)(Q:c.length<=1000000)(hE:D0 H0 lo H nx)(E:lo<=nx)(hk:∀ v' H',E23 lo H' (nx+1) v' (c++[y])->D0 H0 lo H' (nx+1)->(∀ i,i<lo->J0 H' i=J0 H i)->k v' H' (nx+1)):B5 v x 1 bytes H nx k:=by
 have J:(2*(c.length+1)+1000)*bytes<=281474976710656:=by
  have:=eL (show 2*(c.length+1)+1000<=2*1000001+1000 by omega) hb;omega
 rcases hA with hA | ⟨rfl,b,h1,h2,rfl,h4⟩
 .have O:∀ A n' c',v = .slice (some A) n' c'->lo<=A.block:=fun A n' c' e=>by
   rcases hA.2 with ⟨_,e'⟩ | ⟨b,h1,_,e',_⟩
   .rw[e'] at e;cases e
   .rw[e'] at e;cases e;exact h1
  refine Y20 O0 hA hx O0 ho J O0 hE E fun v' H' h1 h2 h3=>hk v' H' (.inl ?_) h2 fun i hi=>h3 i O0 fun A n' c' e=>by have:=O A n' c' e;omega
  rw[bH];exact h1
 .rw[K44 (n:=0) O0 h4 O2 hx O0 ho (by simpa using J) O0]
  exact hk _ _ (.inl ⟨rfl,.inr ⟨nx,E,O0,rfl,Z11 _ _ _⟩⟩) (hE.new _ E O0) fun i hi=>gN _
theorem V22{P:Program}{g:FuncId}{first cap args:List Value}{Q:EP}(h:Q2 P g (first++args++cap) H nx Q)(hk:∀ v H' nx',Q v H' nx'->k v H' nx'):
  M33 P (.func (.func g) ⟨first⟩ ⟨cap⟩) args H nx k:=by
 show spine (first++args++cap) (fun vs=>M8 P g vs H nx False k);rw[V14];exact .inr (h.mono hk)
theorem R20(hg:J0 H b=O7 [])(E:lo<=b)(hb:b<nx)(hx:Src H 1 x m l)(ho:Z0 l=true)(hm:m<=1000000)(J:bytes<=16)(hE:D0 H0 lo H nx)(hk:∀ v' H' nx',nx<=nx'->E23 lo H' nx' v' l->D0 H0 lo H' nx'->k v' H' nx'):B5 (.slice (some ⟨b,0,none⟩) 0 0) x 1 bytes H nx k:=by
 have O:(2*(0+m)+1000)*bytes<=281474976710656:=by
  have:=eL (show 2*(0+m)+1000<=2*1000000+1000 by omega) J;omega
 have hl:=hx.size;rcases cI m with h0 | h0
 .subst h0
  have:l=[]:=dT.1 O0;subst this;rw[Y58 (n:=0) hg (by rfl) hx O0 O0];exact hk _ _ _ (aD _) (.inr ⟨rfl,b,E,hb,rfl,Z11 _ _ _⟩) (hE.hs E)
 .rw[K44 (n:=0) O0 hg O2 hx h0 ho O O0]
  refine hk _ _ _ O0 (.inl ⟨O0,.inr ⟨nx,O0,O0,?_,?_⟩⟩) (hE.nw _)
  .rw[cF,hl,eQ]
  .rw[Z11];rfl
end
def K70:Option (Nat × Bool)->Option (Nat × Bool)->Bool
 | none,none=>true
 | some (a,x),some (b,y)=>bR a b&&(cond x y (!y))
 | _,_=>false
def W71:Option (Nat × Bool)->Option Nat->Bool
 | some (a,_),some b=>bR a b
 | _,_=>false
def K63(g:Option (Nat × Bool))(E:List S):List S->List G
 | []=>[(g,E.reverse)]
 | s :: l=>cond (K70 g s.guard && !(W71 g s.dst)) (K63 g (⟨none,s.dst,s.i⟩ :: E) l) ((g,E.reverse) :: K63 s.guard [⟨none,s.dst,s.i⟩] l)
def grp:List S->List G
 | []=>[]
 | s :: l=>K63 s.guard [⟨none,s.dst,s.i⟩] l
def G61(x:Nat):List Nat->Bool
 | []=>false
 | y :: l=>bR x y || G61 x l
def W52(ws:List Nat):List Nat->List Nat->List Nat
 | acc,[]=>acc
 | acc,x :: l=>cond (G61 x ws || G61 x acc) (W52 ws acc l) (W52 ws (x :: acc) l)
def V12{β:Type}:C->Nat->List (Nat × List Nat)->List (List Nat)->List HT->(D->Nat->List (Nat × List Nat)->List (List Nat)->List HT->β)->β
 | .skip,n,js,ls,hs,k=>k .skip n js ls hs
 | .ops l,n,js,ls,hs,k=>match grp l with
  | []=>k (.ops [] .nil) n js ls hs
  | [(none,m)]=>k (.ops [(none,m)] (.one .nil)) n js ls hs
  | gs=>match hs with
   | h :: hs=>k (.ops gs h) n js ls hs
   | []=>k (.ops gs .nil) n js ls hs
 | .draw ms l,n,js,ls,hs,k=>match grp l with
  | []=>k (.draw ms [] .nil) n js ls hs
  | [(none,m)]=>k (.draw ms [(none,m)] (.one .nil)) n js ls hs
  | gs=>match hs with
   | h :: hs=>k (.draw ms gs h) n js ls hs
   | []=>k (.draw ms gs .nil) n js ls hs
 | .seq a b,n,js,ls,hs,k=>match js with
  | []=>V12 a (n+1) [] ls hs fun a n js ls hs=>V12 b n js ls hs fun b n js ls hs=>k (.seq a b) n js ls hs
  | (i,ws) :: r=>cond (bR i n)
    (V12 a (n+1) r ls hs fun a n js ls hs=>V12 b n js ls hs fun b n js ls hs=>k (.join ws (W52 ws [] a.writes) a b) n js ls hs)
    (V12 a (n+1) js ls hs fun a n js ls hs=>V12 b n js ls hs fun b n js ls hs=>k (.seq a b) n js ls hs)
 | .cond x t e,n,js,ls,hs,k=>V12 t n js ls hs fun t n js ls hs=>V12 e n js ls hs fun e n js ls hs=>k (.cond x t e) n js ls hs
 | .block id c,n,js,ls,hs,k=>V12 c n js ls hs fun c n js ls hs=>k (.block id c) n js ls hs
 | .loop c,n,js,ls,hs,k=>match ls with
  | ws :: ls=>V12 c n js ls hs fun c n js ls hs=>k (.loop ws (W52 ws [] c.writes) c) n js ls hs
  | []=>V12 c n js [] hs fun c n js ls hs=>k (.loop [] c.writes c) n js ls hs
 | .exit id,n,js,ls,hs,k=>k (.exit id) n js ls hs
 | .ret,n,js,ls,hs,k=>k .ret n js ls hs
def X5(P:Program)(f:FuncId)(js:List (Nat × List Nat))(ls:List (List Nat))(hs:List HT):D:=match cfn P f with
 | some c=>V12 c.body 0 js ls hs fun d _ _ _ _=>d
 | none => .skip
def cN(P:Program)(f:FuncId):Nat:=match cfn P f with
 | some c=>c.n
 | none=>0
def cR(P:Program)(f:FuncId):List (X × Option (Option Nat)):=match cfn P f with
 | some c=>c.res
 | none=>[]
theorem D114{P:Program}(hm:P.follows .mixedOrders=true)(J:J18 P){f:FuncId}{args:List Value}{H:Y0}{nx:Nat}{Q:Value->Y0->Nat->Prop}{F:Prop}{js:List (Nat × List Nat)}{ls:List (List Nat)}{hs:List HT}(hc:cfn P f=some ⟨cN P f,iG (cN P f)+1,(X5 P f js ls hs).erase,cR P f⟩)(E:(X5 P f js ls hs).ok (cN P f) (iG (cN P f)+1)=true)(hl:dD args.length (cN P f)=true)(he:X55 P (cN P f) (iG (cN P f)+1) (X5 P f js ls hs) (cR P f) args H nx Q=F)(h:F):Q2 P f args H nx Q:=
 X44 hm J hc E (Nat.le_of_ble_eq_true hl) (he.symm ▸ h)
def K7(v:Value)(o:Nat)(H:Y0)(k:Value->VP):Prop:=B4 v o fun a=>J1 a none H (k a)
theorem N111(v:Value)(o:Nat)(H:Y0)(k:Value->VP):K7 v o H k=B4 v o fun a=>J1 a none H (k a):=rfl
def C81(v:Value)(o s:Nat)(H:Y0)(k:Value->VP):Prop:=B4 v o fun a=>J1 a (some s) H (k a)
theorem J109(v:Value)(o s:Nat)(H:Y0)(k:Value->VP):C81 v o s H k=B4 v o fun a=>J1 a (some s) H (k a):=rfl
def U6(v i:Value)(H:Y0)(k:Value->VP):Prop:=M3 v i none 1 fun a=>J1 a none H (k a)
theorem C112(v i:Value)(H:Y0)(k:Value->VP):U6 v i H k=M3 v i none 1 fun a=>J1 a none H (k a):=rfl
def B15(v i:Value)(s:Nat)(H:Y0)(k:Value->VP):Prop:=M3 v i none s fun a=>J1 a (some s) H (k a)
theorem D111(v i:Value)(s:Nat)(H:Y0)(k:Value->VP):B15 v i s H k=M3 v i none s fun a=>J1 a (some s) H (k a):=rfl
def M12(v:Value)(H:Y0)(nx:Nat)(k:EP):Prop:=E5 v fun c=>J3 (.cells c 0) .ptr H nx k
theorem C111(v:Value)(H:Y0)(nx:Nat)(k:EP):M12 v H nx k=E5 v fun c=>J3 (.cells c 0) .ptr H nx k:=rfl
def D24(n s:Nat)(z:List Value)(vs:List (Nat × Value))(H:Y0)(nx:Nat)(k:EP):Prop:=K6 n s z vs fun c=>J3 (.cells c 0) (.slice n n) H nx k
theorem B111(n s:Nat)(z:List Value)(vs:List (Nat × Value))(H:Y0)(nx:Nat)(k:EP):D24 n s z vs H nx k=K6 n s z vs fun c=>J3 (.cells c 0) (.slice n n) H nx k:=rfl
def G29(a b:Value)(z:List Value)(H:Y0)(nx:Nat)(k:EP):Prop:=D30 a b z fun c l m=>J3 (.cells c 0) (.slice l m) H nx k
theorem G111(a b:Value)(z:List Value)(H:Y0)(nx:Nat)(k:EP):G29 a b z H nx k=D30 a b z fun c l m=>J3 (.cells c 0) (.slice l m) H nx k:=rfl
def wAl(z:List Value)(H:Y0)(nx:Nat)(k:EP):Prop:=J3 (.cells z 0) .ptr H nx k
theorem R111(z:List Value)(H:Y0)(nx:Nat)(k:EP):wAl z H nx k=J3 (.cells z 0) .ptr H nx k:=rfl
def Rt(v:Value)(H:Y0)(nx:Nat)(k:EP):Prop:=M0 v fun u=>k u H nx
theorem J80(v:Value)(H:Y0)(nx:Nat)(k:EP):Rt v H nx k=M0 v fun u=>k u H nx:=rfl
def cE(t:Value)(m:Option Nat)(H:Y0)(v:Value):Prop:=J1 t m H fun q=>q=v
theorem Z113(t:Value)(m:Option Nat)(H:Y0)(v:Value):cE t m H v=J1 t m H fun q=>q=v:=rfl
def z32:List Value:=[.int .u32 0,.int .u32 0,.int .u32 0,.int .u32 0,.int .u32 0,.int .u32 0,.int .u32 0,.int .u32 0,.int .u32 0,.int .u32 0,.int .u32 0,.int .u32 0,.int .u32 0,.int .u32 0,.int .u32 0,.int .u32 0,.int .u32 0,.int .u32 0,.int .u32 0,.int .u32 0,.int .u32 0,.int .u32 0,.int .u32 0,.int .u32 0,.int .u32 0,.int .u32 0,.int .u32 0,.int .u32 0,.int .u32 0,.int .u32 0,.int .u32 0,.int .u32 0]
theorem R112:z32=([O9 0,O9 0,O9 0,O9 0,O9 0,O9 0,O9 0,O9 0,O9 0,O9 0,O9 0,O9 0,O9 0,O9 0,O9 0,O9 0,O9 0,O9 0,O9 0,O9 0,O9 0,O9 0,O9 0,O9 0,O9 0,O9 0,O9 0,O9 0,O9 0,O9 0,O9 0,O9 0]:List Value):=rfl
def zR:List Value:=[.bool false,.slice none 0 0,.slice none 0 0]
theorem D113:zR=([.bool false,O6,O6]:List Value):=rfl
def i0:Value := .int .i64 0
theorem G114:i0=(O8 0:Value):=rfl
def i1:Value := .int .i64 1
theorem U114:i1=(O8 1:Value):=rfl
def u0:Value := .int .u32 0
theorem N113:u0=(O9 0:Value):=rfl
def u1:Value := .int .u32 1
theorem W114:u1=(O9 1:Value):=rfl
def bT:Value := .bool true
theorem X113:bT=(.bool true:Value):=rfl
def bF:Value := .bool false
theorem B114:bF=(.bool false:Value):=rfl
def _root_.List.a(l:List Value):Value:=l.getD 0 undef
theorem E113(l:List Value):l.a=l.getD 0 undef:=rfl
def _root_.List.b(l:List Value):Value:=l.getD 1 undef
theorem Q114(l:List Value):l.b=l.getD 1 undef:=rfl
def _root_.List.c(l:List Value):Value:=l.getD 2 undef
theorem N112(l:List Value):l.c=l.getD 2 undef:=rfl
def _root_.List.d(l:List Value):Value:=l.getD 3 undef
theorem M113(l:List Value):l.d=l.getD 3 undef:=rfl
def _root_.List.e(l:List Value):Value:=l.getD 4 undef
theorem C113(l:List Value):l.e=l.getD 4 undef:=rfl
def _root_.List.f(l:List Value):Value:=l.getD 5 undef
theorem E114(l:List Value):l.f=l.getD 5 undef:=rfl
def tA(x:Prop):Prop:=True/\x
theorem R113(x:Prop):tA x=(True/\x):=rfl
def tB(x:Prop):Prop:=x/\True
theorem V113(x:Prop):tB x=(x/\True):=rfl
def wK(a b:Prop):Prop:=(a/\b)\/False
theorem X114(a b:Prop):wK a b=((a/\b)\/False):=rfl
theorem W1:(type_of% @N111)/\(type_of% @J109)/\(type_of% @C112)/\(type_of% @D111)/\(type_of% @C111)/\(type_of% @B111)/\(type_of% @G111)/\(type_of% @R111)/\(type_of% @J80)/\(type_of% @Z113)/\(type_of% @R112)/\(type_of% @D113)/\(type_of% @G114)/\(type_of% @U114)/\(type_of% @N113)/\(type_of% @W114)/\(type_of% @X113)/\(type_of% @B114)/\(type_of% @E113)/\(type_of% @Q114)/\(type_of% @N112)/\(type_of% @M113)/\(type_of% @C113)/\(type_of% @E114)/\(type_of% @R113)/\(type_of% @V113)/\(type_of% @X114):=⟨@N111,@J109,@C112,@D111,@C111,@B111,@G111,@R111,@J80,@Z113,@R112,@D113,@G114,@U114,@N113,@W114,@X113,@B114,@E113,@Q114,@N112,@M113,@C113,@E114,@R113,@V113,@X114⟩
theorem W0:(type_of% @W1)/\(type_of% @fZ.{0})/\(type_of% @gD.{0})/\(type_of% @E45)/\(type_of% @Q43)/\(type_of% @G48)/\(type_of% @M42)/\(type_of% @V44)/\(type_of% @Z47)/\(type_of% @C46)/\(type_of% @M29)/\(type_of% @Z27)/\(type_of% @Y35)/\(type_of% @X29)/\(type_of% @Z50)/\(type_of% @G51)/\(type_of% @M50)/\(type_of% @W38)/\(type_of% @K40)/\(type_of% @J35)/\(type_of% @R28)/\(type_of% @Q37)/\(type_of% @W59)/\(type_of% @Y31)/\(type_of% @D45)/\(type_of% @N35)/\(type_of% @Y30)/\(type_of% @W41)/\(type_of% @Q45)/\(type_of% @W44)/\(type_of% @J48)/\(type_of% @V65)/\(type_of% @G65)/\(type_of% @X57)/\(type_of% @Y40)/\(type_of% @Y50)/\(type_of% @Q40)/\(type_of% @Z11)/\(type_of% @Z1)/\(type_of% @Y5)/\(type_of% @G1)/\(type_of% @G4)/\(type_of% @aN.{1,0})/\(type_of% @List.getElem?_cons_zero.{0})/\(type_of% @dK.{0})/\(type_of% @decide_true)/\(type_of% @decide_false)/\(type_of% @if_true.{1})/\(type_of% @if_false.{1})/\(type_of% @dQ)/\(type_of% @cF)/\(type_of% @eM)/\(type_of% @and_true)/\(type_of% @true_and)/\(type_of% @or_false)/\(type_of% @Bool.not_true)/\(type_of% @Bool.not_false)/\(type_of% @and_self)/\(type_of% @N32)/\(type_of% @N33)/\(type_of% @U33)/\(type_of% @K32)/\(type_of% @W47)/\(type_of% @gR)/\(type_of% @eQ)/\(type_of% @Nat.zero_mul)/\(type_of% @C49)/\(type_of% @D50)/\(type_of% @M47)/\(type_of% @R32)/\(type_of% @Z41)/\(type_of% @U51)/\(type_of% @C50)/\(type_of% @G47)/\(type_of% @U20)/\(type_of% @C36)/\(type_of% @V31)/\(type_of% @B44)/\(type_of% @V38)/\(type_of% @V15)/\(type_of% @R40)/\(type_of% @R39)/\(type_of% @V17)/\(type_of% @D39)/\(type_of% @D17)/\(type_of% @M35)/\(type_of% @E28)/\(type_of% @J28)/\(type_of% @cV.{0})/\(type_of% @List.length_nil.{0})/\(type_of% @aD)/\(type_of% @Int.toNat_zero)/\(type_of% @Int.toNat_one):=
 ⟨@W1,@fZ.{0},@gD.{0},@E45,@Q43,@G48,@M42,@V44,@Z47,@C46,@M29,@Z27,@Y35,@X29,@Z50,@G51,@M50,@W38,@K40,@J35,@R28,@Q37,@W59,@Y31,@D45,@N35,@Y30,@W41,@Q45,@W44,@J48,@V65,@G65,@X57,@Y40,@Y50,@Q40,@Z11,@Z1,@Y5,@G1,@G4,@aN.{1,0},@List.getElem?_cons_zero.{0},@dK.{0},@decide_true,@decide_false,@if_true.{1},@if_false.{1},@dQ,@cF,@eM,@and_true,@true_and,@or_false,@Bool.not_true,@Bool.not_false,@and_self,@N32,@N33,@U33,@K32,@W47,@gR,@eQ,@Nat.zero_mul,@C49,@D50,@M47,@R32,@Z41,@U51,@C50,@G47,@U20,@C36,@V31,@B44,@V38,@V15,@R40,@R39,@V17,@D39,@D17,@M35,@E28,@J28,@cV.{0},@List.length_nil.{0},@aD,@Int.toNat_zero,@Int.toNat_one⟩
end Go.Clo
namespace Go.Proofs.YtoiioigihocgbaaGreatDoor
open Go.Clo
theorem mixed:gQ.follows .mixedOrders=true:=by kernel_rfl
theorem D63 : (Tryz.prog.funcs.toList.all fun f => !(f.name == "runtime.NumGoroutine")) = true := by kernel_rfl
theorem J2:J18 gQ:=by
 intro f fn hf;have h1:=iE.1 D63 fn (aH (by simpa using hf))
 cases hx : (fn.name == "runtime.NumGoroutine") with
 | false=>rfl
 | true=>rw[hx] at h1;cases h1
theorem Q12{f:FuncId}{args:List Value}{H:Y0}{nx:Nat}{Q:Value->Y0->Nat->Prop}{F:Prop}(js:List (Nat × List Nat))(ls:List (List Nat))(hs:List HT)(hc:cfn gQ f=some ⟨cN gQ f,iG (cN gQ f)+1,(X5 gQ f js ls hs).erase,cR gQ f⟩:=by kernel_rfl)(E:(X5 gQ f js ls hs).ok (cN gQ f) (iG (cN gQ f)+1)=true:=by kernel_rfl)(hl:dD args.length (cN gQ f)=true:=by kernel_rfl)(he:X55 gQ (cN gQ f) (iG (cN gQ f)+1) (X5 gQ f js ls hs) (cR gQ f) args H nx Q=F:=by kernel_rfl)(h:F):Q2 gQ f args H nx Q:=
 D114 mixed J2 hc E hl he h
noncomputable abbrev U122:ByteArray:=⟨#[0,1,2,2,3,3,3,3,4,4,4,4,4,4,4,4,5,5,5,5,5,5,5,5,5,5,5,5,5,5,5,5,6,6,6,6,6,6,6,6,6,6,6,6,6,6,6,6,6,6,6,6,6,6,6,6,6,6,6,6,6,6,6,6,7,7,7,7,7,7,7,7,7,7,7,7,7,7,7,7,7,7,7,7,7,7,7,7,7,7,7,7,7,7,7,7,7,7,7,7,7,7,7,7,7,7,7,7,7,7,7,7,7,7,7,7,7,7,7,7,7,7,7,7,7,7,7,7,8,8,8,8,8,8,8,8,8,8,8,8,8,8,8,8,8,8,8,8,8,8,8,8,8,8,8,8,8,8,8,8,8,8,8,8,8,8,8,8,8,8,8,8,8,8,8,8,8,8,8,8,8,8,8,8,8,8,8,8,8,8,8,8,8,8,8,8,8,8,8,8,8,8,8,8,8,8,8,8,8,8,8,8,8,8,8,8,8,8,8,8,8,8,8,8,8,8,8,8,8,8,8,8,8,8,8,8,8,8,8,8,8,8,8,8,8,8,8,8,8,8,8,8,8,8,8,8]⟩
section
variable (a0 a1 a2:Value) (H:Y0) (nx:Nat) (k:EP)
def F92:Prop:=
 D10 .neq a0 a0 fun b=>
 Rt b H nx k
def F128:Prop:=
 D10 .neq a0 a0 fun b=>
 Rt b H nx k
def F69:Prop:=
 Y2 gQ 92 [a0] H nx fun b c d=>
 Y2 gQ 92 [a1] c d fun c d e=>
 K2 b (
 K2 c (
 Rt i0 d e k) (
 Rt (.int .i64 (-1)) d e k)) (
 K2 c (
 Rt i1 d e k) (
 D10 .lss a0 a1 fun b=>
 K2 b (
 Rt (.int .i64 (-1)) d e k) (
 D10 .gtr a0 a1 fun b=>
 K2 b (
 Rt i1 d e k) (
 Rt i0 d e k))))
def F112:Prop:=
 Y2 gQ 128 [a0] H nx fun b c d=>
 Y2 gQ 128 [a1] c d fun c d e=>
 K2 b (
 K2 c (
 Rt i0 d e k) (
 Rt (.int .i64 (-1)) d e k)) (
 K2 c (
 Rt i1 d e k) (
 D10 .lss a0 a1 fun b=>
 K2 b (
 Rt (.int .i64 (-1)) d e k) (
 D10 .gtr a0 a1 fun b=>
 K2 b (
 Rt i1 d e k) (
 Rt i0 d e k))))
def F113:Prop:=
 D9 (.eqn false (.slice 56)) [a0,(.slice none 0 0)] fun b=>
 K2 b (
 Rt (.slice none 0 0) H nx k) (
 D24 0 1 [.int .u32 0] [] H nx fun b c d=>
 B5 b a0 1 4 c d fun b c d=>
 Rt b c d k)
def F111:Prop:=
 R4 a0 0 H fun b=>
 G3 (fun b c d e=>
 V4 (fun b=>
 D10 .gtr c.a i0 fun f=>
 K3 true f (
 D10 .sub c.a i1 fun c=>
 U6 a0 c d fun _ c=>
 D10 .eql c u0 fun c=>
 b [c] d e) (
 b [bF] d e)) (fun d e f=>
 K2 d.a (
 D10 .sub c.a i1 fun c=>
 b [c] e f) (
 wSl a0 1 none (some c.a) (some c.a) e fun b=>
 Rt b e f k))) [b] H nx
def F101:Prop:=
 W8 .u32 a0 fun b=>
 D10 .shr a0 (.int .u64 32) fun c=>
 W8 .u32 c fun c=>
 D24 2 1 [.int .u32 0] [(0,b),(1,c)] H nx fun b c d=>
 Y2 gQ 111 [b] c d fun b c d=>
 Rt b c d k
def F100:Prop:=
 Y2 gQ 111 [a0] H nx fun b c d=>
 Y2 gQ 113 [b] c d fun b c d=>
 Rt b c d k
def F97:Prop:=
 Y2 gQ 111 [a0] H nx fun b c d=>
 Y2 gQ 111 [a1] c d fun c d e=>
 R4 b 0 d fun f=>
 R4 c 0 d fun g=>
 D10 .neq f g fun f=>
 K2 f (
 R4 b 0 d fun b=>
 R4 c 0 d fun c=>
 Y2 gQ 69 [b,c] d e fun b c d=>
 Rt b c d k) (
 R4 b 0 d fun f=>
 D10 .sub f i1 fun f=>
 G3 (fun d e f g=>
 D10 .geq e.a i0 fun h=>
 K2 h (
 M2 (g+9) fun g=>
 U6 b e.a f fun h i=>
 U6 c e.a f fun j l=>
 D10 .neq i l fun m=>
 wK ((tB (cE j none f l))/\(tB (tB (cE h none f i)))) (
 K2 m (
 M2 (g+10) fun d=>
 U6 b e.a f fun b g=>
 U6 c e.a f fun c e=>
 Y2 gQ 112 [g,e] f d fun d h i=>
 wK ((tA (tB (cE c none f e)))/\(tB (tA (tB (cE b none f g))))) (
 Rt d h i k)) (
 D10 .sub e.a i1 fun b=>
 d [b] f g))) (
 Rt i0 f g k)) [f] d e)
def F145:Prop:=
 Y2 gQ 111 [a0] H nx fun b c d=>
 Y2 gQ 111 [a1] c d fun c d e=>
 V4 (fun f=>
 R4 b 0 d fun g=>
 R4 c 0 d fun h=>
 D10 .lss g h fun g=>
 K2 g (
 f [c,b] d e) (
 f [b,c] d e)) (fun b c d=>
 R4 b.a 0 c fun e=>
 D10 .add e i1 fun e=>
 G29 e e [.int .u32 0] c d fun c d e=>
 R4 b.a 0 d fun f=>
 G3 (fun d e g h=>
 D10 .lss e.b f fun f=>
 K2 f (
 U6 b.a e.b g fun _ f=>
 W8 .u64 f fun f=>
 D10 .add e.a f fun f=>
 V4 (fun c=>
 R4 b.b 0 g fun d=>
 D10 .lss e.b d fun d=>
 K2 d (
 U6 b.b e.b g fun _ b=>
 W8 .u64 b fun b=>
 D10 .add f b fun b=>
 c [b] g h) (
 c [f] g h)) (fun b f g=>
 W8 .u32 b.a fun h=>
 M3 c e.b none 1 fun c=>
 D5 c h 1 f fun c=>
 D10 .shr b.a (.int .u64 32) fun b=>
 D10 .add e.b i1 fun e=>
 d [b,e] c g)) (
 R4 b.a 0 g fun b=>
 W8 .u32 e.a fun d=>
 M3 c b none 1 fun b=>
 D5 b d 1 g fun b=>
 Y2 gQ 111 [c] b h fun b c d=>
 Rt b c d k)) [(.int .u64 0),i0] d e)
def F146:Prop:=
 Y2 gQ 111 [a0] H nx fun b c d=>
 Y2 gQ 111 [a1] c d fun c d e=>
 Y2 gQ 97 [b,c] d e fun d e f=>
 D10 .lss d i0 fun d=>
 K2 d (
 Rt (.tuple ⟨[(.slice none 0 0),(.int .i64 19)]⟩) e f k) (
 R4 b 0 e fun d=>
 G29 d d [.int .u32 0] e f fun d e f=>
 R4 b 0 e fun g=>
 G3 (fun e f h i=>
 D10 .lss f.b g fun g=>
 K2 g (
 U6 b f.b h fun _ b=>
 W8 .u64 b fun b=>
 D10 .sub b f.a fun b=>
 V4 (fun d=>
 R4 c 0 h fun e=>
 D10 .lss f.b e fun e=>
 K2 e (
 U6 c f.b h fun _ c=>
 W8 .u64 c fun c=>
 D10 .sub b c fun b=>
 d [b] h i) (
 d [b] h i)) (fun b c g=>
 W8 .u32 b.a fun h=>
 M3 d f.b none 1 fun d=>
 D5 d h 1 c fun c=>
 D10 .shr b.a (.int .u64 63) fun b=>
 D10 .add f.b i1 fun d=>
 e [b,d] c g)) (
 Y2 gQ 111 [d] h i fun b c d=>
 Rt (.tuple ⟨[b,i0]⟩) c d k)) [(.int .u64 0),i0] e f)
def F98:Prop:=
 Y2 gQ 111 [a0] H nx fun b c d=>
 Y2 gQ 111 [a1] c d fun c d e=>
 R4 b 0 d fun f=>
 R4 c 0 d fun g=>
 D10 .add f g fun f=>
 G29 f f [.int .u32 0] d e fun d e f=>
 R4 b 0 e fun g=>
 G3 (fun e f h i=>
 D10 .lss f.a g fun g=>
 K2 g (
 R4 c 0 h fun g=>
 G3 (fun h i j l=>
 D10 .lss i.b g fun g=>
 K2 g (
 M2 (l+22) fun e=>
 U6 b f.a j fun b g=>
 W8 .u64 g fun l=>
 U6 c i.b j fun c m=>
 W8 .u64 m fun n=>
 D10 .mul l n fun o=>
 D10 .add f.a i.b fun p=>
 U6 d p j fun p q=>
 W8 .u64 q fun r=>
 D10 .add o r fun o=>
 D10 .add i.a o fun o=>
 wK ((tB (W8 .u64 q fun b=>b=r))/\((tB (cE p none j q))/\((tB (W8 .u64 m fun b=>b=n))/\((tB (cE c none j m))/\((tB (W8 .u64 g fun b=>b=l))/\(tB (tB (cE b none j g)))))))) (
 D10 .add f.a i.b fun b=>
 W8 .u32 o fun c=>
 M3 d b none 1 fun b=>
 D5 b c 1 j fun b=>
 D10 .shr o (.int .u64 32) fun c=>
 D10 .add i.b i1 fun d=>
 h [c,d] b e)) (
 R4 c 0 j fun b=>
 D10 .add f.a b fun b=>
 W8 .u32 i.a fun c=>
 M3 d b none 1 fun b=>
 D5 b c 1 j fun b=>
 D10 .add f.a i1 fun c=>
 e [c] b l)) [(.int .u64 0),i0] h i) (
 Y2 gQ 111 [d] h i fun b c d=>
 Rt b c d k)) [i0] e f
def F117:Prop:=
 R4 a0 0 H fun b=>
 D10 .sub b i1 fun b=>
 G3 (fun b c d e=>
 D10 .geq c.b i0 fun f=>
 K2 f (
 D10 .shl c.a (.int .u64 32) fun f=>
 U6 a0 c.b d fun _ g=>
 W8 .u64 g fun g=>
 D10 .or f g fun f=>
 W8 .u64 a1 fun g=>
 D10 .quo f g fun g=>
 W8 .u32 g fun g=>
 M3 a0 c.b none 1 fun h=>
 D5 h g 1 d fun d=>
 W8 .u64 a1 fun g=>
 D10 .rem f g fun f=>
 D10 .sub c.b i1 fun c=>
 b [f,c] d e) (
 W8 .u32 c.a fun b=>
 Rt b d e k)) [(.int .u64 0),b] H nx
def F130:Prop:=
 R4 a0 0 H fun b=>
 D10 .add b i1 fun b=>
 G29 b b [.int .u32 0] H nx fun b c d=>
 R4 a0 0 c fun e=>
 G3 (fun c d f g=>
 D10 .lss d.b e fun e=>
 K2 e (
 U6 a0 d.b f fun _ e=>
 W8 .u64 e fun e=>
 D10 .shl e a1 fun e=>
 D10 .or d.a e fun e=>
 W8 .u32 e fun h=>
 M3 b d.b none 1 fun b=>
 D5 b h 1 f fun b=>
 D10 .shr e (.int .u64 32) fun e=>
 D10 .add d.b i1 fun d=>
 c [e,d] b g) (
 R4 a0 0 f fun c=>
 W8 .u32 d.a fun d=>
 M3 b c none 1 fun c=>
 D5 c d 1 f fun c=>
 Rt b c g k)) [(.int .u64 0),i0] c d
def F134:Prop:=
 R4 a0 0 H fun b=>
 G29 b b [.int .u32 0] H nx fun b c d=>
 R4 a0 0 c fun e=>
 D10 .sub e i1 fun e=>
 G3 (fun c d e f=>
 D10 .geq d.b i0 fun g=>
 K2 g (
 D10 .shl d.a (.int .u64 32) fun g=>
 U6 a0 d.b e fun _ h=>
 W8 .u64 h fun h=>
 D10 .or g h fun g=>
 D10 .shr g a1 fun h=>
 W8 .u32 h fun h=>
 M3 b d.b none 1 fun b=>
 D5 b h 1 e fun b=>
 D10 .sub d.b i1 fun d=>
 c [g,d] b f) (
 Rt b e f k)) [(.int .u64 0),e] c d
def F131:Prop:=
 R4 a1 0 H fun b=>
 M2 (nx+14) fun c=>
 U6 a0 b H fun d e=>
 W8 .u64 e fun f=>
 D10 .shl f (.int .u64 32) fun g=>
 D10 .sub b i1 fun h=>
 U6 a0 h H fun h i=>
 W8 .u64 i fun j=>
 D10 .or g j fun g=>
 wK ((tB (W8 .u64 i fun b=>b=j))/\((tB (cE h none H i))/\((tB (W8 .u64 e fun b=>b=f))/\(tB (tB (cE d none H e)))))) (
 D10 .sub b i1 fun d=>
 U6 a1 d H fun _ d=>
 W8 .u64 d fun d=>
 D10 .quo g d fun d=>
 D10 .sub b i1 fun e=>
 U6 a1 e H fun _ e=>
 W8 .u64 e fun e=>
 D10 .rem g e fun e=>
 G3 (fun c d e f=>
 V4 (fun c=>
 M2 (f+22) fun f=>
 D10 .gtr d.a (.int .u64 4294967295) fun g=>
 K3 false g (
 D10 .sub b (.int .i64 2) fun g=>
 U6 a1 g e fun g h=>
 W8 .u64 h fun i=>
 D10 .mul d.a i fun j=>
 D10 .shl d.b (.int .u64 32) fun d=>
 D10 .sub b (.int .i64 2) fun b=>
 U6 a0 b e fun b l=>
 W8 .u64 l fun m=>
 D10 .or d m fun d=>
 D10 .gtr j d fun d=>
 wK ((tB (W8 .u64 l fun b=>b=m))/\((tB (cE b none e l))/\((tB (W8 .u64 h fun b=>b=i))/\(tB (tB (cE g none e h)))))) (
 c [d] e f)) (
 wK True (
 c [bT] e f))) (fun e f g=>
 K2 e.a (
 D10 .sub d.a (.int .u64 1) fun e=>
 D10 .sub b i1 fun b=>
 U6 a1 b f fun _ b=>
 W8 .u64 b fun b=>
 D10 .add d.b b fun b=>
 D10 .gtr b (.int .u64 4294967295) fun d=>
 K2 d (
 Rt e f g k) (
 c [e,b] f g)) (
 Rt d.a f g k))) [d,e] H c)
def F132:Prop:=
 R4 a1 0 H fun b=>
 G3 (fun c d e f=>
 D10 .lss d.c b fun b=>
 K2 b (
 U6 a1 d.c e fun _ b=>
 W8 .u64 b fun b=>
 D10 .mul a2 b fun b=>
 D10 .add d.a b fun b=>
 U6 a0 d.c e fun _ g=>
 W8 .u64 g fun g=>
 D10 .and b (.int .u64 4294967295) fun h=>
 D10 .sub g h fun g=>
 D10 .sub g d.b fun g=>
 W8 .u32 g fun h=>
 M3 a0 d.c none 1 fun i=>
 D5 i h 1 e fun e=>
 D10 .shr g (.int .u64 63) fun g=>
 D10 .shr b (.int .u64 32) fun b=>
 D10 .add d.c i1 fun d=>
 c [b,g,d] e f) (
 R4 a1 0 e fun b=>
 U6 a0 b e fun _ b=>
 W8 .u64 b fun b=>
 D10 .sub b d.a fun b=>
 D10 .sub b d.b fun b=>
 R4 a1 0 e fun c=>
 W8 .u32 b fun d=>
 M3 a0 c none 1 fun c=>
 D5 c d 1 e fun c=>
 D10 .shr b (.int .u64 63) fun b=>
 D10 .neq b (.int .u64 0) fun b=>
 Rt b c f k)) [(.int .u64 0),(.int .u64 0),i0] H nx
def F133:Prop:=
 R4 a1 0 H fun b=>
 G3 (fun c d e f=>
 D10 .lss d.b b fun b=>
 K2 b (
 M2 (f+14) fun b=>
 U6 a0 d.b e fun f g=>
 W8 .u64 g fun h=>
 U6 a1 d.b e fun i j=>
 W8 .u64 j fun l=>
 D10 .add h l fun m=>
 D10 .add d.a m fun m=>
 wK ((tB (W8 .u64 j fun b=>b=l))/\((tB (cE i none e j))/\((tB (W8 .u64 g fun b=>b=h))/\(tB (tB (cE f none e g)))))) (
 W8 .u32 m fun f=>
 M3 a0 d.b none 1 fun g=>
 D5 g f 1 e fun e=>
 D10 .shr m (.int .u64 32) fun f=>
 D10 .add d.b i1 fun d=>
 c [f,d] e b)) (
 R4 a1 0 e fun b=>
 U6 a0 b e fun _ c=>
 W8 .u32 d.a fun d=>
 D10 .add c d fun c=>
 M3 a0 b none 1 fun b=>
 D5 b c 1 e fun b=>
 Rt (.tuple ⟨[]⟩) b f k)) [(.int .u64 0),i0] H nx
def F114:Prop:=
 V4 (fun b=>
 D10 .geq a0 (.int .u32 65536) fun c=>
 K2 c (
 D10 .shr a0 (.int .u64 16) fun c=>
 b [c,(.int .i64 16)] H nx) (
 b [a0,i0] H nx)) (fun b c d=>
 V4 (fun e=>
 D10 .geq b.a (.int .u32 256) fun f=>
 K2 f (
 D10 .shr b.a (.int .u64 8) fun f=>
 D10 .add b.b (.int .i64 8) fun b=>
 e [f,b] c d) (
 e [b.a,b.b] c d)) (fun b c d=>
 W8 .u8 b.a fun e=>
 D9 .sidx [(.string U122),e] fun e=>
 W8 .i64 e fun e=>
 D10 .add b.b e fun b=>
 Rt b c d k))
def F129:Prop:=
 Y2 gQ 114 [a0] H nx fun b c d=>
 D10 .sub (.int .i64 32) b fun b=>
 Rt b c d k
def F118:Prop:=
 R4 a1 0 H fun b=>
 D10 .sub b i1 fun c=>
 U6 a1 c H fun _ c=>
 Y2 gQ 129 [c] H nx fun c d e=>
 W8 .u64 c fun c=>
 Y2 gQ 130 [a1,c] d e fun d e f=>
 wSl d 1 none (some b) none e fun d=>
 Y2 gQ 130 [a0,c] e f fun e f g=>
 R4 a0 0 f fun h=>
 D10 .sub h b fun h=>
 D10 .add h i1 fun h=>
 G29 h h [.int .u32 0] f g fun f g h=>
 R4 a0 0 g fun i=>
 D10 .sub i b fun i=>
 G3 (fun g h i j=>
 D10 .geq h.a i0 fun l=>
 K2 l (
 D10 .add h.a b fun b=>
 D10 .add b i1 fun b=>
 wSl e 1 (some h.a) (some b) none i fun b=>
 Y2 gQ 131 [b,d] i j fun c e i=>
 V4 (fun f=>
 Y2 gQ 132 [b,d,c] e i fun e g h=>
 K2 e (
 D10 .sub c (.int .u64 1) fun c=>
 Y2 gQ 133 [b,d] g h fun _ b d=>
 f [c] b d) (
 f [c] g h)) (fun b c d=>
 W8 .u32 b.a fun b=>
 M3 f h.a none 1 fun e=>
 D5 e b 1 c fun b=>
 D10 .sub h.a i1 fun c=>
 g [c] b d)) (
 wSl e 1 none (some b) none i fun b=>
 Y2 gQ 134 [b,c] i j fun b c d=>
 Rt (.tuple ⟨[f,b]⟩) c d k)) [i] g h
def F104:Prop:=
 Y2 gQ 111 [a0] H nx fun b c d=>
 Y2 gQ 111 [a1] c d fun c d e=>
 R4 c 0 d fun f=>
 D10 .eql f i0 fun f=>
 K2 f (
 Rt (.tuple ⟨[(.slice none 0 0),(.slice none 0 0),(.int .i64 18)]⟩) d e k) (
 Y2 gQ 97 [b,c] d e fun d e f=>
 D10 .lss d i0 fun d=>
 K2 d (
 Y2 gQ 113 [b] e f fun b c d=>
 Rt (.tuple ⟨[(.slice none 0 0),b,i0]⟩) c d k) (
 R4 c 0 e fun d=>
 D10 .eql d i1 fun d=>
 K2 d (
 Y2 gQ 113 [b] e f fun b d e=>
 U6 c i0 d fun _ c=>
 Y2 gQ 117 [b,c] d e fun c d e=>
 Y2 gQ 111 [b] d e fun b d e=>
 W8 .u64 c fun c=>
 Y2 gQ 101 [c] d e fun c d e=>
 Rt (.tuple ⟨[b,c,i0]⟩) d e k) (
 Y2 gQ 118 [b,c] e f fun b c d=>
 G9 b 0 fun e=>
 G9 b 1 fun b=>
 Y2 gQ 111 [e] c d fun c d e=>
 Y2 gQ 111 [b] d e fun b d e=>
 Rt (.tuple ⟨[c,b,i0]⟩) d e k)))
def F102:Prop:=
 Y2 gQ 111 [a0] H nx fun b c d=>
 R4 b 0 c fun e=>
 D10 .eql e i0 fun e=>
 K2 e (
 Rt i0 c d k) (
 R4 b 0 c fun e=>
 D10 .sub e i1 fun e=>
 D10 .mul (.int .i64 32) e fun e=>
 R4 b 0 c fun f=>
 D10 .sub f i1 fun f=>
 U6 b f c fun _ b=>
 Y2 gQ 114 [b] c d fun b c d=>
 D10 .add e b fun b=>
 Rt b c d k)
def F116:Prop:=
 Y2 gQ 111 [a0] H nx fun b c d=>
 R4 b 0 c fun e=>
 D10 .gtr e (.int .i64 2) fun e=>
 K2 e (
 Rt (.tuple ⟨[(.int .u64 0),bF]⟩) c d k) (
 R4 b 0 c fun e=>
 G3 (fun c d f g=>
 D10 .lss d.b e fun e=>
 K2 e (
 U6 b d.b f fun _ b=>
 W8 .u64 b fun b=>
 D10 .mul (.int .i64 32) d.b fun e=>
 D10 .shl b e fun b=>
 D10 .or d.a b fun b=>
 D10 .add d.b i1 fun d=>
 c [b,d] f g) (
 Rt (.tuple ⟨[d.a,bT]⟩) f g k)) [(.int .u64 0),i0] c d)
variable {a0 a1 a2 H nx k}
theorem spec92:F92 a0 H nx k->Q2 gQ 92 [a0] H nx k:=Q12 [] [] []
theorem spec128:F128 a0 H nx k->Q2 gQ 128 [a0] H nx k:=Q12 [] [] []
theorem spec69:F69 a0 a1 H nx k->Q2 gQ 69 [a0,a1] H nx k:=Q12 [] [] []
theorem spec112:F112 a0 a1 H nx k->Q2 gQ 112 [a0,a1] H nx k:=Q12 [] [] []
theorem spec113:F113 a0 H nx k->Q2 gQ 113 [a0] H nx k:=Q12 [] [] []
theorem spec111:F111 a0 H nx k->Q2 gQ 111 [a0] H nx k:=Q12 [(4,[15])] [[3]] [.one (.tst (.one .nil) (.one .nil))]
theorem spec101:F101 a0 H nx k->Q2 gQ 101 [a0] H nx k:=Q12 [] [] []
theorem spec100:F100 a0 H nx k->Q2 gQ 100 [a0] H nx k:=Q12 [] [] []
theorem spec97:F97 a0 a1 H nx k->Q2 gQ 97 [a0,a1] H nx k:=Q12 [] [[5]] []
theorem spec145:F145 a0 a1 H nx k->Q2 gQ 145 [a0,a1] H nx k:=Q12 [(2,[0,1]),(13,[6])] [[6,25]] []
theorem spec146:F146 a0 a1 H nx k->Q2 gQ 146 [a0,a1] H nx k:=Q12 [(14,[9])] [[7,23]] []
theorem spec98:F98 a0 a1 H nx k->Q2 gQ 98 [a0,a1] H nx k:=Q12 [] [[21],[7,26]] []
theorem spec117:F117 a0 a1 H nx k->Q2 gQ 117 [a0,a1] H nx k:=Q12 [] [[5,6]] []
theorem spec130:F130 a0 a1 H nx k->Q2 gQ 130 [a0,a1] H nx k:=Q12 [] [[6,14]] []
theorem spec134:F134 a0 a1 H nx k->Q2 gQ 134 [a0,a1] H nx k:=Q12 [] [[6,7]] []
theorem spec131:F131 a0 a1 H nx k->Q2 gQ 131 [a0,a1] H nx k:=Q12 [(7,[61])] [[7,8]] [.one (.tst (.one .nil) (.one .nil))]
theorem spec132:F132 a0 a1 a2 H nx k->Q2 gQ 132 [a0,a1,a2] H nx k:=Q12 [] [[7,8,14]] []
theorem spec133:F133 a0 a1 H nx k->Q2 gQ 133 [a0,a1] H nx k:=Q12 [] [[4,8]] []
theorem spec114:F114 a0 H nx k->Q2 gQ 114 [a0] H nx k:=Q12 [(1,[0,2]),(4,[0,2])] [] []
theorem spec129:F129 a0 H nx k->Q2 gQ 129 [a0] H nx k:=Q12 [] [] []
theorem spec118:F118 a0 a1 H nx k->Q2 gQ 118 [a0,a1] H nx k:=Q12 [(13,[13])] [[11]] []
theorem spec104:F104 a0 a1 H nx k->Q2 gQ 104 [a0,a1] H nx k:=Q12 [] [] []
theorem spec102:F102 a0 H nx k->Q2 gQ 102 [a0] H nx k:=Q12 [] [] []
theorem spec116:F116 a0 H nx k->Q2 gQ 116 [a0] H nx k:=Q12 [] [[4,13]] []
end
end Go.Proofs.YtoiioigihocgbaaGreatDoor
namespace Go.Clo
def SK(H:Y0)(nx:Nat)(A:Option Addr):Prop:=A=none\/∃ b o row,A=some ⟨b,o,none⟩/\b<nx/\(J0 H b=some (.rom row)\/∃ sl,(sl=0\/sl=1)/\J0 H b=some (.cells row sl))
theorem SK.ext{H:Y0}{nx:Nat}{A:Option Addr}{H':Y0}{nx':Nat}(h:SK H nx A)(e:D0 H nx H' nx'):SK H' nx' A:=by
 rcases h with h | ⟨b,o,row,h1,h2,h3⟩
 .exact .inl h
 .exact .inr ⟨b,o,row,h1,aO h2 e.le,by rw[e.get b h2];exact h3⟩
theorem SK.has{H:Y0}{nx:Nat}{A:Option Addr}(h:SK H nx A):Has H nx A:=by
 rcases h with h | ⟨b,o,row,h1,h2,h3 | ⟨sl,_,h3⟩⟩
 .exact .inl h
 .exact .inr ⟨b,o,row,h1,h2,by rw[Q5,h3];rfl⟩
 .exact .inr ⟨b,o,row,h1,h2,by rw[Q5,h3];rfl⟩
theorem SK.new{H:Y0}{nx b o:Nat}{row:List Value}(hb:b<nx)(hg:J0 H b=O7 row):SK H nx (some ⟨b,o,none⟩) := .inr ⟨b,o,row,rfl,hb,.inr ⟨0,.inl rfl,hg⟩⟩
theorem SK.app{H:Y0}{nx b o:Nat}{row:List Value}(hb:b<nx)(hg:J0 H b=some (.cells row 1)):SK H nx (some ⟨b,o,none⟩) := .inr ⟨b,o,row,rfl,hb,.inr ⟨1,.inr rfl,hg⟩⟩
theorem X92{A:Option Addr}{n c h:Nat}(hh:h<=c)(E:Bool):B26 A n c 1 none (some (O8 (h:Int))) (some (O8 (h:Int))) E=some (.slice A h h):=by
 have hb:Y13 (some (O8 (h:Int))) c=some h:=by
  show(match (cD .i64 (Int.ofNat h)) with | .int _ (.ofNat i)=>cond (dD i c) (some i) none | _=>none)=_;simp[V6 hh]
 have J:hiA (some (O8 (h:Int))) (some (O8 (h:Int))) n h=some h:=by
  show Y13 (some (O8 (h:Int))) h=some h;show(match (cD .i64 (Int.ofNat h)) with | .int _ (.ofNat i)=>cond (dD i h) (some i) none | _=>none)=_;simp[V6 (aD h)]
 simp only[B26,hb,J]
 cases A with
 | none=>simp[loA]
 | some a=>
  obtain⟨b,o,s⟩:=a;simp[loA,V6 (Nat.zero_le h)]
theorem Z103{H:Y0}{nx:Nat}{A:Option Addr}{n c h:Nat}(hk:SK H nx A)(hh:h<=c)(k:VP):wSl (.slice A n c) 1 none (some (O8 (h:Int))) (some (O8 (h:Int))) H k=k (.slice A h h):=by
 unfold wSl;rcases hk with rfl | ⟨b,o,row,rfl,_,hg⟩
 .dsimp only
  rw[X92 hh];exact E7 _ _
 .dsimp only
  rw[Y4];have hl:∃ blk l,J0 H b=some blk/\N8 blk o c 1=some l:=by
   rcases hg with hg | ⟨sl,hsl | hsl,hg⟩
   .exact⟨_,false,hg,rfl⟩
   .subst hsl;exact⟨_,false,hg,rfl⟩
   .subst hsl
    exact⟨_,bR (o+c*1) row.length,hg,rfl⟩
  obtain⟨blk,l,hg,hl⟩:=hl;rw[hg];simp only[aN,slB];rw[hl];simp only[X92 hh];exact E7 _ _
structure Dg (H:Y0) (nx:Nat) (A:Option Addr) (c:Nat) (ds:List Nat):Prop where
 sl:Sl H nx A (K12 ds)
 sk:SK H nx A
 small:U14 ds
 le:ds.length<=c
theorem Dg.ext{H:Y0}{nx:Nat}{A:Option Addr}{c:Nat}{ds:List Nat}{H':Y0}{nx':Nat}(h:Dg H nx A c ds)(e:D0 H nx H' nx'):Dg H' nx' A c ds:=⟨h.sl.ext e,h.sk.ext e,h.small,h.le⟩
theorem Sl.pre{H:Y0}{nx:Nat}{A:Option Addr}{l:List Value}(h:Sl H nx A l)(n:Nat):Sl H nx A (l.take n):=fun i v hv=>h i v (by
 rw[aX] at hv
 split at hv
 .exact hv
 .cases hv)
theorem Q91(ds:List Nat)(n:Nat):K12 (ds.take n)=(K12 ds).take n:=by simp[K12,List.map_take]
theorem Dg.trim {H : Y0} {nx : Nat} {A : Option Addr} {c : Nat} {ds : List Nat} (h : Dg H nx A c ds) : Dg H nx A (D11 (val ds)).length (D11 (val ds)) :=
  ⟨by have := h.sl.pre (D11 (val ds)).length
      rwa [<- Q91, Z86 h.small] at this, h.sk, B25 _, Nat.le_refl _⟩
def NN(H:Y0)(nx:Nat)(v:Value)(n:Nat):Prop:=∃ A c,v = .slice A (D11 n).length c/\Dg H nx A c (D11 n)
theorem NN.ext{H:Y0}{nx:Nat}{v:Value}{n:Nat}{H':Y0}{nx':Nat}(h:NN H nx v n)(e:D0 H nx H' nx'):NN H' nx' v n:=let ⟨A,c,h1,h2⟩:=h;⟨A,c,h1,h2.ext e⟩
theorem Y90(H:Y0)(nx:Nat):NN H nx O6 0:=⟨none,0,by rw[D20];rfl,by rw[D20];exact⟨Sl.nil _ _ _,.inl rfl,X84,aD _⟩⟩
end Go.Clo
namespace Go.Proofs.YtoiioigihocgbaaGreatDoor
open Go.Clo
theorem R86{A:Option Addr}{c:Nat}{ds:List Nat}{H:Y0}{nx:Nat}(h:Dg H nx A c ds)(hl:ds.length<1152921504606846976):
  Q2 gQ 111 [.slice A ds.length c] H nx fun v H' nx' => .slice A (D11 (val ds)).length (D11 (val ds)).length=v/\H=H'/\nx=nx':=by
 refine spec111 ?_;unfold F111;have a0:=N92 h.small;simp only[W0];refine B1 (m:=ds.length) (fun m L H' nx'=>∃ i:Nat,m=i/\L=[O8 (i:Int)]/\i<=ds.length/\(D11 (val ds)).length<=i/\H=H'/\nx=nx') ?_ ⟨ds.length,rfl,rfl,aD _,a0,rfl,rfl⟩;rintro m ih L _ _ ⟨i,hm,rfl,hi,hd,rfl,rfl⟩ a1;simp only[N13]
 by_cases h0:0<i
 .have J:(0:Int)<(i:Int):=O0
  obtain⟨d,E⟩:∃ d,ds[i-1]? = some d:=⟨_,aE O0⟩
  obtain⟨b,o,row,rfl,hb,Z,hg⟩:=h.sl.open (i:=i-1) (by rw[E1];omega);have g0:=hg _ _ (Q3 E);have e1:((i:Int)-1).toNat=i-1:=O0;simp(disch:=omega)only[W0,J,e1,X3 Z,g0]
  by_cases hz:d=0
  .subst hz
   simp only[W0];refine a1 (i-1) _ _ _ O0 ⟨i-1,rfl,by congr 2;omega,O0,?_,rfl,rfl⟩;rcases aW (i-1) (D11 (val ds)).length with g | g
   .exfalso
    have W:0<val ds:=by
     rcases cI (val ds) with e | e
     .rw[e,D20] at g;simp at g
     .exact e
    obtain⟨d,U,hp,_⟩:=U76 W;have e3:(D11 (val ds)).length-1=i-1:=O0;rw[e3] at U;have Q:(ds.take (D11 (val ds)).length)[i-1]? = some d:=by rw[Z86 h.small];exact U
    rw[aX,if_pos g,E] at Q;have:=fA Q;omega
   .exact g
  .have a2:¬ (d:Int)=0:=O0
   have O:i=(D11 (val ds)).length:=by
    rcases aW (i-1) (D11 (val ds)).length with g | g
    .omega
    .exact absurd (V96 h.small g E) hz
   simp only[W0,hz,O,Z103 h.sk (show(D11 (val ds)).length<=c by have:=h.le;omega)]
 .have J:¬ (0:Int)<(i:Int):=O0
  have O:i=(D11 (val ds)).length:=O0;have V:¬ (0:Int)<((D11 (val ds)).length:Int):=O0;simp only[W0,V,O,Z103 h.sk (show(D11 (val ds)).length<=c by have:=h.le;omega)]
end Go.Proofs.YtoiioigihocgbaaGreatDoor
namespace Go.Clo
theorem Q75{a:Nat}(h:a<18446744073709551616):IntKind.u64.wrap (a:Int)=(a:Int):=by
 simp only[eY,eK,dW];simp;omega
theorem K108(a:Nat):IntKind.u64.wrap (a:Int)=((a%18446744073709551616:Nat):Int):=by
 simp only[eY,eK,dW];simp
theorem N96(a:Nat):eW.wrap (a:Int)=((a%4294967296:Nat):Int):=by
 simp only[eY,eK,dW];simp
section
variable {a b:Nat} (k:VP)
theorem B74(h:a+b<18446744073709551616):D10 .add (.int .u64 (a:Int)) (.int .u64 (b:Int)) k=k (.int .u64 ((a+b:Nat):Int)):=by
 rw[Z63,<- Int.natCast_add,Q75 h]
theorem U85(h:a*b<18446744073709551616):D10 .mul (.int .u64 (a:Int)) (.int .u64 (b:Int)) k=k (.int .u64 ((a*b:Nat):Int)):=by
 rw[B82,<- Int.natCast_mul,Q75 h]
theorem Z76(ha:a<18446744073709551616)(hb:b<18446744073709551616):D10 .sub (.int .u64 (a:Int)) (.int .u64 (b:Int)) k=k (.int .u64 (((a+18446744073709551616-b)%18446744073709551616:Nat):Int)):=by
 rw[R11];congr 2;simp only[eY,eK,dW];simp;omega
theorem G34(n:Nat)(K:IntKind):W8 .u32 (.int K (n:Int)) k=k (O9 ((n%4294967296:Nat):Int)):=by rw[Z32,N96]
theorem U22{n:Nat}(h:n<18446744073709551616)(K:IntKind):W8 .u64 (.int K (n:Int)) k=k (.int .u64 (n:Int)):=by rw[Z32,Q75 h]
theorem R90{n:Nat}{K:IntKind}(ha:a<18446744073709551616):D10 .shr (.int .u64 (a:Int)) (.int K (n:Int)) k=k (.int .u64 ((a/2^n:Nat):Int)):=by
 rw[X6];have hn:¬ (n:Int)<0:=O0;simp only[R9,N4,C18,cond_true,hn,if_false,aN,dW];congr 2;have e:((2:Int)^min ((n:Int)).toNat 64)=((2^min n 64:Nat):Int):=O2;rw[e,Int.fdiv_eq_ediv_of_nonneg _ (Int.natCast_nonneg _),<- Int.natCast_ediv];congr 1
 by_cases h:n<=64
 .rw[Nat.min_eq_left h]
 .rw[Nat.min_eq_right O0,Nat.div_eq_of_lt (by simpa using ha),Nat.div_eq_of_lt (aO ha (by
   have:=aK (n:=2) O0 (show 64<=n by omega);simpa using this))]
theorem D74(ha:a<18446744073709551616):D10 .shr (.int .u64 (a:Int)) (.int .u64 32) k=k (.int .u64 ((a/4294967296:Nat):Int)):=R90 (n:=32) k ha
theorem X85(ha:a<18446744073709551616):D10 .shr (.int .u64 (a:Int)) (.int .u64 63) k=k (.int .u64 ((a/9223372036854775808:Nat):Int)):=R90 (n:=63) k ha
end
theorem M27{n:Nat}(h:n<=1000000)(z:List Value)(k:List Value->Nat->Nat->Prop):D30 (O8 (n:Int)) (O8 (n:Int)) z k=k (Q19 z n) n n:=by
 show cond (dD n n&&dD n 1000000) (spine (Q19 z n) fun cs=>k cs n n) False=_;rw[V6 (aD n),V6 h];exact V14 _ _
theorem C23(n:Nat):Q19 [cD .u32 0] n=K12 (aF n 0):=by
 induction n with
 | zero=>rfl
 | succ n ih=>rw[Q19,ih,List.replicate_succ];rfl
theorem D78:∀ l:List Nat,Z0 (K12 l)=true
 | []=>rfl
 | x :: l=>D78 l
theorem R89{H:Y0}{nx b size bytes m:Nat}{x:Value}{l:List Value}(hg:J0 H b=O7 [])(hx:Src H size x m l)(hm:0<m)(ho:Z0 l=true)(J:(2*m+1000)*bytes<=281474976710656)(Q:m<=1000000000)(k:EP):
  B5 (.slice (some ⟨b,0,none⟩) 0 0) x size bytes H nx k=k (.slice (some ⟨nx,0,none⟩) m m) (hs H nx (some (.cells l size))) (nx+1):=by
 unfold B5 Z22;rw[hx.len];dsimp only;rw[cF,G1,V6 J,V6 Q];simp only[Bool.and_self,cond_true];rw[hx.first,ho,E27 hm];simp only[cond_true,cond_false];have E:∀ k:List Value->Prop,Z5 H size 0 (.slice (some ⟨b,0,none⟩) 0 0) False k=k []:=by
  intro k;unfold Z5 B19;dsimp only;rw[Y4,hg];simp only[aN,Nat.zero_mul,G5];exact V14 _ _
 rw[E,V14,eR,hx.size,D13];simp only[cond_true,D22];rw[Y4,hg];have O:N8 (.cells [] 0) 0 0 size=some false:=rfl;simp only[aN,O,K11];rw[G1,G1,G4]
theorem U96{H:Y0}{nx b size bytes:Nat}{x:Value}(hg:J0 H b=O7 [])(hx:Src H size x 0 [])(E:(2*0+1000)*bytes<=281474976710656)(k:EP):
  B5 (.slice (some ⟨b,0,none⟩) 0 0) x size bytes H nx k=k (.slice (some ⟨b,0,none⟩) 0 0) (hs H b (O7 [])) nx:=by
 unfold B5 Z22;rw[hx.len];dsimp only;rw[cF,G1,V6 E,V6 (show 0<=1000000000 by omega)];simp only[Bool.and_self,cond_true];rw[hx.first];simp only[Z0,cond_true,V6 (aD 0),C42];rw[G1,J30,hg];simp[stP,B12]
theorem N83(e:TypeId)(a:Addr)(n c:Nat)(k:VP):D9 (.eqn false (.slice e)) [.slice (some a) n c,O6] k=k (.bool false):=by
 have h:VF.ev (.eqn false (.slice e)) [.slice (some a) n c,O6]=some (.bool false):=rfl;unfold D9;rw[h,J8];rfl
theorem W94(e:TypeId)(n c:Nat)(k:VP):D9 (.eqn false (.slice e)) [.slice none n c,O6] k=k (.bool true):=by
 have h:VF.ev (.eqn false (.slice e)) [.slice none n c,O6]=some (.bool true):=rfl;unfold D9;rw[h,J8];rfl
theorem Dg.self{A:Option Addr}{c n:Nat}{H:Y0}{nx:Nat}(h:Dg H nx A c (D11 n)):Dg H nx A (D11 n).length (D11 n):=⟨h.sl,h.sk,h.small,aD _⟩
theorem Z88(k:List Value->Prop)(z:List Value):K6 0 1 z [] k=k []:=rfl
end Go.Clo
namespace Go.Proofs.YtoiioigihocgbaaGreatDoor
open Go.Clo
theorem Y69{A:Option Addr}{c n:Nat}{H:Y0}{nx:Nat}(h:Dg H nx A c (D11 n))(hl:(D11 n).length<1000000):
  Q2 gQ 111 [.slice A (D11 n).length c] H nx fun v H' nx' => .slice A (D11 n).length (D11 n).length=v/\H=H'/\nx=nx':=by
 have:=R86 h O0;rwa [V20] at this
theorem D95{b c:Nat}{ds:List Nat}{H:Y0}{nx:Nat}(hb:b<nx)(hg:J0 H b=O7 (K12 ds))(hs:U14 ds)(hl:ds.length<10000000)(hc:ds.length<=c):
  Q2 gQ 111 [.slice (some ⟨b,0,none⟩) ds.length c] H nx fun v H' nx'=>NN H' nx' v (val ds)/\H=H'/\nx=nx':=by
 have hD:Dg H nx (some ⟨b,0,none⟩) c ds:=⟨fun i v h=>⟨b,0,_,rfl,hb,by rw[Q5,hg];rfl,by rw[cF];exact h⟩,SK.new hb hg,hs,hc⟩
 refine(R86 hD O0).mono ?_;rintro _ _ _ ⟨rfl,rfl,rfl⟩;exact⟨⟨_,_,rfl,hD.trim⟩,rfl,rfl⟩
theorem U84{b c L:Nat}{ds:List Nat}{H:Y0}{nx:Nat}(hb:b<nx)(hg:J0 H b=O7 (K12 ds))(hs:U14 ds)(hL:ds.length=L)(hl:L<10000000)(hc:L<=c){n:Nat}(hn:val ds=n):
  Q2 gQ 111 [.slice (some ⟨b,0,none⟩) L c] H nx fun v H' nx'=>NN H' nx' v n/\H=H'/\nx=nx':=by
 subst hL;subst hn;exact D95 hb hg hs hl hc
theorem R81{n:Nat}(hn:n<18446744073709551616)(H:Y0)(nx:Nat):Q2 gQ 101 [.int .u64 (n:Int)] H nx fun v H' nx'=>NN H' nx' v n/\D0 H nx H' nx':=by
 refine spec101 ?_;unfold F101;simp only[W1];rw[G34,D74 _ hn,G34];have e1:n/4294967296%4294967296=n/4294967296:=bV O0;rw[e1];have e2:∀ k,K6 2 1 [cD .u32 0] [(0,O9 ((n%4294967296:Nat):Int)),(1,O9 ((n/4294967296:Nat):Int))] k=k (K12 [n%4294967296,n/4294967296]):=fun k=>rfl
 rw[e2,Q37];have hE:D0 H nx (hs H nx (O7 (K12 [n%4294967296,n/4294967296]))) (nx+1):=(D0.refl H nx).nw _;refine R0 (D95 (c:=2) (ds:=[n%4294967296,n/4294967296]) (Nat.lt_succ_self nx) (Z11 _ _ _) (B77.2 ⟨O0,B77.2 ⟨O0,X84⟩⟩) O2 O2) ?_;rintro v _ _ ⟨hv,rfl,rfl⟩;simp only[Y5];refine⟨?_,hE⟩;have:val [n%4294967296,n/4294967296]=n:=by simp only[val];omega
 rwa [this] at hv
theorem Y95{A:Option Addr}{n:Nat}{H:Y0}{nx:Nat}(h:Dg H nx A (D11 n).length (D11 n))(hl:(D11 n).length<1000000):
  Q2 gQ 113 [.slice A (D11 n).length (D11 n).length] H nx fun v H' nx'=>NN H' nx' v n/\D0 H nx H' nx':=by
 refine spec113 ?_;unfold F113
 cases A with
 | none=>
  have h0:(D11 n).length=0:=by
   rcases cI (D11 n).length with e | e
   .exact e
   .obtain⟨b,o,row,e1,_⟩:=h.sl.open (i:=0) (by rw[E1];exact e)
    cases e1
  have hn:=M65.1 h0;subst hn;rw[W94];simp only[W0,Q0.val];exact⟨Y90 _ _,D0.refl _ _⟩
 | some a=>
  obtain⟨b,o,row,ha,hb,_⟩:∃ b o row,some a=some ⟨b,o,none⟩/\b<nx/\Q5 H b=some row:=by
   rcases h.sk.has with e | e
   .cases e
   .exact e
  cases ha
  rw[N83];simp only[W0,Q0.val,Z88];have hE:D0 H nx (hs H nx (O7 [])) (nx+1):=(D0.refl H nx).nw _;have E:Src (hs H nx (O7 [])) 1 (.slice (some ⟨b,o,none⟩) (D11 n).length (D11 n).length) (D11 n).length (K12 (D11 n)):=C27 (h.sl.ext hE) (h.sk.has.ext hE) (by rw[E1,eQ]) O0
  by_cases h0:(D11 n).length=0
  .have hn:=M65.1 h0
   subst hn;rw[D20] at E;rw[D20];rw[List.length_nil] at *
   rw[U96 (Z11 _ _ _) E O0];refine⟨⟨some ⟨nx,0,none⟩,0,by rw[D20];rfl,by rw[D20];exact⟨Sl.nil _ _ _,SK.new O0 (Z11 _ _ _),X84,aD _⟩⟩,hE.h0⟩
  .rw[R89 (Z11 _ _ _) E O0 (D78 _) O0 O0]
   have J:=hE.new (some (.cells (K12 (D11 n)) 1)) (i:=nx+1) (m:=nx+1+1) O0 O0;exact⟨⟨_,_,rfl,⟨fun i v hv=>⟨nx+1,0,_,rfl,O0,by rw[Q5,Z11];rfl,by rw[cF];exact hv⟩,SK.app O0 (Z11 _ _ _),B25 _,aD _⟩⟩,J⟩
theorem U97{v:Value}{n:Nat}{H:Y0}{nx:Nat}(h:NN H nx v n)(hl:(D11 n).length<1000000):Q2 gQ 100 [v] H nx fun v H' nx'=>NN H' nx' v n/\D0 H nx H' nx':=by
 obtain⟨A,c,rfl,hD⟩:=h;refine spec100 ?_;unfold F100;refine R0 (Y69 hD hl) ?_;rintro _ _ _ ⟨rfl,rfl,rfl⟩;refine R0 (Y95 hD.self hl) ?_;rintro v H' nx' h;simp only[J80,Y5];exact h
end Go.Proofs.YtoiioigihocgbaaGreatDoor
namespace Go.Clo
theorem V73{ds:List Nat}{i d:Nat}(h:ds[i]? = some d):val ds=val (ds.take i)+4294967296^i*(d+4294967296*val (ds.drop (i+1))):=by
 have hi:i<ds.length:=(aJ.1 h).1;have hd:ds[i]=d:=(aJ.1 h).2;have e:ds=ds.take i++d :: ds.drop (i+1):=by
  rw[<- hd];exact(List.take_append_drop i ds).symm.trans (by rw[List.drop_eq_getElem_cons hi])
 have h1:=G77 (ds.take i) (d :: ds.drop (i+1));rw[<- e] at h1;rw[h1,val,cK,Nat.min_eq_left O0]
theorem K76{ds:List Nat}(h:U14 ds)(i:Nat):U14 (ds.take i):=fun e he=>h e (List.mem_of_mem_take he)
theorem N80{ds:List Nat}(h:U14 ds)(i:Nat):U14 (ds.drop i):=fun e he=>h e (fO he)
theorem Z48{ds:List Nat}(h:U14 ds)(i:Nat):val (ds.take i)<4294967296^i:=by
 have h1:=J95 (K76 h i);exact aO h1 (aK O0 O5)
theorem C79{ds es:List Nat}{i x y:Nat}(hs:U14 ds)(hx:ds[i]? = some x)(hy:es[i]? = some y)(hd:ds.drop (i+1)=es.drop (i+1))(h:x<y):val ds<val es:=by
 rw[V73 hx,V73 hy,hd];have h1:=Z48 hs i;have h2:4294967296^i*(x+4294967296*val (es.drop (i+1))+1)<=4294967296^i*(y+4294967296*val (es.drop (i+1))):=bG _ O0;rw[bJ,eQ] at h2;omega
def X72(a b:Nat):Int:=if a<b then -1 else if b<a then 1 else 0
theorem X70{a b:Nat}(h:(D11 a).length<(D11 b).length):a<b:=by
 have h1:=Q68 a;have hb:0<b:=by
  rcases cI b with e | e
  .subst e;rw[D20] at h;simp at h
  .exact e
 have h2:=E84 hb;have h3:4294967296^(D11 a).length<=4294967296^((D11 b).length-1):=aK O0 O0;omega
theorem W100{a b:Nat}(h:D11 a=D11 b):a=b:=by rw[<- V20 a,h,V20]
end Go.Clo
namespace Go.Proofs.YtoiioigihocgbaaGreatDoor
open Go.Clo
theorem Y81(a b:Int)(H:Y0)(nx:Nat):Q2 gQ 69 [O8 a,O8 b] H nx fun v H' nx'=>O8 (if a<b then -1 else if b<a then 1 else 0)=v/\H=H'/\nx=nx':=by
 have hn:∀(x:Int) (H:Y0) (nx:Nat),Q2 gQ 92 [O8 x] H nx fun v H' nx' => .bool false=v/\H=H'/\nx=nx':=by
  intro x H nx;refine spec92 ?_;unfold F92;have e:decide (x≠x)=false:=O2;simp only[W0,e]
 refine spec69 ?_;unfold F69;refine R0 (hn a H nx) ?_;rintro _ _ _ ⟨rfl,rfl,rfl⟩;refine R0 (hn b H nx) ?_;rintro _ _ _ ⟨rfl,rfl,rfl⟩
 by_cases h1:a<b
 .simp only[W0,h1]
 .by_cases h2:b<a
  .simp only[W0,h1,h2]
  .simp only[W0,h1,h2]
theorem W96(a b:Nat)(H:Y0)(nx:Nat):Q2 gQ 112 [O9 (a:Int),O9 (b:Int)] H nx fun v H' nx'=>O8 (X72 a b)=v/\H=H'/\nx=nx':=by
 have hn:∀(x:Int) (H:Y0) (nx:Nat),Q2 gQ 128 [O9 x] H nx fun v H' nx' => .bool false=v/\H=H'/\nx=nx':=by
  intro x H nx;refine spec128 ?_;unfold F128;have e:decide (x≠x)=false:=O2;simp only[W0,e]
 refine spec112 ?_;unfold F112;refine R0 (hn a H nx) ?_;rintro _ _ _ ⟨rfl,rfl,rfl⟩;refine R0 (hn b H nx) ?_;rintro _ _ _ ⟨rfl,rfl,rfl⟩
 by_cases h1:a<b
 .have E:(a:Int)<(b:Int):=O0
  simp only[W0,E,X72,h1]
 .have E:¬ (a:Int)<(b:Int):=O0
  by_cases h2:b<a
  .have J:(b:Int)<(a:Int):=O0
   simp only[W0,E,J,X72,h1,h2]
  .have J:¬ (b:Int)<(a:Int):=O0
   simp only[W0,E,J,X72,h1,h2]
theorem M95{v w:Value}{a b:Nat}{H:Y0}{nx:Nat}(hv:NN H nx v a)(hw:NN H nx w b)(hl:(D11 a).length<1000000)(V:(D11 b).length<1000000):
  Q2 gQ 97 [v,w] H nx fun r H' nx'=>O8 (X72 a b)=r/\D0 H nx H' nx':=by
 obtain⟨A,c,rfl,hA⟩:=hv;obtain⟨C,d,rfl,hC⟩:=hw;refine spec97 ?_;unfold F97;refine R0 (Y69 hA hl) ?_;rintro _ _ _ ⟨rfl,rfl,rfl⟩;refine R0 (Y69 hC V) ?_;rintro _ _ _ ⟨rfl,rfl,rfl⟩
 by_cases a1:(D11 a).length=(D11 b).length
 case neg=>
  have e1:decide (((D11 a).length:Int)≠((D11 b).length:Int))=true:=decide_eq_true O0;simp only[W0,e1];refine R0 (Y81 _ _ _ _) ?_;rintro _ _ _ ⟨rfl,rfl,rfl⟩;refine⟨?_,D0.refl _ _⟩;unfold X72;rcases aW (D11 a).length (D11 b).length with g | g
  .rw[if_pos (X70 g),if_pos O0]
  .have g2:=X70 (show(D11 b).length<(D11 a).length by omega)
   rw[if_neg O0,if_pos g2,if_neg O0,if_pos O0]
 have e1:decide (((D11 a).length:Int)≠((D11 b).length:Int))=false:=decide_eq_false O0;simp(disch:=omega)only[W0,e1];refine B1 (m:=(D11 a).length) (fun m L H' nx'=>L=[O8 ((m:Int)-1)]/\m<=(D11 a).length/\(D11 a).drop m=(D11 b).drop m/\D0 H nx H' nx') ?_ ⟨rfl,aD _,by rw[cM (aD _),cM O0],D0.refl _ _⟩;rintro m ih L H2 nx2 ⟨rfl,hm,hd,hE⟩ W
 by_cases h0:m=0
 .subst h0
  have e2:¬ (0:Int)<=((0:Nat):Int)-1:=O0;have e3:X72 a b=0:=by
   have:=W100 (a:=a) (b:=b) (by simpa using hd);subst this;unfold X72;simp
  simp only[W0,e2,e3];exact hE
 .have e2:(0:Int)<=(m:Int)-1:=O0
  have e4:((m:Int)-1).toNat=m-1:=O0;obtain⟨x,hx⟩:∃ x,(D11 a)[m-1]? = some x:=⟨_,aE O0⟩
  obtain⟨y,hy⟩:∃ y,(D11 b)[m-1]? = some y:=⟨_,aE O0⟩
  obtain⟨bA,oA,V63,rfl,_,E,Q⟩:=(hA.sl.ext hE).open (i:=m-1) (by rw[E1];omega);obtain⟨bC,oC,a0,rfl,_,J,Z⟩:=(hC.sl.ext hE).open (i:=m-1) (by rw[E1];omega);have gA:=Q _ _ (Q3 hx);have gC:=Z _ _ (Q3 hy)
  by_cases U:x=y
  .subst U
   have e5:decide ((x:Int)≠(x:Int))=false:=O2;simp(disch:=omega)only[W0,e2,e4,X3 E,X3 J,gA,gC,e5];refine W (m-1) _ _ _ O0 ⟨by congr 3;omega,O0,?_,hE.more O0⟩;rw[List.drop_eq_getElem_cons (by omega:m-1<(D11 a).length),List.drop_eq_getElem_cons (by omega:m-1<(D11 b).length),show m-1+1=m by omega,hd];congr 1;rw[aE O0] at hx hy;exact(fA hx).trans (fA hy).symm
  .have e5:decide ((x:Int)≠(y:Int))=true:=decide_eq_true O0
   simp(disch:=omega)only[W0,e2,e4,X3 E,X3 J,gA,gC,e5];refine R0 (W96 x y _ _) ?_;rintro _ _ _ ⟨rfl,rfl,rfl⟩;refine⟨?_,hE.more O0⟩;have O:(D11 a).drop (m-1+1)=(D11 b).drop (m-1+1):=by rw[show m-1+1=m by omega];exact hd
   unfold X72;rcases aW x y with g | g
   .have:=C79 (B25 a) hx hy O g
    rw[V20,V20] at this;rw[if_pos this,if_pos g]
   .have:=C79 (B25 b) hy hx O.symm (show y<x by omega)
    rw[V20,V20] at this;rw[if_neg O0,if_pos this,if_neg O0,if_pos O0]
end Go.Proofs.YtoiioigihocgbaaGreatDoor
namespace Go.Clo
def C14(n:Nat):Nat:=if n=0 then 0 else n.log2+1
theorem B80:C14 0=0:=rfl
theorem C76(n:Nat):n<2^C14 n:=by
 unfold C14
 split
 .rename_i h;subst h;simp
 .exact Nat.lt_log2_self
theorem E76{n:Nat}(h:0<n):2^(C14 n-1)<=n:=by
 unfold C14;rw[if_neg O0];exact Nat.log2_self_le O0
theorem C65{n:Nat}(h:0<n):0<C14 n:=by unfold C14;rw[if_neg O0];omega
theorem Q85{a b:Nat}(h:2^a<2^b):a<b:=(Nat.pow_lt_pow_iff_right O0).1 h
theorem M92{n b:Nat}(h1:2^b<=n)(h2:n<2^(b+1)):C14 n=b+1:=by
 have h0:0<n:=aO (aQ b) h1;have a1:=C76 n;have a2:=E76 h0;have a3:=C65 h0;have b1:b<C14 n:=Q85 (iF h1 a1);have b2:C14 n-1<b+1:=Q85 (iF a2 h2);omega
theorem E89{n:Nat}:C14 n=1<->n=1:=by
 constructor
 .intro h
  have h1:=C76 n;rw[h] at h1;have:n≠0:=fun e=>by rw[e] at h;cases h
  omega
 .rintro rfl;rfl
theorem N78{n k:Nat}(h:2^k<=n):C14 n=k+C14 (n/2^k):=by
 have hp:0<n/2^k:=Nat.div_pos h (aQ k);have a1:=C76 (n/2^k);have a2:=E76 hp;have a3:=C65 hp;have e:k+C14 (n/2^k)=(k+(C14 (n/2^k)-1))+1:=O0;rw[e];refine M92 ?_ ?_
 .rw[Nat.pow_add]
  exact bK (bG _ a2) (Nat.mul_div_le _ _)
 .rw[show k+(C14 (n/2^k)-1)+1=k+C14 (n/2^k) by omega,Nat.pow_add]
  rw[cG];exact(Nat.div_lt_iff_lt_mul (aQ k)).1 a1
def Y78:List UInt8:=[0,1,2,2,3,3,3,3,4,4,4,4,4,4,4,4,5,5,5,5,5,5,5,5,5,5,5,5,5,5,5,5,6,6,6,6,6,6,6,6,6,6,6,6,6,6,6,6,6,6,6,6,6,6,6,6,6,6,6,6,6,6,6,6]++aF 64 7++aF 128 8
theorem V105:∀ i,i<256->Y78[i]? = some (UInt8.ofNat (C14 i)):=by
 have h:((aY 256).all fun i=>decide (Y78[i]? = some (UInt8.ofNat (C14 i))))=true:=by decide +kernel
 intro i hi;have:=iE.1 h i (by simpa using hi);simpa using this
theorem X104{s:ByteArray}(hs:s.data.toList=Y78){i:Nat}(hi:i<256)(k:VP):D9 .sidx [.string s,.int .u8 (i:Int)] k=k (.int .u8 (C14 i:Int)):=by
 have hb:C14 i<256:=by
  have h1:=C76 i;rcases cI i with e | e
  .subst e;simp[C14]
  .have h2:=E76 e
   have:C14 i-1<8:=Q85 (iF h2 hi);omega
 have hg:s.data[i]? = some (UInt8.ofNat (C14 i)):=by
  rw[<- cL,hs];exact V105 i hi
 have h:VF.ev .sidx [.string s,.int .u8 (i:Int)]=some (.int .u8 (C14 i:Int)):=by
  show J52 s (i:Int)=_;unfold J52;have e:s[((i:Int)).toNat]? = some (UInt8.ofNat (C14 i)):=by
   rw[gR,<- hg];rfl
  rw[if_pos O0,e];simp only[Option.map_some];congr 2;show((UInt8.ofNat (C14 i)).toNat:Int)=_;have:(UInt8.ofNat (C14 i)).toNat=C14 i%256:=UInt8.toNat_ofNat';rw[this,bV O0]
 unfold D9;rw[h,J8];rfl
theorem G68{a:Nat}(h:a<256):IntKind.u8.wrap (a:Int)=(a:Int):=by
 simp only[eY,eK,dW];simp;omega
theorem D110{n:Nat}(h:n<256)(K:IntKind)(k:VP):W8 .u8 (.int K (n:Int)) k=k (.int .u8 (n:Int)):=by rw[Z32,G68 h]
theorem K69{n:Nat}(h:n<9223372036854775808)(K:IntKind)(k:VP):W8 .i64 (.int K (n:Int)) k=k (O8 (n:Int)):=by rw[Z32,Y23 O0 O0]
theorem V80{n b:Nat}(h:n<2^b):C14 n<=b:=by
 rcases cI n with e | e
 .subst e;simp[C14]
 .have h2:=E76 e
  have h3:=C65 e;have:C14 n-1<b:=Q85 (iF h2 h);omega
end Go.Clo
namespace Go.Proofs.YtoiioigihocgbaaGreatDoor
open Go.Clo
theorem Z109{x:Nat}(hx:x<4294967296)(H:Y0)(nx:Nat)(k:EP)(hk:k (O8 (C14 x:Int)) H nx):F114 (O9 (x:Int)) H nx k:=by
 unfold F114;have c2:∀(y n:Nat),y<256->n+C14 y=C14 x->n<100->(W8 .u8 (O9 (y:Int)) fun O=>D9 .sidx [(.string ⟨⟨Y78⟩⟩),O] fun J=>W8 .i64 J fun E=>D10 .add (O8 (n:Int)) E fun Q=>
   M0 Q fun v=>k v H nx):=by
  intro y n hy hn V;have hb:=V80 (n:=y) (b:=8) O0;rw[D110 hy,X104 (s:=⟨⟨Y78⟩⟩) rfl hy,K69 O0,N32 _ _ _ O0 O0,Y5];rw[<- hn] at hk;exact hk
 have c1:∀(y n:Nat),y<65536->n+C14 y=C14 x->n<50->V4 (fun tj=>D10 .geq (O9 (y:Int)) (O9 256) fun t8=>K2 t8 (
    D10 .shr (O9 (y:Int)) (.int .u64 8) fun U=>D10 .add (O8 (n:Int)) (O8 8) fun W=>tj [U,W] H nx) (tj [O9 (y:Int),O8 (n:Int)] H nx)) (fun tL H2 nx2=>
   W8 .u8 (tL.getD 0 undef) fun O=>D9 .sidx [(.string ⟨⟨Y78⟩⟩),O] fun J=>W8 .i64 J fun E=>D10 .add (tL.getD 1 undef) E fun Q=>
   M0 Q fun v=>k v H2 nx2):=by
  intro y n hy hn V;rw[N13]
  by_cases h:256<=y
  .have h':decide ((256:Int)<=(y:Int))=true:=decide_eq_true O0
   have e:y >>> 8=y/2^8:=eO y 8;have s1:=fun k=>V15 (a:=y) (n:=8) (K := .u64) k O0
   rw[M42,h',C46,if_pos rfl,show(.int .u64 8:Value) = .int .u64 ((8:Nat):Int) from rfl,s1,e,N32 _ _ _ O0 O0];exact c2 (y/2^8) (n+8) O0 (by have:=N78 (n:=y) (k:=8) O0;omega) O0
  .have h':decide ((256:Int)<=(y:Int))=false:=decide_eq_false O0
   rw[M42,h',C46,if_neg O2];exact c2 y n O0 hn O0
 rw[N13]
 by_cases h:65536<=x
 .have h':decide ((65536:Int)<=(x:Int))=true:=decide_eq_true O0
  have e:x >>> 16=x/2^16:=eO x 16;have s1:=fun k=>V15 (a:=x) (n:=16) (K := .u64) k hx
  rw[M42,h',C46,if_pos rfl,show(.int .u64 16:Value) = .int .u64 ((16:Nat):Int) from rfl,s1,e];exact c1 (x/2^16) 16 O0 (by have:=N78 (n:=x) (k:=16) O0;omega) O0
 .have h':decide ((65536:Int)<=(x:Int))=false:=decide_eq_false O0
  rw[M42,h',C46,if_neg O2];exact c1 x 0 O0 O0 O0
theorem K106{x:Nat}(hx:x<4294967296)(H:Y0)(nx:Nat):Q2 gQ 114 [O9 (x:Int)] H nx fun v H' nx'=>O8 (C14 x:Int)=v/\H=H'/\nx=nx':=
 spec114 (Z109 hx H nx _ ⟨rfl,rfl,rfl⟩)
theorem M77{v:Value}{n:Nat}{H:Y0}{nx:Nat}(h:NN H nx v n)(hl:(D11 n).length<1000000):Q2 gQ 102 [v] H nx fun r H' nx'=>O8 (C14 n:Int)=r/\H=H'/\nx=nx':=by
 obtain⟨A,c,rfl,hD⟩:=h;refine spec102 ?_;unfold F102;refine R0 (Y69 hD hl) ?_;rintro _ _ _ ⟨rfl,rfl,rfl⟩
 by_cases h0:n=0
 .subst h0
  have e:decide (((D11 0).length:Int)=0)=true:=decide_eq_true (by rw[D20];rfl);simp only[W0,e,B80]
  rfl
 .have hp:0<n:=O0
  obtain⟨d,hd,U,hL⟩:=U76 hp;have e:decide (((D11 n).length:Int)=0)=false:=decide_eq_false O0;have e2:(((D11 n).length:Int)-1).toNat=(D11 n).length-1:=O0;have E:=(B25 n).get hd;obtain⟨b,o,row,rfl,_,O,hg⟩:=hD.sl.open (i:=(D11 n).length-1) (by rw[E1];omega);have g0:=hg _ _ (Q3 hd);have hb:=V80 (n:=d) (b:=32) E;have em:∀ k:VP,D10 .mul (O8 32) (O8 (((D11 n).length:Int)-1)) k=k (O8 (32*(((D11 n).length:Int)-1))):=fun k=>by rw[B82,Y23 O0 O0]
  simp(disch:=omega)only[W0,e,e2,X3 O,g0,em];refine R0 (K106 E _ _) ?_;rintro _ _ _ ⟨rfl,rfl,rfl⟩;simp(disch:=omega)only[W0];have hs:=V73 hd;rw[V20] at hs;have Q:(D11 n).drop ((D11 n).length-1+1)=[]:=cM O0;rw[Q,val] at hs;have ht:=Z48 (B25 n) ((D11 n).length-1);have J:4294967296^((D11 n).length-1)=2^(32*((D11 n).length-1)):=by rw[Nat.pow_mul]
  have hn:C14 n=32*((D11 n).length-1)+C14 d:=by
   have h1:2^(32*((D11 n).length-1))<=n:=by
    have:=bG (4294967296^((D11 n).length-1)) (show 1<=d+4294967296*0 by omega);rw[J] at this hs;omega
   have h2:=N78 h1;have h3:n/2^(32*((D11 n).length-1))=d:=by
    rw[J] at ht hs;rw[Nat.mul_zero,eM] at hs;refine Nat.div_eq_of_lt_le ?_ ?_
    .rw[cG];omega
    .rw[dM,Nat.one_mul,cG d];omega
   rw[h3] at h2;exact h2
  rw[hn]
  push_cast
  congr 1;omega
end Go.Proofs.YtoiioigihocgbaaGreatDoor
namespace Go.Clo
theorem X99{ds:List Nat}{i d:Nat}(h:ds[i]? = some d):ds.take (i+1)=ds.take i++[d]:=by
 rw[List.take_add_one,h];rfl
theorem G20{ds:List Nat}{i d:Nat}(h:ds[i]? = some d):val (ds.take (i+1))=val (ds.take i)+4294967296^i*d:=by
 have hi:i<ds.length:=(aJ.1 h).1;rw[X99 h,G77,cK,Nat.min_eq_left O0,val,val];simp
theorem U110{out:List Nat}{i x:Nat}:(out.set i x).take i=out.take i:=by
 apply dH;intro j;rw[aX,aX]
 split
 .rw[bL O0]
 .rfl
theorem U72{out:List Nat}{i x:Nat}(h:i<out.length):val ((out.set i x).take (i+1))=val (out.take i)+4294967296^i*x:=by
 have hs:(out.set i x)[i]? = some x:=by rw[dG (by simpa using h)]
 rw[G20 hs,U110]
theorem U39{out:List Nat}{i x:Nat}(h:U14 out)(hx:x<4294967296):U14 (out.set i x):=fun e he=>by
 rcases List.mem_or_eq_of_mem_set he with h1 | h1
 .exact h e h1
 .omega
theorem X25{ds:List Nat}{i:Nat}(h:ds.length<=i):ds.take i=ds:=gJ h
end Go.Clo
namespace Go.Proofs.YtoiioigihocgbaaGreatDoor
open Go.Clo
theorem K110{v w:Value}{a b:Nat}{H:Y0}{nx:Nat}(hv:NN H nx v a)(hw:NN H nx w b)(hl:(D11 a).length<500000)(a5:(D11 b).length<500000):
  Q2 gQ 145 [v,w] H nx fun r H' nx'=>NN H' nx' r (a+b)/\D0 H nx H' nx':=by
 obtain⟨A,c,rfl,hA⟩:=hv;obtain⟨C,d,rfl,hC⟩:=hw;refine spec145 ?_;unfold F145;refine R0 (Y69 hA O0) ?_;rintro _ _ _ ⟨rfl,rfl,rfl⟩;refine R0 (Y69 hC O0) ?_;rintro _ _ _ ⟨rfl,rfl,rfl⟩;refine N5 (fun L H' nx'=>∃ A ds C es,L=[.slice A ds.length ds.length,.slice C es.length es.length]/\Dg H nx A ds.length ds/\Dg H nx C es.length es/\es.length<=ds.length/\ds.length<500000/\val ds+val es=a+b/\H=H'/\nx=nx') ?_ ?_
 .intro tj hj
  by_cases h:(D11 a).length<(D11 b).length
  .have h':((D11 a).length:Int)<((D11 b).length:Int):=O0
   simp only[W0,h'];exact hj _ _ _ ⟨C,D11 b,A,D11 a,rfl,hC.self,hA.self,O0,a5,by rw[V20,V20];omega,rfl,rfl⟩
  .have h':¬ ((D11 a).length:Int)<((D11 b).length:Int):=O0
   simp only[W0,h'];exact hj _ _ _ ⟨A,D11 a,C,D11 b,rfl,hA.self,hC.self,O0,hl,by rw[V20,V20],rfl,rfl⟩
 rintro L _ _ ⟨A,ds,C,es,rfl,hA,hC,a4,hl,ah,rfl,rfl⟩;simp(disch:=omega)only[W0,Q0.val];rw[show((ds.length:Int)+1)=((ds.length+1:Nat):Int) by omega,M27 O0,C23];simp(disch:=omega)only[W0];have a8:D0 H nx (hs H nx (O7 (K12 (aF (ds.length+1) 0)))) (nx+1):=(D0.refl H nx).nw _;refine B1 (m:=ds.length) (fun m L H' nx'=>∃(i E:Nat) (out:List Nat),m+i=ds.length/\L=[.int .u64 (E:Int),O8 (i:Int)]/\E<=1/\out.length=ds.length+1/\U14 out /\
  val (out.take i)+4294967296^i*E=val (ds.take i)+val (es.take i)/\J0 H' nx=O7 (K12 out)/\D0 H nx H' nx'/\nx<nx') ?_ ⟨0,0,aF (ds.length+1) 0,rfl,rfl,O0,O2,R72 _,by simp[val],Z11 _ _ _,a8,O0⟩
 rintro m ih L H1 a9 ⟨i,E,out,hm,rfl,ac,ae,W,O,hg,hE,Z⟩ a6
 by_cases hi:i<ds.length
 case neg=>
  have Q:¬ (i:Int)<(ds.length:Int):=O0;have a7:i=ds.length:=O0;subst a7;have e1:E%4294967296=E:=O0;simp only[W0,Q,G34,e1,hg,E1,V10 (l:=out) (i:=ds.length) (x:=E) (show ds.length<out.length by omega),show ds.length+1<=out.length by omega];have a0:val (out.set ds.length E)=a+b:=by
   have h1:=U72 (out:=out) (i:=ds.length) (x:=E) O0;rw[X25 O5] at h1;rw[X25 (aD ds.length),X25 a4] at O;omega
  refine R0 (U84 Z (Z11 _ _ _) (U39 W O0) O5 O0 (aD _) a0) ?_;rintro v _ _ ⟨hv,rfl,rfl⟩;exact⟨hv,hE.h0⟩
 have Q:(i:Int)<(ds.length:Int):=O0;obtain⟨x,hx⟩:∃ x,ds[i]? = some x:=⟨_,aE hi⟩
 obtain⟨bA,oA,V63,rfl,_,U,a1⟩:=(hA.sl.ext hE).open (i:=i) (by rw[E1];omega);have gA:=a1 _ _ (Q3 hx);have ad:=hA.small.get hx;simp(disch:=omega)only[W0,Q,X3 U,gA,U22 _ (show x<18446744073709551616 by omega),B74 _ (show E+x<18446744073709551616 by omega)];refine N5 (fun L H' nx'=>∃ s:Nat,L=[.int .u64 (s:Int)]/\s<8589934592/\val (ds.take (i+1))+val (es.take (i+1))=val (out.take i)+4294967296^i*s/\H1=H'/\a9=nx') ?_ ?_
 .intro tj hj
  by_cases a3:i<es.length
  .have J:(i:Int)<(es.length:Int):=O0
   obtain⟨y,hy⟩:∃ y,es[i]? = some y:=⟨_,aE a3⟩
   obtain⟨bC,oC,ab,rfl,_,V,aa⟩:=(hC.sl.ext hE).open (i:=i) (by rw[E1];omega);have gC:=aa _ _ (Q3 hy);have ag:=hC.small.get hy;simp(disch:=omega)only[W0,J,X3 V,gC,U22 _ (show y<18446744073709551616 by omega),B74 _ (show E+x+y<18446744073709551616 by omega)];refine hj _ _ _ ⟨E+x+y,rfl,O0,?_,rfl,rfl⟩;rw[G20 hx,G20 hy,bJ,bJ];omega
  .have J:¬ (i:Int)<(es.length:Int):=O0
   simp only[W0,J];refine hj _ _ _ ⟨E+x,rfl,O0,?_,rfl,rfl⟩;rw[X25 (ds:=es) O0] at O;rw[G20 hx,X25 (ds:=es) O0,bJ];omega
 rintro L _ _ ⟨s,rfl,hs,a2,rfl,rfl⟩;simp only[W0,G34,D74 _ (show s<18446744073709551616 by omega),hg,E1,V10 (l:=out) (i:=i) (x:=s%4294967296) (show i<out.length by omega),show i+1<=out.length by omega];refine a6 (m-1) _ _ _ O0 ⟨i+1,s/4294967296,out.set i (s%4294967296),O0,O2,O0,by simp;omega,U39 W O0,?_,Z11 _ _ _,hE.h0,Z⟩;rw[U72 O0,a2,dR,eE];have:4294967296^i*s=4294967296^i*(s%4294967296)+4294967296^i*(4294967296*(s/4294967296)):=by rw[<- bJ,Nat.mod_add_div]
 omega
theorem C101{v w:Value}{a b:Nat}{H:Y0}{nx:Nat}(hv:NN H nx v a)(hw:NN H nx w b)(hl:(D11 a).length<500000)(au:(D11 b).length<500000):
  Q2 gQ 146 [v,w] H nx fun r H' nx'=>(if a<b then r = .tuple ⟨[O6,O8 19]⟩ else ∃ u,r = .tuple ⟨[u,O8 0]⟩/\NN H' nx' u (a-b))/\D0 H nx H' nx':=by
 obtain⟨A,c,rfl,hA⟩:=hv;obtain⟨C,d,rfl,hC⟩:=hw;refine spec146 ?_;unfold F146;refine R0 (Y69 hA O0) ?_;rintro _ _ _ ⟨rfl,rfl,rfl⟩;refine R0 (Y69 hC O0) ?_;rintro _ _ _ ⟨rfl,rfl,rfl⟩;refine R0 (M95 ⟨_,_,rfl,hA.self⟩ ⟨_,_,rfl,hC.self⟩ O0 O0) ?_;rintro _ H1 O ⟨rfl,J⟩
 by_cases Q:a<b
 .have e1:X72 a b<0:=by unfold X72;rw[if_pos Q];omega
  simp only[W0,Q0.val,e1];refine⟨?_,J⟩;rw[if_pos Q]
  first | trivial | rfl
 have e1:¬ X72 a b<0:=by
  unfold X72;rw[if_neg Q]
  split<;>omega
 have ai:=hA.self.ext J;have ak:=hC.self.ext J;have aq:(D11 b).length<=(D11 a).length:=by
  rcases aW (D11 a).length (D11 b).length with g | g
  .exact absurd (X70 g) Q
  .exact g
 simp only[W0,Q0.val,e1];rw[M27 O0,C23];have av:D0 H nx (hs H1 O (O7 (K12 (aF (D11 a).length 0)))) (O+1):=J.new _ J.le O0;have a6:=V20 a;have a7:=V20 b;have ah:=B25 a;have ab:=B25 b;generalize D11 a=ds at *
 generalize D11 b=es at *
 refine B1 (m:=ds.length) (fun m L H' nx'=>∃(i E:Nat) (out:List Nat),m+i=ds.length/\L=[.int .u64 (E:Int),O8 (i:Int)]/\E<=1/\out.length=ds.length/\U14 out /\
  val (out.take i)+val (es.take i)=val (ds.take i)+4294967296^i*E/\J0 H' O=O7 (K12 out)/\D0 H1 O H' nx'/\O<nx') ?_ ⟨0,0,aF ds.length 0,rfl,rfl,O0,O2,R72 _,by simp[val],Z11 _ _ _,(D0.refl H1 O).nw _,O0⟩
 rintro m ih L H2 nx2 ⟨i,E,out,hm,rfl,ap,V,a1,W,hg,hE,a4⟩ ae;have ad:=J.trans hE
 by_cases hi:i<ds.length
 case neg=>
  have Z:¬ (i:Int)<(ds.length:Int):=O0;rw[X25 (ds:=out) O0,X25 (ds:=es) O0,X25 (ds:=ds) O0] at W;have a5:val out=a-b:=by
   have h1:=J95 a1;have h2:E=0\/E=1:=O0;rcases h2 with rfl | rfl
   .omega
   .rw[V,show i=ds.length by omega] at *
    omega
  simp only[W0,Z];refine R0 (U84 a4 hg a1 V O0 (aD _) a5) ?_;rintro v _ _ ⟨hv,rfl,rfl⟩;refine⟨?_,ad⟩;rw[if_neg Q];exact⟨v,rfl,hv⟩
 have Z:(i:Int)<(ds.length:Int):=O0;obtain⟨x,hx⟩:∃ x,ds[i]? = some x:=⟨_,aE hi⟩
 obtain⟨bA,oA,V63,rfl,_,a0,ac⟩:=(ai.sl.ext hE).open (i:=i) (by rw[E1];omega);have gA:=ac _ _ (Q3 hx);have an:=ah.get hx;simp(disch:=omega)only[W0,Z,X3 a0,gA,U22 _ (show x<18446744073709551616 by omega),Z76 _ (show x<18446744073709551616 by omega) (show E<18446744073709551616 by omega)];refine N5 (fun L H' nx'=>∃ s q r:Nat,L=[.int .u64 (s:Int)]/\s<18446744073709551616/\s%4294967296=q/\s/9223372036854775808=r/\q<4294967296/\r<=1 /\
  val (out.take i)+4294967296^i*q+val (es.take (i+1))=val (ds.take (i+1))+4294967296^(i+1)*r/\H2=H'/\nx2=nx') ?_ ?_
 .intro tj hj
  by_cases ag:i<es.length
  .have U:(i:Int)<(es.length:Int):=O0
   obtain⟨y,hy⟩:∃ y,es[i]? = some y:=⟨_,aE ag⟩
   obtain⟨bC,oC,al,rfl,_,a2,aj⟩:=(ak.sl.ext hE).open (i:=i) (by rw[E1];omega);have gC:=aj _ _ (Q3 hy);have ao:=ab.get hy;simp(disch:=omega)only[W0,U,X3 a2,gC,U22 _ (show y<18446744073709551616 by omega),Z76 _ (show(x+18446744073709551616-E)%18446744073709551616<18446744073709551616 by omega) (show y<18446744073709551616 by omega)]
   by_cases aa:E+y<=x
   .refine hj _ _ _ ⟨_,x-E-y,0,rfl,O0,O0,O0,O0,O0,?_,rfl,rfl⟩
    rw[G20 hx,G20 hy,show x=(x-E-y)+E+y by omega,bJ,bJ];have:(x-E-y)+E+y-E-y=x-E-y:=O0;rw[this];omega
   .refine hj _ _ _ ⟨_,x+4294967296-E-y,1,rfl,O0,O0,O0,O0,O0,?_,rfl,rfl⟩
    rw[G20 hx,G20 hy,dR,eQ];have e3:4294967296^i*(x+4294967296-E-y)+4294967296^i*E+4294967296^i*y=4294967296^i*x+4294967296^i*4294967296:=by
     rw[<- bJ,<- bJ,<- bJ];congr 1;omega
    omega
  .have U:¬ (i:Int)<(es.length:Int):=O0
   rw[X25 (ds:=es) O0] at W;simp only[W0,U]
   by_cases aa:E<=x
   .refine hj _ _ _ ⟨_,x-E,0,rfl,O0,O0,O0,O0,O0,?_,rfl,rfl⟩
    rw[G20 hx,X25 (ds:=es) O0];have e3:4294967296^i*(x-E)+4294967296^i*E=4294967296^i*x:=by rw[<- bJ];congr 1;omega
    omega
   .refine hj _ _ _ ⟨_,x+4294967296-E,1,rfl,O0,O0,O0,O0,O0,?_,rfl,rfl⟩
    rw[G20 hx,X25 (ds:=es) O0,dR,eQ];have e3:4294967296^i*(x+4294967296-E)+4294967296^i*E=4294967296^i*x+4294967296^i*4294967296:=by
     rw[<- bJ,<- bJ];congr 1;omega
    omega
 rintro L _ _ ⟨s,q,r,rfl,hs,hq,hr,a3,a8,a9,rfl,rfl⟩;simp only[W0,G34,hq,hr,X85 _ hs,hg,E1,V10 (l:=out) (i:=i) (x:=q) (show i<out.length by omega),show i+1<=out.length by omega];refine ae (m-1) _ _ _ O0 ⟨i+1,r,out.set i q,O0,O2,a8,by simp;omega,U39 a1 a3,?_,Z11 _ _ _,hE.h0,a4⟩;rw[U72 O0];exact a9
theorem Z79{v w:Value}{a b:Nat}{H:Y0}{nx:Nat}(hv:NN H nx v a)(hw:NN H nx w b)(hl:(D11 a).length<400000)(ay:(D11 b).length<400000):
  Q2 gQ 98 [v,w] H nx fun r H' nx'=>NN H' nx' r (a*b)/\D0 H nx H' nx':=by
 obtain⟨A,c,rfl,hA⟩:=hv;obtain⟨C,d,rfl,hC⟩:=hw;refine spec98 ?_;unfold F98;refine R0 (Y69 hA O0) ?_;rintro _ _ _ ⟨rfl,rfl,rfl⟩;refine R0 (Y69 hC O0) ?_;rintro _ _ _ ⟨rfl,rfl,rfl⟩;have an:=hA.self;have ap:=hC.self;clear hA hC;simp(disch:=omega)only[W0,Q0.val];have U:=V20 a;have V:=V20 b;have ak:=B25 a;have ac:=B25 b;generalize D11 a=ds at *
 generalize D11 b=es at *
 rw[show((ds.length:Int)+(es.length:Int))=((ds.length+es.length:Nat):Int) by omega,M27 O0,C23];have ah:D0 H nx (hs H nx (O7 (K12 (aF (ds.length+es.length) 0)))) (nx+1):=(D0.refl H nx).nw _;refine B1 (m:=ds.length) (fun m L H' nx'=>∃(i:Nat) (out:List Nat),m+i=ds.length/\L=[O8 (i:Int)]/\out.length=ds.length+es.length/\U14 out /\
  val (out.take (i+es.length))=val (ds.take i)*val es/\J0 H' nx=O7 (K12 out)/\D0 H nx H' nx'/\nx<nx') ?_ ⟨0,aF (ds.length+es.length) 0,rfl,rfl,O2,R72 _,by rw[List.take_replicate,J101];simp[val],Z11 _ _ _,ah,O0⟩
 rintro m ih L H1 az ⟨i,out,hm,rfl,Z,a7,Q,hg,hE,a8⟩ ag
 by_cases hi:i<ds.length
 case neg=>
  have a0:¬ (i:Int)<(ds.length:Int):=O0;have aa:val out=a*b:=by
   rw[X25 (ds:=out) O0,X25 (ds:=ds) O0] at Q;rw[Q,U,V]
  simp only[W0,a0];refine R0 (U84 a8 hg a7 Z O0 (aD _) aa) ?_;rintro v _ _ ⟨hv,rfl,rfl⟩;exact⟨hv,hE⟩
 have a0:(i:Int)<(ds.length:Int):=O0;obtain⟨x,hx⟩:∃ x,ds[i]? = some x:=⟨_,aE hi⟩
 have av:=ak.get hx;simp(disch:=omega)only[W0,a0];refine B1 (m:=es.length) (fun m L H' nx'=>∃(j E:Nat) (o2:List Nat),m+j=es.length/\L=[.int .u64 (E:Int),O8 (j:Int)]/\E<4294967296/\o2.length=ds.length+es.length/\U14 o2 /\
  val (o2.take (i+j))+4294967296^(i+j)*E=val (out.take (i+j))+4294967296^i*(x*val (es.take j))/\(∀ q,i+j<=q->o2[q]? = out[q]?)/\J0 H' nx=O7 (K12 o2)/\D0 H nx H' nx'/\nx<nx') ?_
  ⟨0,0,out,rfl,rfl,O0,Z,a7,by simp[val],fun _ _=>rfl,hg,hE,a8⟩
 rintro m2 ax L H2 nx2 ⟨j,E,o2,b3,rfl,a9,aj,O,a4,J,a6,W,ab⟩ a5
 by_cases hj:j<es.length
 case neg=>
  have a1:¬ (j:Int)<(es.length:Int):=O0;have ae:j=es.length:=O0;subst ae;have e1:E%4294967296=E:=O0;have ei:((i:Int)+(es.length:Int)).toNat=i+es.length:=O0;simp only[W0,a1,G34,e1,ei,a6,E1,V10 (l:=o2) (i:=i+es.length) (x:=E) (show i+es.length<o2.length by omega),show i+es.length+1<=o2.length by omega];refine ag (m-1) _ _ _ O0 ⟨i+1,o2.set (i+es.length) E,O0,O2,by simp;omega,U39 O a9,?_,Z11 _ _ _,W.h0,ab⟩;rw[show i+1+es.length=(i+es.length)+1 by omega,U72 O0,a4,Q,X25 (ds:=es) (aD _),G20 hx,dM,eE]
 have a1:(j:Int)<(es.length:Int):=O0;obtain⟨y,hy⟩:∃ y,es[j]? = some y:=⟨_,aE hj⟩
 obtain⟨z,hz⟩:∃ z,o2[i+j]? = some z:=⟨_,aE O0⟩
 have aw:=ac.get hy;have au:=O.get hz;obtain⟨bA,oA,V63,rfl,_,a2,ad⟩:=(an.sl.ext W).open (i:=i) (by rw[E1];omega);have gA:=ad _ _ (Q3 hx);obtain⟨bC,oC,aq,rfl,_,a3,ao⟩:=(ap.sl.ext W).open (i:=j) (by rw[E1];omega);have gC:=ao _ _ (Q3 hy);have gZ:=Q3 hz;have ai:x*y<=4294967295*4294967295:=eL O0 O0;have ei:((i:Int)+(j:Int)).toNat=i+j:=O0;generalize hp:x*y=p at ai;simp(disch:=omega)only[W0,a1,X3 a2,gA,X3 a3,gC,U22 _ (show x<18446744073709551616 by omega),U22 _ (show y<18446744073709551616 by omega),U85 (a:=x) (b:=y) _ (by rw[hp];omega),hp,ei,a6,gZ,U22 _ (show z<18446744073709551616 by omega),
  B74 _ (show p+z<18446744073709551616 by omega),B74 _ (show E+(p+z)<18446744073709551616 by omega),G34,E1,V10 (l:=o2) (i:=i+j) (x:=(E+(p+z))%4294967296) (show i+j<o2.length by omega),show i+j+1<=o2.length by omega,D74 _ (show E+(p+z)<18446744073709551616 by omega)]
 refine a5 (m2-1) _ _ _ O0 ⟨j+1,(E+(p+z))/4294967296,o2.set (i+j) ((E+(p+z))%4294967296),O0,O2,O0,by simp;omega,U39 O O0,?_,fun q hq => ?_,Z11 _ _ _,W.nw _,O0⟩
 .have al:out[i+j]? = some z:=by rw[<- J (i+j) (aD _)];exact hz
  rw[show i+(j+1)=i+j+1 by omega,U72 O0,G20 al,G20 hy,dR,eE (4294967296^(i+j))];have e1:4294967296^(i+j)*(E+(p+z))=4294967296^(i+j)*((E+(p+z))%4294967296)+4294967296^(i+j)*(4294967296*((E+(p+z))/4294967296)):=by rw[<- bJ,Nat.mod_add_div]
  have e2:4294967296^i*(x*(val (es.take j)+4294967296^j*y))=4294967296^i*(x*val (es.take j))+4294967296^(i+j)*p:=by
   rw[bJ,bJ,<- hp,Nat.pow_add];congr 1
   ac_rfl
  rw[e2];rw[bJ,bJ] at e1;omega
 .rw[bL O0]
  exact J q O0
end Go.Proofs.YtoiioigihocgbaaGreatDoor
namespace Go.Clo
theorem Q102{a b n:Nat}(h:b<2^n):a*2^n ||| b=a*2^n+b:=by
 rw[cG,Nat.two_pow_add_eq_or_of_lt h]
theorem M107{a b n:Nat}(h:a<2^n):a ||| b*2^n=a+b*2^n:=by
 rw[Nat.or_comm,Q102 h,Nat.add_comm]
section
variable {a b:Nat} (k:VP)
theorem G90{n:Nat}{K:IntKind}(hn:n<64)(h:a*2^n<18446744073709551616):D10 .shl (.int .u64 (a:Int)) (.int K (n:Int)) k=k (.int .u64 ((a*2^n:Nat):Int)):=by
 rw[X6];have h0:¬ (n:Int)<0:=O0;simp only[R9,N4,C18,cond_true,h0,if_false,aN,dW];congr 2;have e:((a:Int)*(2:Int)^min ((n:Int)).toNat 64)=((a*2^n:Nat):Int):=by
  have:min n 64=n:=O0;simp[this]
 rw[e,Q75 h]
theorem E79(h:a<4294967296):D10 .shl (.int .u64 (a:Int)) (.int .u64 32) k=k (.int .u64 ((a*4294967296:Nat):Int)):=G90 (n:=32) k O0 O0
theorem V103(ha:a<18446744073709551616)(hb:b<18446744073709551616):D10 .or (.int .u64 (a:Int)) (.int .u64 (b:Int)) k=k (.int .u64 ((a ||| b:Nat):Int)):=by
 rw[X6];show k (.int .u64 (IntKind.u64.wrap ((cT 64 (a:Int) ||| cT 64 (b:Int)).toNat:Int)))=_;rw[W10,W10,BitVec.toNat_or,eP,eP,bV (by simpa using ha),bV (by simpa using hb),Q75 (Nat.or_lt_two_pow (n:=64) ha hb)]
theorem N76(ha:a<4294967296)(hb:b<4294967296):D10 .or (.int .u64 ((a*4294967296:Nat):Int)) (.int .u64 (b:Int)) k=k (.int .u64 ((a*4294967296+b:Nat):Int)):=by
 rw[V103 k O0 O0,show a*4294967296 ||| b=a*4294967296+b from Q102 (n:=32) hb]
theorem R88{n:Nat}(ha:a<2^n)(hn:a<18446744073709551616)(hb:b*2^n<18446744073709551616):D10 .or (.int .u64 (a:Int)) (.int .u64 ((b*2^n:Nat):Int)) k=k (.int .u64 ((a+b*2^n:Nat):Int)):=by
 rw[V103 k hn hb,M107 ha]
theorem D103(ha:a<18446744073709551616):D10 .and (.int .u64 (a:Int)) (.int .u64 4294967295) k=k (.int .u64 ((a%4294967296:Nat):Int)):=by
 rw[X6];show k (.int .u64 (IntKind.u64.wrap ((cT 64 (a:Int) &&& cT 64 ((4294967295:Nat):Int)).toNat:Int)))=_;rw[W10,W10,BitVec.toNat_and,eP,eP,bV (by simpa using ha)];have:a &&& (4294967295%2^64)=a%4294967296:=Nat.and_two_pow_sub_one_eq_mod a 32;rw[this,Q75 O0]
theorem Y98(ha:a<18446744073709551616)(hb:0<b):D10 .quo (.int .u64 (a:Int)) (.int .u64 (b:Int)) k=k (.int .u64 ((a/b:Nat):Int)):=by
 rw[E105 _ _ _ _ O0];have:((a:Int).tdiv (b:Int))=((a/b:Nat):Int):=by rw[Int.ofNat_tdiv]
 rw[this,Q75 (iF (Nat.div_le_self _ _) ha)]
theorem B90(hb:0<b):D10 .rem (.int .u64 (a:Int)) (.int .u64 (b:Int)) k=k (.int .u64 ((a%b:Nat):Int)):=by
 rw[Z62 _ _ _ _ O0];have:((a:Int).tmod (b:Int))=((a%b:Nat):Int):=by rw[Int.ofNat_tmod]
 rw[this]
end
theorem D72{ds:List Nat}{i d:Nat}(h:ds[i]? = some d):val (ds.drop i)=d+4294967296*val (ds.drop (i+1)):=by
 have hi:i<ds.length:=(aJ.1 h).1;have hd:ds[i]=d:=(aJ.1 h).2;rw[List.drop_eq_getElem_cons hi,hd,val]
theorem C86{o:List Nat}{i x:Nat}:(o.set i x).drop (i+1)=o.drop (i+1):=by
 apply dH;intro j;rw[dB,dB,bL O0]
end Go.Clo
namespace Go.Proofs.YtoiioigihocgbaaGreatDoor
open Go.Clo
theorem V84{v:Value}{n:Nat}{H:Y0}{nx:Nat}(h:NN H nx v n)(hl:(D11 n).length<1000000):
  Q2 gQ 116 [v] H nx fun r H' nx'=>(if n<18446744073709551616 then r = .tuple ⟨[.int .u64 (n:Int),.bool true]⟩ else r = .tuple ⟨[.int .u64 0,.bool false]⟩)/\H=H'/\nx=nx':=by
 obtain⟨A,c,rfl,hD⟩:=h;refine spec116 ?_;unfold F116;refine R0 (Y69 hD hl) ?_;rintro _ _ _ ⟨rfl,rfl,rfl⟩;have Q:=B25 n
 by_cases h2:(D11 n).length<=2
 case neg=>
  have e1:(2:Int)<((D11 n).length:Int):=O0;have V:¬ n<18446744073709551616:=fun hn=>by
   have:=E29 (n:=n) (k:=2) (by simpa using hn);omega
  simp only[W0,e1,V]
 have e1:¬ (2:Int)<((D11 n).length:Int):=O0;have hn:n<18446744073709551616:=by
  have h3:=Q68 n;have h4:4294967296^(D11 n).length<=4294967296^2:=aK O0 h2;omega
 simp only[W0,e1];have a2:=V20 n;generalize D11 n=ds at *
 refine B1 (m:=ds.length) (fun m L H' nx'=>∃ i:Nat,m+i=ds.length/\L=[.int .u64 (val (ds.take i):Int),O8 (i:Int)]/\H=H'/\nx=nx') ?_ ⟨0,rfl,rfl,rfl,rfl⟩;rintro m ih L _ _ ⟨i,hm,rfl,rfl,rfl⟩ a1
 by_cases hi:i<ds.length
 .have E:(i:Int)<(ds.length:Int):=O0
  obtain⟨x,hx⟩:∃ x,ds[i]? = some x:=⟨_,aE hi⟩
  have a3:=Q.get hx;obtain⟨bA,oA,V63,rfl,_,J,W⟩:=hD.sl.open (i:=i) (by rw[E1];omega);have gA:=W _ _ (Q3 hx);have ht:=Z48 Q i;have U:i=0\/i=1:=O0;have em:∀ k:VP,D10 .mul (O8 32) (O8 (i:Int)) k=k (O8 ((32*i:Nat):Int)):=fun k=>by
   rw[B82,Y23 O0 O0];rfl
  have hp:4294967296^i=2^(32*i):=by rw[Nat.pow_mul]
  have O:x*2^(32*i)<18446744073709551616:=by
   rcases U with rfl | rfl
   .simp;omega
   .simp;omega
  have Z:val (ds.take i)<2^(32*i):=by rw[<- hp];exact ht
  have a0:val (ds.take i)<18446744073709551616:=by
   rcases U with rfl | rfl
   .simp at ht;omega
   .simp at ht;omega
  simp(disch:=omega)only[W0,E,X3 J,gA,U22 _ (show x<18446744073709551616 by omega),em,G90 (a:=x) (n:=32*i) _ O0 O,R88 (a:=val (ds.take i)) (b:=x) (n:=32*i) _ Z a0 O];refine a1 (m-1) _ _ _ O0 ⟨i+1,O0,?_,rfl,rfl⟩;rw[G20 hx,hp,cG x];simp
 .have E:¬ (i:Int)<(ds.length:Int):=O0
  simp only[W0,E];rw[if_pos hn,X25 O0,a2]
theorem E93{b c sl d:Nat}{ds:List Nat}{H:Y0}{nx:Nat}(hb:b<nx)(hg:J0 H b=some (.cells (K12 ds) sl))(hs:U14 ds)(hl:ds.length<1000000)(hd:0<d)(a5:d<4294967296):
  Q2 gQ 117 [.slice (some ⟨b,0,none⟩) ds.length c,O9 (d:Int)] H nx fun r H' nx'=>r=O9 ((val ds%d:Nat):Int)/\nx=nx'/\(∀ i,i≠b->J0 H' i=J0 H i) /\
   ∃ qs,J0 H' b=some (.cells (K12 qs) sl)/\qs.length=ds.length/\U14 qs/\val qs=val ds/d:=by
 refine spec117 ?_;unfold F117;simp(disch:=omega)only[W0];refine B1 (m:=ds.length) (fun m L H' nx'=>∃(rest:Nat) (o:List Nat),L=[.int .u64 (rest:Int),O8 ((m:Int)-1)]/\m<=ds.length/\rest<d/\o.length=ds.length/\U14 o/\(∀ q,q<m->o[q]? = ds[q]?) /\
  val (o.drop m)*d+rest=val (ds.drop m)/\J0 H' b=some (.cells (K12 o) sl)/\(∀ i,i≠b->J0 H' i=J0 H i)/\nx=nx') ?_
  ⟨0,ds,rfl,aD _,hd,rfl,hs,fun _ _=>rfl,by rw[cM (aD _)];simp[val],hg,fun _ _=>rfl,rfl⟩
 rintro m ih L H1 _ ⟨rest,o,rfl,hm,hr,O,V,J,E,Z,W,rfl⟩ a3
 by_cases h0:m=0
 .subst h0
  have e2:¬ (0:Int)<=((0:Nat):Int)-1:=O0;simp only[W0,e2,G34];rw[List.drop_zero,List.drop_zero] at E;have hq:val ds/d=val o:=by rw[<- E,cG,Nat.mul_add_div hd,Nat.div_eq_of_lt hr,eM]
  have a4:val ds%d=rest:=by rw[<- E,cG,Nat.mul_add_mod,bV hr]
  refine⟨by rw[a4,bV O0],W,o,Z,O,V,hq.symm⟩
 .have e2:(0:Int)<=(m:Int)-1:=O0
  have e4:((m:Int)-1).toNat=m-1:=O0;obtain⟨x,hx⟩:∃ x,ds[m-1]? = some x:=⟨_,aE O0⟩
  have a1:o[m-1]? = some x:=by rw[J _ O0];exact hx
  have a0:=hs.get hx;have gX:=Q3 a1;have U:rest*4294967296+x<d*4294967296:=by
   have:=dS 4294967296 (show rest+1<=d by omega);omega
  have Q:(rest*4294967296+x)/d<4294967296:=(Nat.div_lt_iff_lt_mul hd).2 (by rw[cG 4294967296 d];exact U);simp(disch:=omega)only[W0,e2,e4,Z,gX,E79 _ (show rest<4294967296 by omega),U22 _ (show x<18446744073709551616 by omega),N76 (a:=rest) (b:=x) _ O0 a0,U22 _ (show d<18446744073709551616 by omega),
   Y98 (a:=rest*4294967296+x) (b:=d) _ O0 hd,B90 (a:=rest*4294967296+x) (b:=d) _ hd,G34,bV Q,E1,V10 (l:=o) (i:=m-1) (x:=(rest*4294967296+x)/d) (show m-1<o.length by omega),show m-1+1<=o.length by omega]
  refine a3 (m-1) _ _ _ O0 ⟨(rest*4294967296+x)%d,o.set (m-1) ((rest*4294967296+x)/d),by congr 3;omega,O0,eZ _ hd,by simp[O],U39 V Q,fun q hq => ?_,?_,Z11 _ _ _,fun i hi=>by rw[Z1 _ hi];exact W i hi,rfl⟩
  .rw[bL O0];exact J q O0
  .have a2:(o.set (m-1) ((rest*4294967296+x)/d))[m-1]? = some ((rest*4294967296+x)/d):=by rw[dG O0]
   rw[D72 a2,D72 hx,C86,show m-1+1=m by omega,<- E,dM];have h1:=Nat.div_add_mod (rest*4294967296+x) d;rw[cG] at h1;have h2:4294967296*val (o.drop m)*d=4294967296*(val (o.drop m)*d):=eE _ _ _;omega
end Go.Proofs.YtoiioigihocgbaaGreatDoor
namespace Go.Clo
theorem Q108{a:Nat}(k:VP):D10 .shl (.int .u64 (a:Int)) (.int .u64 32) k=k (.int .u64 ((a%4294967296*4294967296:Nat):Int)):=by
 rw[X6];have h0:¬ ((32:Int))<0:=O0;simp only[R9,N4,C18,cond_true,h0,if_false,aN,dW];congr 2;have e:((a:Int)*(2:Int)^min ((32:Int)).toNat 64)=((a*4294967296:Nat):Int):=by
  simp
 rw[e,K108];congr 1;rw[show(18446744073709551616:Nat)=4294967296*4294967296 from rfl,Nat.mul_mod_mul_right]
theorem Z96{s:Nat}(h:s<32):2^s<=2147483648:=aK (n:=2) O0 (show s<=31 by omega)
theorem D102{x W w0 W' s:Nat}(hs:s<32)(hW:W=w0+4294967296*W'):(x+4294967296*W)/2^s=(x+4294967296*w0)/2^s%4294967296+4294967296*(W/2^s)\/4294967296<=x:=by
 by_cases hx:x<4294967296
 .refine .inl ?_
  have hp:0<2^s:=aQ s;have e1:(x+4294967296*W)/2^s/4294967296=W/2^s:=by
   rw[Nat.div_div_eq_div_mul,cG (2^s),<- Nat.div_div_eq_div_mul,Nat.add_mul_div_left _ _ O0,Nat.div_eq_of_lt hx,cF]
  have e2:(x+4294967296*W)/2^s%4294967296=(x+4294967296*w0)/2^s%4294967296:=by
   have hB:(4294967296:Nat)=2^s*2^(32-s):=by rw[<- Nat.pow_add,show s+(32-s)=32 by omega]
   have e3:x+4294967296*W=(x+4294967296*w0)+2^s*(4294967296*(2^(32-s)*W')):=by
    have e4:4294967296*(4294967296*W')=2^s*(4294967296*(2^(32-s)*W')):=by
     calc 4294967296*(4294967296*W')=4294967296*(2^s*2^(32-s)*W'):=by rw[<- hB]
      _=2^s*(4294967296*(2^(32-s)*W')):=by ac_rfl
    rw[hW,<- e4];omega
   rw[e3,Nat.add_mul_div_left _ _ hp,Nat.add_mul_mod_self_left]
  rw[<- e2,<- e1,Nat.mod_add_div]
 .exact .inr O0
end Go.Clo
namespace Go.Proofs.YtoiioigihocgbaaGreatDoor
open Go.Clo
theorem Y101{x:Nat}(hx:x<4294967296)(H:Y0)(nx:Nat):Q2 gQ 129 [O9 (x:Int)] H nx fun v H' nx'=>O8 ((32-C14 x:Nat):Int)=v/\H=H'/\nx=nx':=by
 refine spec129 ?_;unfold F129;refine R0 (K106 hx H nx) ?_;rintro _ _ _ ⟨rfl,rfl,rfl⟩;have hb:=V80 (n:=x) (b:=32) hx;simp(disch:=omega)only[W0];congr 1;omega
theorem B84{A:Option Addr}{c s:Nat}{ds:List Nat}{H:Y0}{nx:Nat}(h:Dg H nx A c ds)(hl:ds.length<900000)(a1:s<32):
  Q2 gQ 130 [.slice A ds.length c,.int .u64 (s:Int)] H nx fun v H' nx'=>v = .slice (some ⟨nx,0,none⟩) (ds.length+1) (ds.length+1)/\nx<nx'/\D0 H nx H' nx' /\
   ∃ out,J0 H' nx=O7 (K12 out)/\out.length=ds.length+1/\U14 out/\val out=val ds*2^s:=by
 refine spec130 ?_;unfold F130;simp(disch:=omega)only[W0,Q0.val];rw[show((ds.length:Int)+1)=((ds.length+1:Nat):Int) by omega,M27 O0,C23];have hp:=Z96 a1;have a4:D0 H nx (hs H nx (O7 (K12 (aF (ds.length+1) 0)))) (nx+1):=(D0.refl H nx).nw _;refine B1 (m:=ds.length) (fun m L H' nx'=>∃(i E:Nat) (out:List Nat),m+i=ds.length/\L=[.int .u64 (E:Int),O8 (i:Int)]/\E<2^s/\out.length=ds.length+1/\U14 out /\
  val (out.take i)+4294967296^i*E=val (ds.take i)*2^s/\J0 H' nx=O7 (K12 out)/\D0 H nx H' nx'/\nx<nx') ?_ ⟨0,0,aF (ds.length+1) 0,rfl,rfl,aQ s,O2,R72 _,by simp[val],Z11 _ _ _,a4,O0⟩
 rintro m ih L H1 a8 ⟨i,E,out,hm,rfl,Z,O,V,J,hg,hE,W⟩ a2
 by_cases hi:i<ds.length
 case neg=>
  have Q:¬ (i:Int)<(ds.length:Int):=O0;have a3:i=ds.length:=O0;subst a3;have e1:E%4294967296=E:=O0;simp(disch:=omega)only[W0,Q,G34,e1,hg,E1,V10 (l:=out) (i:=ds.length) (x:=E) (show ds.length<out.length by omega),show ds.length+1<=out.length by omega];refine⟨W,hE.h0,out.set ds.length E,rfl,by simp[O],U39 V O0,?_⟩;have h1:=U72 (out:=out) (i:=ds.length) (x:=E) O0;rw[X25 O5] at h1;rw[X25 (aD ds.length)] at J;omega
 have Q:(i:Int)<(ds.length:Int):=O0;obtain⟨x,hx⟩:∃ x,ds[i]? = some x:=⟨_,aE hi⟩
 have a6:=h.small.get hx;obtain⟨bA,oA,V63,rfl,_,U,a0⟩:=(h.sl.ext hE).open (i:=i) (by rw[E1];omega);have gA:=a0 _ _ (Q3 hx);have a7:x*2^s<=4294967295*2^s:=dS _ O0;have a5:E+x*2^s<4294967296*2^s:=O0;simp(disch:=omega)only[W0,Q,X3 U,gA,U22 _ (show x<18446744073709551616 by omega),G90 (a:=x) (n:=s) _ O0 O0,R88 (a:=E) (b:=x) (n:=s) _ Z O0 O0,G34,D74 (a:=E+x*2^s) _ O0,
  hg,E1,V10 (l:=out) (i:=i) (x:=(E+x*2^s)%4294967296) (show i<out.length by omega),show i+1<=out.length by omega]
 refine a2 (m-1) _ _ _ O0 ⟨i+1,(E+x*2^s)/4294967296,out.set i ((E+x*2^s)%4294967296),O0,O2,(Nat.div_lt_iff_lt_mul O0).2 O0,by simp[O],U39 V O0,?_,Z11 _ _ _,hE.h0,W⟩;rw[U72 O0,G20 hx,dM,<- J,dR,eE (4294967296^i) 4294967296];have e1:4294967296^i*(E+x*2^s)=4294967296^i*((E+x*2^s)%4294967296)+4294967296^i*(4294967296*((E+x*2^s)/4294967296)):=by rw[<- bJ,Nat.mod_add_div]
 rw[bJ] at e1;rw[eE];omega
theorem W93{A:Option Addr}{c s:Nat}{ds:List Nat}{H:Y0}{nx:Nat}(h:Dg H nx A c ds)(hl:ds.length<900000)(V:s<32):
  Q2 gQ 134 [.slice A ds.length c,.int .u64 (s:Int)] H nx fun v H' nx'=>v = .slice (some ⟨nx,0,none⟩) ds.length ds.length/\nx<nx'/\D0 H nx H' nx' /\
   ∃ out,J0 H' nx=O7 (K12 out)/\out.length=ds.length/\U14 out/\val out=val ds/2^s:=by
 refine spec134 ?_;unfold F134;simp(disch:=omega)only[W0,Q0.val];rw[M27 O0,C23];have hp:=Z96 V;have a5:D0 H nx (hs H nx (O7 (K12 (aF ds.length 0)))) (nx+1):=(D0.refl H nx).nw _;refine B1 (m:=ds.length) (fun m L H' nx'=>∃(E:Nat) (o:List Nat),L=[.int .u64 (E:Int),O8 ((m:Int)-1)]/\m<=ds.length/\E<18446744073709551616/\(∃ W',val (ds.drop m)=E%4294967296+4294967296*W')/\o.length=ds.length/\U14 o /\
  val (o.drop m)=val (ds.drop m)/2^s/\J0 H' nx=O7 (K12 o)/\D0 H nx H' nx'/\nx<nx') ?_
  ⟨0,aF ds.length 0,rfl,aD _,O0,⟨0,by rw[cM (aD _)];rfl⟩,O2,R72 _,by rw[cM (aD ds.length),cM O2];simp[val],Z11 _ _ _,a5,O0⟩
 rintro m ih L H1 a6 ⟨E,o,rfl,hm,hh,⟨W',hW⟩,Q,W,J,hg,hE,Z⟩ a4
 by_cases h0:m=0
 .subst h0
  have e2:¬ (0:Int)<=((0:Nat):Int)-1:=O0;simp only[W0,e2];rw[List.drop_zero,List.drop_zero] at J;exact⟨Z,hE,o,hg,Q,W,J⟩
 .have e2:(0:Int)<=(m:Int)-1:=O0
  have e4:((m:Int)-1).toNat=m-1:=O0;obtain⟨x,hx⟩:∃ x,ds[m-1]? = some x:=⟨_,aE O0⟩
  have a0:=h.small.get hx;obtain⟨bA,oA,V63,rfl,_,U,a2⟩:=(h.sl.ext hE).open (i:=m-1) (by rw[E1];omega);have gA:=a2 _ _ (Q3 hx);have O:E%4294967296*4294967296+x<18446744073709551616:=O0;have a1:(E%4294967296*4294967296+x)/2^s%4294967296<4294967296:=eZ _ O0;simp(disch:=omega)only[W0,e2,e4,X3 U,gA,Q108,U22 _ (show x<18446744073709551616 by omega),N76 (a:=E%4294967296) (b:=x) _ O0 a0,R90 (a:=E%4294967296*4294967296+x) (n:=s) _ O,G34,
   hg,E1,V10 (l:=o) (i:=m-1) (x:=(E%4294967296*4294967296+x)/2^s%4294967296) (show m-1<o.length by omega),show m-1+1<=o.length by omega]
  refine a4 (m-1) _ _ _ O0 ⟨E%4294967296*4294967296+x,o.set (m-1) ((E%4294967296*4294967296+x)/2^s%4294967296),by congr 3;omega,O0,O,⟨val (ds.drop m),?_⟩,by simp[Q],U39 W a1,?_,Z11 _ _ _,hE.h0,Z⟩
  .rw[D72 hx,show m-1+1=m by omega]
   omega
  .have a3:(o.set (m-1) ((E%4294967296*4294967296+x)/2^s%4294967296))[m-1]? = some ((E%4294967296*4294967296+x)/2^s%4294967296):=by rw[dG O0]
   rw[D72 a3,D72 hx,C86,show m-1+1=m by omega,J];rcases D102 (x:=x) V hW with e | e
   .rw[e,show x+4294967296*(E%4294967296)=E%4294967296*4294967296+x by omega]
   .omega
end Go.Proofs.YtoiioigihocgbaaGreatDoor
namespace Go.Clo
theorem J103{a:Nat}(k:VP)(h:0<a)(h2:a<18446744073709551616):D10 .sub (.int .u64 (a:Int)) (.int .u64 1) k=k (.int .u64 ((a-1:Nat):Int)):=by
 have:=Z76 (a:=a) (b:=1) k h2 O0;rw[show((1:Nat):Int)=1 from rfl] at this;rw[this,show(a+18446744073709551616-1)%18446744073709551616=a-1 by omega]
theorem C104{P ul vl U3 V2 g:Nat}(hP:0<P)(hu:ul<P)(hg:g*(vl+P*V2)<=ul+P*U3):g*V2<=U3:=by
 have h1:P*(g*V2)<=g*(vl+P*V2):=by
  rw[bJ,show P*(g*V2)=g*(P*V2) by ac_rfl];omega
 have h2:P*(g*V2)<P*(U3+1):=by rw[bJ];omega
 have:=Nat.lt_of_mul_lt_mul_left h2;omega
theorem N99{P ul vl U3 V2 g q:Nat}(hP:0<P)(hv:vl<P)(hq:ul+P*U3<(q+1)*(vl+P*V2))(hg:g*V2<=U3)(hb:g<=V2+1):g<=q+1:=by
 refine Nat.le_of_not_lt fun E => ?_
 have h1:(q+1)*(vl+P*V2)<=(g-1)*(vl+P*V2):=dS _ O0;have h2:(g-1)*(vl+P*V2)<=(g-1)*(P*(V2+1)):=bG _ (by rw[bJ];omega);have h3:P*(g*V2)<=P*U3:=bG _ hg;have h4:P*(g*V2)<P*((g-1)*(V2+1)):=by
  rw[show P*((g-1)*(V2+1))=(g-1)*(P*(V2+1)) by ac_rfl];omega
 have h5:=Nat.lt_of_mul_lt_mul_left h4;obtain⟨g',rfl⟩:∃ g',g=g'+1:=⟨g-1,O0⟩
 rw[Nat.add_sub_cancel,bJ,dM] at h5;omega
theorem Z104{vs:List Nat}{n v0 v1:Nat}(hl:vs.length=n+2)(h0:vs[n]? = some v0)(h1:vs[n+1]? = some v1):val vs=val (vs.take n)+4294967296^n*(v1*4294967296+v0):=by
 have e:=V73 h0;rw[D72 h1,cM O0,val] at e;rw[e];congr 2;omega
theorem V104{us:List Nat}{n u0 u1 u2 T:Nat}(hl:us.length=n+3)(h0:us[n]? = some u0)(h1:us[n+1]? = some u1)(h2:us[n+2]? = some u2)(hT:T=u2*4294967296+u1):val us=val (us.take n)+4294967296^n*(T*4294967296+u0):=by
 subst hT;have e:=V73 h0;rw[D72 h1,D72 h2,cM O0,val] at e;rw[e];congr 2;omega
theorem D100{a b:Nat}(h:a<b):(a:Int)<(b:Int):=Int.ofNat_lt.2 h
theorem E99{a b:Nat}(h:¬ a<b):¬ (a:Int)<(b:Int):=fun h2=>h (Int.ofNat_lt.1 h2)
end Go.Clo
namespace Go.Proofs.YtoiioigihocgbaaGreatDoor
open Go.Clo
theorem M105{A C:Option Addr}{us vs:List Nat}{n cA cC:Nat}{H:Y0}{nx:Nat}(hu:Dg H nx A cA us)(hv:Dg H nx C cC vs)(aw:vs.length=n+2)(ax:us.length=n+3)(hn:n<900000){v1:Nat}(a7:vs[n+1]? = some v1)(bu:2147483648<=v1)(aj:val us<val vs*4294967296):Q2 gQ 131 [.slice A (n+3) cA,.slice C (n+2) cC] H nx fun r H' nx'=>∃ g:Nat,r = .int .u64 (g:Int)/\val us/val vs<=g/\g<=val us/val vs+1/\g<=4294967296/\H=H'/\nx<=nx':=by
 refine spec131 ?_;unfold F131;obtain⟨v0,a9⟩:∃ v0,vs[n]? = some v0:=⟨_,aE O0⟩
 obtain⟨u0,aa⟩:∃ u0,us[n]? = some u0:=⟨_,aE O0⟩
 obtain⟨u1,a4⟩:∃ u1,us[n+1]? = some u1:=⟨_,aE O0⟩
 obtain⟨u2,ab⟩:∃ u2,us[n+2]? = some u2:=⟨_,aE O0⟩
 have bx:=hv.small.get a9;have bv:=hv.small.get a7;have aq:=hu.small.get aa;have b4:=hu.small.get a4;have ae:=hu.small.get ab;have eV:=Z104 aw a9 a7;obtain⟨T,hT⟩:∃ T,T=u2*4294967296+u1:=⟨_,rfl⟩
 have eU:=V104 ax aa a4 ab hT;have tV:=Z48 hv.small n;have tU:=Z48 hu.small n;obtain⟨bA,oA,V63,rfl,_,Q,a6⟩:=hu.sl.open (i:=n) (by rw[E1];omega);obtain⟨bC,oC,bf,rfl,_,O,au⟩:=hv.sl.open (i:=n) (by rw[E1];omega);have ao:=a6 _ _ (Q3 aa);have ba:=a6 _ _ (Q3 a4);have av:=a6 _ _ (Q3 ab);have ak:=au _ _ (Q3 a9);have ac:=au _ _ (Q3 a7);have hP:0<4294967296^n:=Nat.pow_pos O0;generalize c4:4294967296^n=P at *
 generalize bt:val (us.take n)=ul at *
 generalize bg:val (vs.take n)=vl at *
 have W:0<val vs:=by rw[eV];have:=Nat.mul_pos hP (show 0<v1*4294967296+v0 by omega);omega
 generalize hq:val us/val vs=q;have an:q*val vs<=val us:=by rw[<- hq];exact Nat.div_mul_le_self _ _
 have ap:val us<(q+1)*val vs:=by
  rw[<- hq];have:=Nat.lt_div_mul_add W (a:=val us);rw[dM];omega
 have c6:q<4294967296:=by
  rw[<- hq];exact(Nat.div_lt_iff_lt_mul W).2 (by rw[cG];exact aj)
 have U:∀ g,g*(v1*4294967296+v0)=g*v1*4294967296+g*v0:=fun g=>by rw[bJ g (v1*4294967296) v0,<- eE g v1 4294967296]
 have Z:∀ g r,g*v1+r=T->T*4294967296=g*v1*4294967296+r*4294967296:=fun g r h=>by rw[<- h,dM (g*v1) r 4294967296]
 have al:∀ g,g<=q->g*(v1*4294967296+v0)<=T*4294967296+u0:=by
  intro g hg;refine C104 (vl:=vl) hP tU ?_;rw[<- eV,<- eU];exact bK (dS _ hg) an
 have bk:u2<=v1:=by
  refine Nat.le_of_not_lt fun bh => ?_
  rw[eU,eV] at aj;have h1:(vl+P*(v1*4294967296+v0))*4294967296<P*(v1*4294967296+v0+1)*4294967296:=fU (by
   have e0:P*(v1*4294967296+v0+1)=P*(v1*4294967296+v0)+P:=by rw[bJ P (v1*4294967296+v0) 1,eQ]
   omega) O0
  have h2:P*((v1*4294967296+v0+1)*4294967296)<=P*(T*4294967296+u0):=bG _ O0;rw[<- eE] at h2;omega
 have c1:((n+2:Nat):Int)-1=((n+1:Nat):Int):=O0;have c2:((n+2:Nat):Int)-2=((n:Nat):Int):=O0;have bc:T<18446744073709551616:=O0;have az:∀ k:VP,D10 .or (.int .u64 ((u2*4294967296:Nat):Int)) (.int .u64 (u1:Int)) k=k (.int .u64 (T:Int)):=fun k=>by rw[hT];exact N76 (a:=u2) (b:=u1) k ae b4
 have b8:T/v1<=4294967297:=by
  have:T/v1<4294967298:=(Nat.div_lt_iff_lt_mul O0).2 O0;omega
 simp(disch:=omega)only[W0,c1,c2,X3 Q,av,U22 _ (show u2<18446744073709551616 by omega),E79 _ ae,ba,U22 _ (show u1<18446744073709551616 by omega),az,X3 O,ac,U22 _ (show v1<18446744073709551616 by omega),
  Y98 (a:=T) (b:=v1) _ bc O0,B90 (a:=T) (b:=v1) _ O0]
 refine B1 (m:=T/v1) (fun m L H' nx'=>∃ rest:Nat,L=[.int .u64 (m:Int),.int .u64 (rest:Int)]/\m*v1+rest=T/\q<=m/\m<=4294967297/\rest<4294967296/\H=H'/\nx<=nx') ?_
  ⟨T%v1,rfl,by rw[cG];exact Nat.div_add_mod T v1,?_,b8,by have:=eZ T (show v1 > 0 by omega);omega,rfl,O0⟩
 rotate_left
 .have h1:=al q (aD q)
  have h2:q*v1<=T:=by
   have h3:=U q;omega
  exact(Nat.le_div_iff_mul_le O0).2 h2
 rintro m ih L _ nx2 ⟨rest,rfl,a8,ay,bz,E,rfl,bw⟩ b5;have a0:∀ g J,g<=4294967296->g*v1+J=T->g*v0<=J*4294967296+u0->g<=q+1:=by
  intro g J hg he hc;refine N99 (P:=P) (ul:=ul) (vl:=vl) (U3:=T*4294967296+u0) (V2:=v1*4294967296+v0) hP tV (by rw[<- eV,<- eU];exact ap) ?_ O0;have e1:=U g;have e2:=Z g J he;omega
 have step:q<m->∀(a1:Nat),nx<=a1->D10 .sub (.int .u64 (m:Int)) (.int .u64 1) (fun ag=>D10 .add (.int .u64 (rest:Int)) (.int .u64 (v1:Int)) fun ah=>D10 .gtr ah (.int .u64 4294967295) fun bd=>K2 bd
   (∃ g:Nat,ag = .int .u64 (g:Int)/\q<=g/\g<=q+1/\g<=4294967296/\H=H/\nx<=a1) (ih [ag,ah] H a1)):=by
  intro a2 a1 a3;rw[J103 _ O0 O0,B74 _ O0,G48];have he:(m-1)*v1+(rest+v1)=T:=by
   obtain⟨m',rfl⟩:∃ m',m=m'+1:=⟨m-1,O0⟩
   rw[Nat.add_sub_cancel];rw[dM m' 1 v1] at a8;omega
  by_cases bo:4294967295<rest+v1
  .have a5:decide ((4294967295:Int)<((rest+v1:Nat):Int))=true:=decide_eq_true O0
   rw[a5,C46,if_pos rfl];refine⟨m-1,rfl,O0,?_,O0,rfl,a3⟩;refine a0 (m-1) (rest+v1) O0 he ?_;have h1:(m-1)*v0<=4294967296*4294967295:=eL O0 O0;omega
  .have a5:decide ((4294967295:Int)<((rest+v1:Nat):Int))=false:=decide_eq_false O0
   rw[a5,C46,if_neg O2];exact b5 (m-1) _ _ _ O0 ⟨rest+v1,rfl,he,O0,O0,O0,rfl,a3⟩
 by_cases c3:4294967295<m
 .have V:(4294967295:Int)<(m:Int):=O0
  simp only[W0,N13,V];have h1:=step O0 (nx2+22) O0;simp only[true_and] at h1;simp only[W0,X3 O,ac,U22 _ (show v1<18446744073709551616 by omega)];exact h1
 .have V:¬ (4294967295:Int)<(m:Int):=O0
  have ai:m*v0<18446744073709551616:=by
   have:m*v0<=4294967295*4294967295:=eL O0 O0;omega
  by_cases hc:rest*4294967296+u0<m*v0
  .have ad:=D100 hc
   simp only[W0,N13,V,X3 O,ak,U22 _ (show v0<18446744073709551616 by omega),U85 (a:=m) (b:=v0) _ ai,E79 (a:=rest) _ E,X3 Q,ao,U22 _ (show u0<18446744073709551616 by omega),N76 (a:=rest) (b:=u0) _ E aq,ad,
    ac,U22 _ (show v1<18446744073709551616 by omega)]
   have a2:q<m:=by
    refine Nat.lt_of_not_le fun b3 => ?_
    have h1:=al m b3;have e1:=U m;have e2:=Z m rest a8;omega
   have h1:=step a2 (nx2+22) O0;simp only[true_and] at h1;exact h1
  .have ad:=E99 hc
   simp only[W0,N13,V,X3 O,ak,U22 _ (show v0<18446744073709551616 by omega),U85 (a:=m) (b:=v0) _ ai,E79 (a:=rest) _ E,X3 Q,ao,U22 _ (show u0<18446744073709551616 by omega),N76 (a:=rest) (b:=u0) _ E aq,ad];exact⟨m,rfl,ay,a0 m rest O0 a8 O0,O0,O0⟩
end Go.Proofs.YtoiioigihocgbaaGreatDoor
namespace Go.Clo
theorem U80{R:List Nat}{o i x:Nat}:(R.set (o+i) x).drop o=(R.drop o).set i x:=by
 apply dH;intro j;rw[dB]
 by_cases h:j=i
 .subst h
  by_cases hl:o+j<R.length
  .rw[dG hl,dG O5]
  .rw[aT O5,aT O5]
 .rw[bL O0,bL O0,dB]
theorem M106{a b:Nat}(k:VP):D10 .add (O9 (a:Int)) (O9 (b:Int)) k=k (O9 (((a+b)%4294967296:Nat):Int)):=by
 rw[Z63,<- Int.natCast_add,N96]
theorem E82{R:List Nat}{o i x:Nat}(h:R[o+i]? = some x):val ((R.drop o).take (i+1))=val ((R.drop o).take i)+4294967296^i*x:=G20 (by rw[dB];exact h)
theorem V92{x y c:Nat}(hx:x<4294967296)(E:y+c<=4294967296):∃ q r,((x+18446744073709551616-y)%18446744073709551616+18446744073709551616-c)%18446744073709551616%4294967296=q /\
  ((x+18446744073709551616-y)%18446744073709551616+18446744073709551616-c)%18446744073709551616/9223372036854775808=r/\((x+18446744073709551616-y)%18446744073709551616+18446744073709551616-c)%18446744073709551616<18446744073709551616/\q<4294967296/\r<=1/\x+4294967296*r=q+y+c:=by
 by_cases h:y+c<=x
 .exact⟨x-y-c,0,O0,O0,O0,O0,O0,O0⟩
 .exact⟨x+4294967296-y-c,1,O0,O0,O0,O0,O0,O0⟩
end Go.Clo
namespace Go.Proofs.YtoiioigihocgbaaGreatDoor
open Go.Clo
theorem Q99{b o bC oC cu cC n f:Nat}{R vs:List Nat}{V:List Value}{H:Y0}{nx:Nat}(hg:J0 H b=O7 (K12 R))(hR:U14 R)(an:o+n+1<=R.length)(a6:Q5 H bC=some V)(ah:bC≠b)(ai:∀ j v,(K12 vs)[j]? = some v->V[oC+j]? = some v)(ab:U14 vs)(ao:vs.length=n)(hf:f<=4294967296)(hn:n<900000):
  Q2 gQ 132 [.slice (some ⟨b,o,none⟩) (n+1) cu,.slice (some ⟨bC,oC,none⟩) n cC,.int .u64 (f:Int)] H nx fun r H' nx'=>nx=nx'/\(∀ i,i≠b->J0 H' i=J0 H i) /\
   ∃(R':List Nat) (w:Nat),J0 H' b=O7 (K12 R')/\R'.length=R.length/\U14 R'/\(∀ q,q<o\/o+n+1<=q->R'[q]? = R[q]?)/\w<=1/\r = .bool (decide (w=1)) /\
    val ((R'.drop o).take (n+1))+f*val vs=val ((R.drop o).take (n+1))+4294967296^(n+1)*w:=by
 refine spec132 ?_;unfold F132;simp(disch:=omega)only[W0];refine B1 (m:=n) (fun m L H' nx'=>∃(i E J:Nat) (R1:List Nat),m+i=n/\L=[.int .u64 (E:Int),.int .u64 (J:Int),O8 (i:Int)]/\E<4294967296/\J<=1/\R1.length=R.length/\U14 R1/\(∀ q,q<o\/o+i<=q->R1[q]? = R[q]?) /\
  val ((R1.drop o).take i)+f*val (vs.take i)=val ((R.drop o).take i)+4294967296^i*(E+J)/\J0 H' b=O7 (K12 R1)/\(∀ i,i≠b->J0 H' i=J0 H i)/\nx=nx') ?_
  ⟨0,0,0,R,rfl,rfl,O0,O0,rfl,hR,fun _ _=>rfl,by simp[val],hg,fun _ _=>rfl,rfl⟩
 rintro m ih L H1 _ ⟨i,E,J,R1,hm,rfl,aj,al,W,a8,O,a9,a5,a2,rfl⟩ ad
 by_cases hi:i<n
 case neg=>
  have Z:¬ (i:Int)<(n:Int):=O0;have ae:i=n:=O0;subst ae;obtain⟨x,hx⟩:∃ x,R[o+i]? = some x:=⟨_,aE O0⟩
  have a1:R1[o+i]? = some x:=by rw[O _ (.inr (aD _))];exact hx
  have U:=hR.get hx;have gX:=Q3 a1;obtain⟨q,r,hq,hr,hE,Q,a0,ac⟩:=V92 (x:=x) (y:=E) (c:=J) U O0;have dn:decide ((r:Int)≠0)=decide (r=1):=by
   have:r=0\/r=1:=O0;rcases this with rfl | rfl<;>rfl
  simp only[W0,Z,a5,gX,U22 _ (show x<18446744073709551616 by omega),Z76 (a:=x) (b:=E) _ O0 O0,Z76 (a:=(x+18446744073709551616-E)%18446744073709551616) (b:=J) _ O0 O0,G34,hq,X85 _ hE,hr,dn,
   E1,V10 (l:=R1) (i:=o+i) (x:=q) (show o+i<R1.length by omega),show o+i+1<=R1.length by omega]
  refine⟨fun j hj=>by rw[Z1 _ hj];exact a2 j hj,R1.set (o+i) q,r,rfl,by simp[W],U39 a8 Q,fun j hj => ?_,a0,rfl,?_⟩
  .rw[bL O0];exact O j O0
  .rw[U80,U72 O5,E82 hx,dR,eE]
   rw[X25 (ds:=vs) O0] at a9;have e1:4294967296^i*x+4294967296^i*(4294967296*r)=4294967296^i*q+4294967296^i*(E+J):=by
    rw[<- bJ (4294967296^i) x,<- bJ (4294967296^i) q];congr 1;omega
   omega
 have Z:(i:Int)<(n:Int):=O0;obtain⟨y,hy⟩:∃ y,vs[i]? = some y:=⟨_,aE O0⟩
 obtain⟨x,hx⟩:∃ x,R[o+i]? = some x:=⟨_,aE O0⟩
 have a1:R1[o+i]? = some x:=by rw[O _ (.inr (aD _))];exact hx
 have U:=hR.get hx;have ak:=ab.get hy;have gX:=Q3 a1;have gY:=ai _ _ (Q3 hy);have a3:Q5 H1 bC=some V:=by rw[Q5,a2 _ ah];exact a6
 have ag:f*y<=4294967296*4294967295:=eL hf O0;generalize hp:f*y=p at ag;obtain⟨t,ht⟩:∃ t,t=E+p:=⟨_,rfl⟩
 have a4:t<18446744073709551616:=O0;have aa:∀ k:VP,D10 .add (.int .u64 (E:Int)) (.int .u64 (p:Int)) k=k (.int .u64 (t:Int)):=fun k=>by rw[ht];exact B74 (a:=E) (b:=p) k O0
 have a7:∀ k:VP,D10 .mul (.int .u64 (f:Int)) (.int .u64 (y:Int)) k=k (.int .u64 (p:Int)):=fun k=>by rw[<- hp];exact U85 (a:=f) (b:=y) k O0
 obtain⟨q,r,hq,hr,hE,Q,a0,ac⟩:=V92 (x:=x) (y:=t%4294967296) (c:=J) U O0;simp(disch:=omega)only[W0,Z,X3 a3,gY,U22 _ (show y<18446744073709551616 by omega),a7,aa,a5,gX,U22 _ (show x<18446744073709551616 by omega),D103 (a:=t) _ a4,Z76 (a:=x) (b:=t%4294967296) _ O0 O0,
  Z76 (a:=(x+18446744073709551616-t%4294967296)%18446744073709551616) (b:=J) _ O0 O0,G34,hq,X85 _ hE,hr,D74 _ a4,
  E1,V10 (l:=R1) (i:=o+i) (x:=q) (show o+i<R1.length by omega),show o+i+1<=R1.length by omega]
 refine ad (m-1) _ _ _ O0 ⟨i+1,t/4294967296,r,R1.set (o+i) q,O0,O2,O0,a0,by simp[W],U39 a8 Q,fun j hj => ?_,?_,Z11 _ _ _,fun j hj=>by rw[Z1 _ hj];exact a2 j hj,rfl⟩
 .rw[bL O0];exact O j O0
 .rw[U80,U72 O5,E82 hx,G20 hy,dR,eE (4294967296^i) 4294967296]
  have e1:f*(val (vs.take i)+4294967296^i*y)=f*val (vs.take i)+4294967296^i*p:=by
   rw[bJ f (val (vs.take i)),<- hp];congr 1
   ac_rfl
  have e2:4294967296^i*x+4294967296^i*(4294967296*(t/4294967296+r))=4294967296^i*q+4294967296^i*p+4294967296^i*(E+J):=by
   rw[<- bJ (4294967296^i) x,<- bJ (4294967296^i) q,<- bJ (4294967296^i) (q+p)];congr 1;have:=Nat.mod_add_div t 4294967296;rw[bJ 4294967296 (t/4294967296) r];omega
  rw[e1];omega
theorem M99{b o bC oC cu cC n:Nat}{R vs:List Nat}{O:List Value}{H:Y0}{nx:Nat}(hg:J0 H b=O7 (K12 R))(hR:U14 R)(ag:o+n+1<=R.length)(a5:Q5 H bC=some O)(a6:bC≠b)(ab:∀ j v,(K12 vs)[j]? = some v->O[oC+j]? = some v)(a7:U14 vs)(ah:vs.length=n)(hn:n<900000):
  Q2 gQ 133 [.slice (some ⟨b,o,none⟩) (n+1) cu,.slice (some ⟨bC,oC,none⟩) n cC] H nx fun r H' nx'=>nx<=nx'/\(∀ i,i≠b->J0 H' i=J0 H i) /\
   ∃(R':List Nat) (w:Nat),J0 H' b=O7 (K12 R')/\R'.length=R.length/\U14 R'/\(∀ q,q<o\/o+n+1<=q->R'[q]? = R[q]?) /\
    val ((R'.drop o).take (n+1))+4294967296^(n+1)*w=val ((R.drop o).take (n+1))+val vs:=by
 refine spec133 ?_;unfold F133;simp(disch:=omega)only[W0];refine B1 (m:=n) (fun m L H' nx'=>∃(i E:Nat) (R1:List Nat),m+i=n/\L=[.int .u64 (E:Int),O8 (i:Int)]/\E<=1/\R1.length=R.length/\U14 R1/\(∀ q,q<o\/o+i<=q->R1[q]? = R[q]?) /\
  val ((R1.drop o).take i)+4294967296^i*E=val ((R.drop o).take i)+val (vs.take i)/\J0 H' b=O7 (K12 R1)/\(∀ i,i≠b->J0 H' i=J0 H i)/\nx<=nx') ?_
  ⟨0,0,R,rfl,rfl,O0,rfl,hR,fun _ _=>rfl,by simp[val],hg,fun _ _=>rfl,aD _⟩
 rintro m ih L H1 ai ⟨i,E,R1,hm,rfl,ad,Q,a0,J,a2,a1,Z,a8⟩ a9
 by_cases hi:i<n
 case neg=>
  have U:¬ (i:Int)<(n:Int):=O0;have aa:i=n:=O0;subst aa;obtain⟨x,hx⟩:∃ x,R[o+i]? = some x:=⟨_,aE O0⟩
  have W:R1[o+i]? = some x:=by rw[J _ (.inr (aD _))];exact hx
  have a4:=hR.get hx;have gX:=Q3 W;have ec:E%4294967296=E:=O0;simp only[W0,U,a1,gX,G34,ec,M106,E1,V10 (l:=R1) (i:=o+i) (x:=(x+E)%4294967296) (show o+i<R1.length by omega),show o+i+1<=R1.length by omega];refine⟨a8,fun j hj=>by rw[Z1 _ hj];exact Z j hj,R1.set (o+i) ((x+E)%4294967296),(x+E)/4294967296,rfl,by simp[Q],U39 a0 O0,fun j hj => ?_,?_⟩
  .rw[bL O0];exact J j O0
  .rw[U80,U72 O5,E82 hx,dR,eE]
   rw[X25 (ds:=vs) O0] at a2;have e1:4294967296^i*((x+E)%4294967296)+4294967296^i*(4294967296*((x+E)/4294967296))=4294967296^i*x+4294967296^i*E:=by
    rw[<- bJ (4294967296^i) ((x+E)%4294967296),Nat.mod_add_div,bJ (4294967296^i) x]
   omega
 have U:(i:Int)<(n:Int):=O0;obtain⟨y,hy⟩:∃ y,vs[i]? = some y:=⟨_,aE O0⟩
 obtain⟨x,hx⟩:∃ x,R[o+i]? = some x:=⟨_,aE O0⟩
 have W:R1[o+i]? = some x:=by rw[J _ (.inr (aD _))];exact hx
 have a4:=hR.get hx;have ae:=a7.get hy;have gX:=Q3 W;have gY:=ab _ _ (Q3 hy);have V:Q5 H1 bC=some O:=by rw[Q5,Z _ a6];exact a5
 obtain⟨t,ht⟩:∃ t,t=E+(x+y):=⟨_,rfl⟩
 have ac:t<18446744073709551616:=O0;have a3:∀ k:VP,D10 .add (.int .u64 (E:Int)) (.int .u64 ((x+y:Nat):Int)) k=k (.int .u64 (t:Int)):=fun k=>by rw[ht];exact B74 (a:=E) (b:=x+y) k O0
 simp(disch:=omega)only[W0,U,X3 V,gY,U22 _ (show y<18446744073709551616 by omega),a1,gX,U22 _ (show x<18446744073709551616 by omega),B74 (a:=x) (b:=y) _ O0,a3,G34,D74 _ ac,
  E1,V10 (l:=R1) (i:=o+i) (x:=t%4294967296) (show o+i<R1.length by omega),show o+i+1<=R1.length by omega]
 refine a9 (m-1) _ _ _ O0 ⟨i+1,t/4294967296,R1.set (o+i) (t%4294967296),O0,O2,O0,by simp[Q],U39 a0 O0,fun j hj => ?_,?_,Z11 _ _ _,fun j hj=>by rw[Z1 _ hj];exact Z j hj,O0⟩
 .rw[bL O0];exact J j O0
 .rw[U80,U72 O5,E82 hx,G20 hy,dR,eE (4294967296^i) 4294967296]
  have e2:4294967296^i*(t%4294967296)+4294967296^i*(4294967296*(t/4294967296))=4294967296^i*E+4294967296^i*x+4294967296^i*y:=by
   rw[<- bJ (4294967296^i) (t%4294967296),Nat.mod_add_div,ht,bJ (4294967296^i) E,bJ (4294967296^i) x];omega
  omega
end Go.Proofs.YtoiioigihocgbaaGreatDoor
namespace Go.Clo
theorem V75{a n:Nat}(h:a<=n):Y13 (some (O8 (a:Int))) n=some a:=by
 show(match (cD .i64 (Int.ofNat a)) with | .int _ (.ofNat i)=>cond (dD i n) (some i) none | _=>none)=_;simp[V6 h]
theorem Y109{H:Y0}{b o n c l h:Nat}{row:List Value}(hg:J0 H b=O7 row)(hl:l<c)(E:l<=h)(hh:h<=c)(k:VP):
  wSl (.slice (some ⟨b,o,none⟩) n c) 1 (some (O8 (l:Int))) (some (O8 (h:Int))) none H k=k (.slice (some ⟨b,o+l,none⟩) (h-l) (c-l)):=by
 have e:B26 (some ⟨b,o,none⟩) n c 1 (some (O8 (l:Int))) (some (O8 (h:Int))) none false=some (.slice (some ⟨b,o+l,none⟩) (h-l) (c-l)):=by
  have e1:Y13 none c=some c:=rfl;have e2:hiA (some (O8 (h:Int))) none n c=some h:=V75 hh;have e3:loA (some (O8 (l:Int))) h=some l:=V75 E;simp only[B26,e1,e2,e3,K43 (show c≠l by omega),V6 (show l<=c by omega)];simp
 unfold wSl;dsimp only;rw[Y4,hg];simp only[aN,slB];rw[show N8 (.cells row 0) o c 1=some false from rfl];dsimp only;rw[e];exact E7 _ _
theorem Q101{H:Y0}{b o n c h:Nat}{row:List Value}(hg:J0 H b=O7 row)(hh:h<=c)(k:VP):
  wSl (.slice (some ⟨b,o,none⟩) n c) 1 none (some (O8 (h:Int))) none H k=k (.slice (some ⟨b,o,none⟩) h c):=by
 have e:B26 (some ⟨b,o,none⟩) n c 1 none (some (O8 (h:Int))) none false=some (.slice (some ⟨b,o,none⟩) h c):=by
  have e1:Y13 none c=some c:=rfl;have e2:hiA (some (O8 (h:Int))) none n c=some h:=V75 hh;have e3:loA none h=some 0:=rfl;simp only[B26,e1,e2,e3,V6 (Nat.zero_le c)]
  cases bR c 0<;>simp
 unfold wSl;dsimp only;rw[Y4,hg];simp only[aN,slB];rw[show N8 (.cells row 0) o c 1=some false from rfl];dsimp only;rw[e];exact E7 _ _
theorem R92(ds:List Nat)(j:Nat):val ds=val (ds.take j)+4294967296^j*val (ds.drop j)\/ds.length<j:=by
 by_cases h:j<=ds.length
 .refine .inl ?_
  have:=G77 (ds.take j) (ds.drop j);rw[List.take_append_drop,cK,Nat.min_eq_left h] at this;exact this
 .exact .inr O0
theorem M81{ds:List Nat}{j:Nat}(h:j<=ds.length):val ds=val (ds.take j)+4294967296^j*val (ds.drop j):=(R92 ds j).resolve_right O0
theorem E101{R R':List Nat}{j:Nat}(h:∀ q,q<j->R'[q]? = R[q]?):R'.take j=R.take j:=by
 apply dH;intro q;rw[aX,aX]
 split
 .exact h q O1
 .rfl
theorem G101{R R':List Nat}{j:Nat}(h:∀ q,j<=q->R'[q]? = R[q]?):R'.drop j=R.drop j:=by
 apply dH;intro q;rw[dB,dB];exact h _ O0
theorem Z101{Q D g w P P':Nat}(hD:0<D)(O:D<Q)(J:P'<Q)(U:P/D<=g)(V:g<=P/D+1)(hw:w<=1)(h:P'+g*D=P+Q*w):(w=0->g=P/D/\P'=P%D)/\(w=1->g=P/D+1/\P'+D=P%D+Q):=by
 have E:=Nat.div_add_mod P D;have hm:=eZ P hD;rw[cG] at E;have hg:g=P/D\/g=P/D+1:=O0;generalize P/D=q at *
 generalize P%D=r at *
 constructor
 .rintro rfl
  rcases hg with rfl | rfl
  .exact⟨rfl,O0⟩
  .rw[dM,Nat.one_mul] at h;omega
 .rintro rfl
  rcases hg with rfl | rfl
  .omega
  .rw[dM,Nat.one_mul] at h;exact⟨rfl,O0⟩
end Go.Clo
namespace Go.Proofs.YtoiioigihocgbaaGreatDoor
open Go.Clo
theorem M80{b o c:Nat}{ds:List Nat}{row:List Nat}{H:Y0}{nx:Nat}(hb:b<nx)(hg:J0 H b=O7 (K12 row))(hp:∀(i d:Nat),ds[i]? = some d->row[o+i]? = some d)(hs:U14 ds)(hc:ds.length<=c):Dg H nx (some ⟨b,o,none⟩) c ds:=
 ⟨fun i v hv=>by
  simp only[K12,cP,bU] at hv;obtain⟨d,hd,rfl⟩:=hv;exact⟨b,o,_,rfl,hb,by rw[Q5,hg];rfl,Q3 (hp i d hd)⟩,SK.new hb hg,hs,hc⟩
theorem M98{A C:Option Addr}{a b n:Nat}{H:Y0}{nx:Nat}(hA:Dg H nx A (D11 a).length (D11 a))(hC:Dg H nx C (D11 b).length (D11 b))(hn:(D11 b).length=n+2)(eh:b<=a)(hl:(D11 a).length<500000):
  Q2 gQ 118 [.slice A (D11 a).length (D11 a).length,.slice C (D11 b).length (D11 b).length] H nx fun r H' nx'=>D0 H nx H' nx'/\∃(bq br Lq Lr:Nat) (qs rs:List Nat),r = .tuple ⟨[.slice (some ⟨bq,0,none⟩) Lq Lq,.slice (some ⟨br,0,none⟩) Lr Lr]⟩ /\
   bq<nx'/\br<nx'/\J0 H' bq=O7 (K12 qs)/\J0 H' br=O7 (K12 rs)/\qs.length=Lq/\rs.length=Lr/\Lq<1000000/\Lr<1000000/\U14 qs/\U14 rs/\val qs=a/b/\val rs=a%b:=by
 refine spec118 ?_;unfold F118;have cn:(D11 b).length<=(D11 a).length:=by
  rcases aW (D11 a).length (D11 b).length with g | g
  .have:=X70 g;omega
  .exact g
 have a6:0<b:=by
  rcases cI b with e | e
  .subst e;rw[D20] at hn;simp at hn
  .exact e
 obtain⟨top,a4,bx,_⟩:=U76 a6;rw[hn,show n+2-1=n+1 by omega] at a4;have a3:=hC.small.get a4;have df:=V20 a;have cq:=V20 b;have di:=Q68 b;have d2:=E84 a6;have dl:=Q68 a;generalize D11 a=xs at *
 generalize D11 b=ys at *
 rw[hn] at cn di d2;rw[hn];obtain⟨ek,em,dz,e1,_,an,da⟩:=hC.sl.open (i:=n+1) (by rw[E1];omega);have gt:=da _ _ (Q3 a4);subst e1;have c1:((n+2:Nat):Int)-1=((n+1:Nat):Int):=O0;simp(disch:=omega)only[W0,Q0.val,c1,X3 an,gt];refine R0 (Y101 a3 H nx) ?_;rintro _ _ _ ⟨rfl,rfl,rfl⟩;have eo:=V80 (n:=top) (b:=32) a3;have e9:=C65 bx;obtain⟨s,dy⟩:∃ s,s=32-C14 top:=⟨_,rfl⟩
 have a8:s<32:=O0;rw[<- dy];simp only[U22 _ (show s<18446744073709551616 by omega)];have bu:=B84 (s:=s) hC O0 a8;rw[hn] at bu;refine R0 bu ?_;rintro _ H2 nx2 ⟨rfl,d7,d0,V0,cj,eb,cz,ct⟩;have dh:2^C14 top*2^s=4294967296:=by rw[<- Nat.pow_add,show C14 top+s=32 by omega]
 have bf:b=val (ys.take (n+1))+4294967296^(n+1)*top:=by
  have h0:=V73 a4;rw[cM O0,val,cq] at h0;exact h0
 have el:=Z48 hC.small (n+1);have b8:=C76 top;have au:=E76 bx;obtain⟨D,hD⟩:∃ D,D=b*2^s:=⟨_,rfl⟩
 have dg:0<4294967296^(n+1):=Nat.pow_pos O0;have ay:D<4294967296^(n+2):=by
  have h1:b<4294967296^(n+1)*2^C14 top:=by
   have h2:=bG (4294967296^(n+1)) (show top+1<=2^C14 top from b8);rw[bJ (4294967296^(n+1)) top 1,eQ] at h2;omega
  have h3:=fU h1 (aQ s);rw[eE,dh,<- dR,<- hD] at h3;exact h3
 have ea:4294967296^(n+1)*2147483648<=D:=by
  have h1:4294967296^(n+1)*2^(C14 top-1)<=b:=by
   have h2:=bG (4294967296^(n+1)) au;omega
  have h3:=dS (2^s) h1;rw[eE,<- Nat.pow_add,show C14 top-1+s=31 by omega,<- hD] at h3;exact h3
 have J:0<D:=by have:=Nat.mul_pos dg (show 0<2147483648 by omega);omega
 have ba:val V0=D:=by rw[ct,cq,hD]
 obtain⟨vs,ag⟩:∃ vs,vs=V0.take (n+2):=⟨_,rfl⟩
 have ad:vs.length=n+2:=by rw[ag];simp;omega
 have a1:U14 vs:=by rw[ag];exact K76 cz _
 have Z:val vs=D:=by
  have h1:=M81 (ds:=V0) (j:=n+2) O0;rw[<- ag,ba] at h1;have h0:val (V0.drop (n+2))=0:=by
   rcases cI (val (V0.drop (n+2))) with e | e
   .exact e
   .have:=bG (4294967296^(n+2)) (show 1<=val (V0.drop (n+2)) from e)
    omega
  rw[h0,Nat.mul_zero,eM] at h1;exact h1.symm
 obtain⟨v1,ck⟩:∃ v1,vs[n+1]? = some v1:=⟨_,aE O0⟩
 have aj:2147483648<=v1:=by
  have h1:D=val (vs.take (n+1))+4294967296^(n+1)*v1:=by
   have h0:=V73 ck;rw[cM O0,val,Z] at h0;exact h0
  have h2:=Z48 a1 (n+1);refine Nat.le_of_not_lt fun dv => ?_
  have h3:=bG (4294967296^(n+1)) (show v1+1<=2147483648 from dv);rw[bJ (4294967296^(n+1)) v1 1,eQ] at h3;omega
 have aa:∀ j v,(K12 vs)[j]? = some v->(K12 V0)[0+j]? = some v:=fun j v h=>by
  rw[ag,Q91,aX] at h
  split at h
  .rw[cF];exact h
  .cases h
 rw[Q101 cj O0];have e4:=hA.ext d0;refine R0 (B84 (s:=s) e4 O0 a8) ?_;rintro _ H3 E ⟨rfl,eg,cc,U0,de,bg,c8,ac⟩;rw[df] at ac;obtain⟨N,hN⟩:∃ N,N=a*2^s:=⟨_,rfl⟩
 rw[<- hN] at ac;have c2:((xs.length:Int)-((n+2:Nat):Int))=((xs.length-(n+2):Nat):Int):=O0;simp only[c2];rw[show(((xs.length-(n+2):Nat):Int)+1)=((xs.length-(n+2)+1:Nat):Int) by omega,M27 O0,C23];obtain⟨Lq,dr⟩:∃ Lq,Lq=xs.length-(n+2)+1:=⟨_,rfl⟩
 rw[<- dr];have cy:J0 (Go.Clo.hs H3 E (O7 (K12 (aF Lq 0)))) E=O7 (K12 (aF Lq 0)):=Z11 _ _ _;have d8:J0 (Go.Clo.hs H3 E (O7 (K12 (aF Lq 0)))) nx2=O7 (K12 U0):=by rw[gN _];exact de
 have bh:J0 (Go.Clo.hs H3 E (O7 (K12 (aF Lq 0)))) nx=O7 (K12 V0):=by rw[gN _,cc.get nx d7];exact cj
 have bo:D0 H nx (Go.Clo.hs H3 E (O7 (K12 (aF Lq 0)))) (E+1):=(d0.trans cc).nw _;generalize Go.Clo.hs H3 E (O7 (K12 (aF Lq 0)))=K at cy d8 bh bo ⊢;have e7:N<4294967296^Lq*D:=by
  have h1:a*2^s<4294967296^xs.length*2^s:=fU dl (aQ s);have h2:4294967296^Lq*(4294967296^(n+1)*2^s)<=4294967296^Lq*(b*2^s):=bG _ (dS _ d2);rw[<- eE,<- Nat.pow_add,show Lq+(n+1)=xs.length by omega,<- hD] at h2;omega
 refine B1 (m:=Lq) (fun m L H' nx'=>∃(U Q:List Nat),L=[O8 ((m:Int)-1)]/\m<=Lq/\U.length=xs.length+1/\U14 U/\Q.length=Lq/\U14 Q/\val U+4294967296^m*(val (Q.drop m)*D)=N/\val U<4294967296^m*D /\
  J0 H' nx2=O7 (K12 U)/\J0 H' E=O7 (K12 Q)/\(∀ i,i<E->i≠nx2->J0 H' i=J0 K i)/\E<nx') ?_
  ⟨U0,aF Lq 0,by congr 3;omega,aD _,bg,c8,O2,R72 _,by rw[cM O2,val];omega,by rw[ac];exact e7,d8,cy,fun _ _ _=>rfl,O0⟩
 rintro m ih L H4 a5 ⟨U,Q,rfl,hm,en,ao,bv,c7,O,ai,W,av,b5,aw⟩ du;have d1:∀(H5:Y0) (aq:Nat),E<aq->(∀ i,i<E->i≠nx2->J0 H5 i=J0 K i)->D0 H nx H5 aq:=fun H5 aq h1 h2=>⟨O0,fun i hi=>by rw[h2 i O0 O0];exact bo.get i hi⟩
 by_cases h0:m=0
 .subst h0
  have e2:¬ (0:Int)<=((0:Nat):Int)-1:=O0;simp only[W0,e2];rw[Q101 W O0];rw[Nat.pow_zero,Nat.one_mul] at ai O;rw[List.drop_zero] at O;have dm:val (U.take (n+2))=val U:=by
   have h1:=M81 (ds:=U) (j:=n+2) O0;rcases cI (val (U.drop (n+2))) with e | e
   .rw[e] at h1;omega
   .have:=bG (4294967296^(n+2)) (show 1<=val (U.drop (n+2)) from e)
    omega
  have dd:Dg H4 a5 (some ⟨nx2,0,none⟩) (xs.length+1) (U.take (n+2)):=M80 O0 W (fun i d h=>by
   rw[aX] at h
   split at h
   .rw[cF];exact h
   .cases h) (K76 ao _) O5
  have cg:=W93 (s:=s) dd O5 a8;rw[show(U.take (n+2)).length=n+2 by simp;omega] at cg;refine R0 cg ?_;rintro _ H5 aq ⟨rfl,db,cv,rs,ap,d9,ah,ak⟩;have d6:=aQ s;have b4:val U=(a%b)*2^s/\val Q=a/b:=by
   have h1:N/D=val Q:=by
    rw[<- O,Nat.add_mul_div_right _ _ J,Nat.div_eq_of_lt ai,cF]
   have h3:N%D=val U:=by
    rw[<- O,Nat.add_mul_mod_self_right,bV ai]
   rw[hN,hD] at h1 h3;rw[Nat.mul_div_mul_right _ _ d6] at h1;rw[Nat.mul_mod_mul_right] at h3;exact⟨h3.symm,h1.symm⟩
  refine⟨(d1 H4 a5 aw b5).trans cv,E,a5,Lq,n+2,Q,rs,rfl,O0,db,by rw[cv.get E aw];exact av,ap,bv,d9,O0,O0,c7,ah,b4.2,?_⟩;rw[ak,dm,b4.1,Nat.mul_div_cancel _ d6]
 have e2:(0:Int)<=(m:Int)-1:=O0;obtain⟨j,rfl⟩:∃ j,m=j+1:=⟨m-1,O0⟩
 have c3:(((j+1:Nat):Int)-1)=(j:Int):=O0;have c4:((j:Int)+((n+2:Nat):Int))=((j+(n+2):Nat):Int):=O0;have c5:(((j+(n+2):Nat):Int)+1)=((j+(n+2)+1:Nat):Int):=O0;have c6:j+(n+2)+1-j=n+3:=O0;have e3:(0:Int)<=(j:Int):=O0;simp(disch:=omega)only[W0,c3,c4,c5,e3];rw[Y109 W O0 O0 O0,c6,cF];have ec:0<4294967296^j:=Nat.pow_pos O0;have cf:=M81 (ds:=U) (j:=j) O0;have ae:val (U.drop j)<D*4294967296:=by
  refine Nat.lt_of_not_le fun dp => ?_
  have h1:=bG (4294967296^j) dp;rw[dR,eE,cG 4294967296 D] at ai;omega
 have V:val ((U.drop j).take (n+3))=val (U.drop j)/\val (U.drop (j+(n+3)))=0:=by
  have h1:=M81 (ds:=U.drop j) (j:=n+3) O5;rw[List.drop_drop] at h1;rcases cI (val (U.drop (j+(n+3)))) with e | e
  .rw[e] at h1;exact⟨O0,e⟩
  .exfalso
   have h3:D*4294967296<4294967296^(n+2)*4294967296:=fU ay O0;have h4:val (U.drop j)<4294967296^(n+3):=Nat.lt_trans ae h3;have h5:4294967296^(n+3)<=val (U.drop j):=by rw[h1];exact bK (Nat.le_mul_of_pos_right _ e) (Nat.le_add_left _ _)
   exact absurd h4 (Nat.not_lt.2 h5)
 have a7:J0 H4 nx=O7 (K12 V0):=by rw[b5 nx O0 O0];exact bh
 have bz:Dg H4 a5 (some ⟨nx2,j,none⟩) (xs.length+1-j) ((U.drop j).take (n+3)):=M80 O0 W (fun i d h=>by
  rw[aX] at h
  split at h
  .rw[dB] at h;exact h
  .cases h) (K76 (N80 ao _) _) O5
 have cd:Dg H4 a5 (some ⟨nx,0,none⟩) (n+2+1) vs:=M80 O0 a7 (fun i d h=>by
  rw[ag,aX] at h
  split at h
  .rw[cF];exact h
  .cases h) a1 O0
 refine R0 (M105 bz cd ad O5 O0 ck aj (by rw[V.1,Z];exact ae)) ?_;rintro _ _ ei ⟨g,rfl,ci,co,e8,rfl,ed⟩;rw[V.1,Z] at ci co;have dc:val (U.drop j)/D<4294967296:=(Nat.div_lt_iff_lt_mul J).2 (by rw[cG];exact ae);refine N5 (fun L H' nx'=>∃ U2:List Nat,L=[.int .u64 ((val (U.drop j)/D:Nat):Int)]/\U2.length=xs.length+1/\U14 U2/\val U2=val (U.take j)+4294967296^j*(val (U.drop j)%D) /\
  J0 H' nx2=O7 (K12 U2)/\(∀ i,i≠nx2->J0 H' i=J0 H4 i)/\a5<=nx') ?_ ?_
 .intro tj hj
  refine R0 (Q99 (b:=nx2) (o:=j) (n:=n+2) (f:=g) (vs:=vs) (oC:=0) W ao O0 (show Q5 H4 nx=some (K12 V0) by rw[Q5,a7];rfl) O0 aa a1 ad e8 O0) ?_;rintro _ H5 _ ⟨rfl,a9,R,w,ap,d9,ah,a0,hw,rfl,ak⟩;rw[show n+2+1=n+3 from rfl,V.1,Z] at ak;have d3:=Z48 (N80 ah j) (n+3);have dq:D<4294967296^(n+3):=Nat.lt_trans ay (Nat.pow_lt_pow_right O0 O0);obtain⟨dt,e5⟩:=Z101 J dq d3 ci co hw ak;have done:∀(R2:List Nat),R2.length=xs.length+1->(∀ q,q<j\/j+(n+3)<=q->R2[q]? = U[q]?)->val ((R2.drop j).take (n+3))=val (U.drop j)%D->val R2=val (U.take j)+4294967296^j*(val (U.drop j)%D):=by
   intro R2 ej cp e0;have h1:=M81 (ds:=R2) (j:=j) O0;have h2:=M81 (ds:=R2.drop j) (j:=n+3) O5;rw[List.drop_drop,G101 (R:=U) (R':=R2) (j:=j+(n+3)) (fun q hq=>cp q (.inr hq)),V.2,Nat.mul_zero,eM,e0] at h2;rw[h1,h2,E101 (R:=U) (R':=R2) (j:=j) (fun q hq=>cp q (.inl hq))]
  have bc:w=0\/w=1:=O0;rcases bc with rfl | rfl
  .obtain⟨al,bd⟩:=dt rfl
   simp only[W0,show decide ((0:Nat)=1)=false from rfl];refine hj _ _ _ ⟨R,by rw[al],O0,ah,done R O0 (fun q hq=>a0 q O0) bd,ap,a9,O0⟩
  .obtain⟨al,bd⟩:=e5 rfl
   have dk:0<g:=by rw[al];exact Nat.succ_pos _
   simp only[W0,J103 (a:=g) _ dk O0];have bk:Q5 H5 nx=some (K12 V0):=by rw[Q5,a9 nx O0,a7];rfl
   refine R0 (M99 (b:=nx2) (o:=j) (n:=n+2) (vs:=vs) (oC:=0) ap ah O0 bk O0 aa a1 ad O0) ?_;rintro _ H6 dx ⟨cu,a2,R2,w2,bt,ee,ax,ab,ca⟩;rw[show n+2+1=n+3 from rfl,Z,bd] at ca;have e6:=Z48 (N80 ax j) (n+3);have b3:=eZ (val (U.drop j)) J;have d5:val ((R2.drop j).take (n+3))=val (U.drop j)%D:=by
    have bc:w2=1:=by
     rcases aW w2 1 with e | e
     .obtain rfl:w2=0:=O0
      omega
     .rcases aW 1 w2 with e' | e'
      .have:=bG (4294967296^(n+3)) (show 2<=w2 from e')
       omega
      .omega
    subst bc;omega
   refine hj _ _ _ ⟨R2,by rw[al,Nat.add_sub_cancel],O0,ax,done R2 O0 (fun q hq=>by rw[ab q O0];exact a0 q O0) d5,bt,fun i hi=>by rw[a2 i hi];exact a9 i hi,O0⟩
 rintro L H6 dx ⟨U2,rfl,ce,c9,az,cx,a2,cu⟩;have bw:J0 H6 E=O7 (K12 Q):=by rw[a2 E O0];exact av
 have dn:val (U.drop j)/D%4294967296=val (U.drop j)/D:=bV dc;simp only[W0,G34,dn,bw,E1,V10 (l:=Q) (i:=j) (x:=val (U.drop j)/D) (show j<Q.length by omega),show j+1<=Q.length by omega];have b3:=eZ (val (U.drop j)) J;have ef:=Z48 ao j;refine du j _ _ _ O0 ⟨U2,Q.set j (val (U.drop j)/D),rfl,O0,ce,c9,by simp[bv],U39 c7 dc,?_,?_,by rw[gN _];exact cx,Z11 _ _ _,fun i hi d4=>by rw[gN _,a2 i d4];exact b5 i hi d4,O0⟩
 .have dw:(Q.set j (val (U.drop j)/D))[j]? = some (val (U.drop j)/D):=by rw[dG O0]
  rw[D72 dw,C86,az];have dj:=Nat.mod_add_div (val (U.drop j)) D;rw[cf] at O;rw[<- O,dR,dM];have h1:4294967296^j*val (U.drop j)=4294967296^j*(val (U.drop j)%D)+4294967296^j*(val (U.drop j)/D*D):=by
   rw[<- bJ,cG (val (U.drop j)/D),dj]
  rw[bJ (4294967296^j) (val (U.drop j)/D*D)];have h2:4294967296^j*(4294967296*val (Q.drop (j+1))*D)=4294967296^j*4294967296*(val (Q.drop (j+1))*D):=by ac_rfl
  omega
 .rw[az]
  have h1:=bG (4294967296^j) (show val (U.drop j)%D+1<=D from b3);rw[bJ (4294967296^j) (val (U.drop j)%D) 1,eQ] at h1;omega
section
variable {H:Y0} {b n nx:Nat}
theorem Z87{c sl:Nat}{L:Nat}{ds:List Nat}(hb:b<nx)(hg:J0 H b=some (.cells (K12 ds) sl))(E:sl=0\/sl=1)(hs:U14 ds)(hL:ds.length=L)(hl:L<10000000)(hc:L<=c)(hn:val ds=n):
  Q2 gQ 111 [.slice (some ⟨b,0,none⟩) L c] H nx fun v H' nx'=>NN H' nx' v n/\H=H'/\nx=nx':=by
 subst hL;subst hn;have hD:Dg H nx (some ⟨b,0,none⟩) c ds:=⟨fun i v h=>⟨b,0,_,rfl,hb,by rw[Q5,hg];rfl,by rw[cF];exact h⟩,.inr ⟨b,0,_,rfl,hb,.inr ⟨sl,E,hg⟩⟩,hs,hc⟩
 refine(R86 hD O0).mono ?_;rintro _ _ _ ⟨rfl,rfl,rfl⟩;exact⟨⟨_,_,rfl,hD.trim⟩,rfl,rfl⟩
theorem Y103{A:Option Addr}(h:Dg H nx A (D11 n).length (D11 n))(hl:(D11 n).length<1000000)(h0:0<n):
  Q2 gQ 113 [.slice A (D11 n).length (D11 n).length] H nx fun v H' nx'=>∃ q,nx<=q/\q<nx'/\v = .slice (some ⟨q,0,none⟩) (D11 n).length (D11 n).length/\J0 H' q=some (.cells (K12 (D11 n)) 1)/\D0 H nx H' nx':=by
 refine spec113 ?_;unfold F113;have hL:0<(D11 n).length:=by
  rcases cI (D11 n).length with e | e
  .have:=M65.1 e;omega
  .exact e
 obtain⟨b,o,row,rfl,hb,_,_⟩:=h.sl.open (i:=0) (by rw[E1];omega);rw[N83];simp only[W0,Q0.val,Z88];have hE:D0 H nx (hs H nx (O7 [])) (nx+1):=(D0.refl H nx).nw _;have E:Src (hs H nx (O7 [])) 1 (.slice (some ⟨b,o,none⟩) (D11 n).length (D11 n).length) (D11 n).length (K12 (D11 n)):=C27 (h.sl.ext hE) (h.sk.has.ext hE) (by rw[E1,eQ]) O0;rw[R89 (Z11 _ _ _) E hL (D78 _) O0 O0];exact⟨nx+1,O0,O0,rfl,Z11 _ _ _,hE.nw _⟩
theorem B79{v w:Value}{a:Nat}(hv:NN H nx v a)(hw:NN H nx w b)(hl:(D11 a).length<400000)(au:(D11 b).length<400000):
  Q2 gQ 104 [v,w] H nx fun r H' nx'=>(if b=0 then r = .tuple ⟨[O6,O6,O8 18]⟩ else ∃ x y,r = .tuple ⟨[x,y,O8 0]⟩/\NN H' nx' x (a/b)/\NN H' nx' y (a%b))/\D0 H nx H' nx':=by
 obtain⟨A,c,rfl,hA⟩:=hv;obtain⟨C,d,rfl,hC⟩:=hw;refine spec104 ?_;unfold F104;refine R0 (Y69 hA O0) ?_;rintro _ _ _ ⟨rfl,rfl,rfl⟩;refine R0 (Y69 hC O0) ?_;rintro _ _ _ ⟨rfl,rfl,rfl⟩
 by_cases J:b=0
 .subst J
  have e:decide (((D11 0).length:Int)=0)=true:=decide_eq_true (by rw[D20];rfl);simp only[W0,e];exact D0.refl _ _
 have a3:0<b:=O0;have ay:(D11 b).length≠0:=fun e=>J (M65.1 e)
 have e:decide (((D11 b).length:Int)=0)=false:=decide_eq_false O0;simp only[W0,e];refine R0 (M95 ⟨_,_,rfl,hA.self⟩ ⟨_,_,rfl,hC.self⟩ O0 O0) ?_;rintro _ H1 ak ⟨rfl,O⟩;have a4:=hA.self.ext O;have a9:=hC.self.ext O
 by_cases Q:a<b
 .have e1:X72 a b<0:=by unfold X72;rw[if_pos Q];omega
  simp only[W0,e1];refine R0 (Y95 a4 O0) ?_;rintro u H2 nx2 ⟨hu,E⟩;refine⟨?_,O.trans E⟩;rw[if_neg J];exact⟨_,u,rfl,by rw[Nat.div_eq_of_lt Q];exact Y90 _ _,by rw[bV Q];exact hu⟩
 have e1:¬ X72 a b<0:=by
  unfold X72;rw[if_neg Q]
  split<;>omega
 by_cases h1:(D11 b).length=1
 .have e2:decide (((D11 b).length:Int)=1)=true:=decide_eq_true O0
  have ab:D11 b=[b]:=by
   have a7:b<4294967296:=by have:=Q68 b;rw[h1] at this;omega
   rw[M74 a3,bV a7,Nat.div_eq_of_lt a7,D20]
  have V:b<4294967296:=by have:=Q68 b;rw[h1] at this;omega
  simp only[W0,e1,e2];refine R0 (Y103 a4 O0 O0) ?_;rintro _ H2 nx2 ⟨q,aq,a8,rfl,W,E⟩;obtain⟨bC,oC,an,rfl,_,a2,al⟩:=(a9.sl.ext E).open (i:=0) (by rw[E1];omega);have gC:=al 0 _ (Q3 (show(D11 b)[0]? = some b by rw[ab];rfl));have e0:(0:Int)<((D11 b).length:Int):=O0;have ez:((0:Int)).toNat=0:=rfl;have ei:∀ k:VP,M3 (.slice (some ⟨bC,oC,none⟩) (D11 b).length (D11 b).length) (O8 0) none 1 k=k (.pointer (some ⟨bC,oC+0,none⟩)):=fun k=>by
   rw[U33 (Int.le_refl 0) e0];rfl
  rw[ei,J48,X3 a2,Q40,gC];simp only[aN];refine R0 (E93 a8 W (B25 a) O0 a3 V) ?_;rintro _ H3 ap ⟨rfl,rfl,a6,qs,aa,Z,a0,U⟩;rw[V20] at U;rw[V20];have ad:D0 H1 ak H3 nx2:=⟨E.le,fun i hi=>by rw[a6 i O0];exact E.get i hi⟩
  refine R0 (Z87 a8 aa (.inr rfl) a0 Z O0 (aD _) U) ?_;rintro u _ _ ⟨hu,rfl,rfl⟩;have ao:a%b<4294967296:=Nat.lt_trans (eZ a a3) V;rw[U22 _ O0];refine R0 (R81 O0 _ _) ?_;rintro u2 H4 ax ⟨a1,a5⟩;refine⟨?_,(O.trans ad).trans a5⟩;rw[if_neg J];exact⟨u,u2,rfl,hu.ext a5,a1⟩
 .have e2:decide (((D11 b).length:Int)=1)=false:=decide_eq_false O0
  simp only[W0,e1,e2];refine R0 (M98 (n:=(D11 b).length-2) a4 a9 O0 O0 O0) ?_;rintro _ H2 nx2 ⟨E,bq,br,Lq,Lr,qs,rs,rfl,ai,ah,W,ag,Z,ac,av,aw,a0,ae,U,aj⟩;simp only[W0];refine R0 (Z87 ai W (.inl rfl) a0 Z O0 (aD _) U) ?_;rintro u _ _ ⟨hu,rfl,rfl⟩;refine R0 (Z87 ah ag (.inl rfl) ae ac O0 (aD _) aj) ?_;rintro u2 _ _ ⟨a1,rfl,rfl⟩;refine⟨?_,O.trans E⟩;rw[if_neg J];exact⟨u,u2,rfl,hu,a1⟩
end
section
variable (a0 a1 a2:Value) (H:Y0) (nx:Nat) (k:EP)
def F94:Prop:=
 D10 .lss a0 i0 fun b=>
 K2 b (
 W8 .u64 a0 fun b=>
 wUn .neg b fun b=>
 Y2 gQ 101 [b] H nx fun b c d=>
 Rt b c d k) (
 W8 .u64 a0 fun b=>
 Y2 gQ 101 [b] H nx fun b c d=>
 Rt b c d k)
def F75:Prop:=
 wAl zR H nx fun b c d=>
 D10 .lss a0 i0 fun e=>
 Y2 gQ 94 [a0] c d fun c d f=>
 U11 zR [(0,1),(1,1),(2,1)] [(0,e),(1,c)] fun c=>
 Y2 gQ 80 [c] d f fun c d e=>
 D5 b c 3 d fun c=>
 J1 b (some 3) c fun b=>
 Rt b c e k
def F115:Prop:=
 Y2 gQ 102 [a1] H nx fun b c d=>
 D10 .eql b i0 fun b=>
 K2 b (
 Rt a0 c d k) (
 Y2 gQ 116 [a0] c d fun b c d=>
 G9 b 0 fun e=>
 G9 b 1 fun b=>
 Y2 gQ 116 [a1] c d fun c d f=>
 G9 c 0 fun g=>
 G9 c 1 fun c=>
 V4 (fun e=>
 K3 true c (
 e [b] d f) (
 e [bF] d f)) (fun b c d=>
 K2 b.a (
 G3 (fun b c d e=>
 D10 .neq c.b (.int .u64 0) fun f=>
 K2 f (
 M2 (e+6) fun e=>
 D10 .rem c.a c.b fun f=>
 wK True (
 b [c.b,f] d e)) (
 Y2 gQ 101 [c.a] d e fun b c d=>
 Rt b c d k)) [e,g] c d) (
 Y2 gQ 104 [a0,a1] c d fun b c d=>
 G9 b 0 fun _=>
 G9 b 1 fun e=>
 G9 b 2 fun _=>
 J1 a2 none c fun b=>
 M33 gQ b [a1,e] c d fun b c d=>
 Rt b c d k)))
def F103:Prop:=
 wAl [.nilFunc] H nx fun b c d=>
 D5 b (.func (.func 115) ⟨[]⟩ ⟨[b]⟩) 1 c fun c=>
 G3 (fun c d e f=>
 Y2 gQ 102 [d.b] e f fun e f g=>
 D10 .gtr e (.int .i64 4096) fun e=>
 K2 e (
 Y2 gQ 104 [d.a,d.b] f g fun b e f=>
 G9 b 0 fun _=>
 G9 b 1 fun g=>
 G9 b 2 fun _=>
 c [d.b,g] e f) (
 J1 b none f fun b=>
 M33 gQ b [d.a,d.b] f g fun b c d=>
 Rt b c d k)) [a0,a1] c d
def F80:Prop:=
 M12 a0 H nx fun b c d=>
 wAl zR c d fun c d e=>
 M2 (e+8) fun e=>
 K7 b 1 d fun f g=>
 Y2 gQ 100 [g] d e fun e h i=>
 K7 b 2 h fun j l=>
 Y2 gQ 100 [l] h i fun i m n=>
 wK ((tA ((cE j none h l)/\(tB (cE j none d l))))/\(tB (tA (tA (tB (cE f none d g)))))) (
 V4 (fun b=>
 R4 e 0 m fun c=>
 D10 .eql c i0 fun c=>
 K3 false c (
 R4 i 0 m fun c=>
 D10 .eql c i0 fun c=>
 b [c] m n) (
 b [bT] m n)) (fun d f g=>
 K2 d.a (
 K7 b 0 f fun _ b=>
 K3 true b (
 R4 e 0 f fun b=>
 D10 .gtr b i0 fun b=>
 Y2 gQ 101 [(.int .u64 1)] f g fun d f g=>
 U11 zR [(0,1),(1,1),(2,1)] [(0,b),(1,e),(2,d)] fun b=>
 D5 c b 3 f fun b=>
 J1 c (some 3) b fun c=>
 Rt c b g k) (
 Y2 gQ 101 [(.int .u64 1)] f g fun b d f=>
 U11 zR [(0,1),(1,1),(2,1)] [(0,bF),(1,e),(2,b)] fun b=>
 D5 c b 3 d fun b=>
 J1 c (some 3) b fun c=>
 Rt c b f k)) (
 V4 (fun b=>
 Y2 gQ 102 [i] f g fun c d f=>
 D10 .gtr c i1 fun c=>
 K2 c (
 Y2 gQ 103 [e,i] d f fun c d f=>
 Y2 gQ 102 [c] d f fun d f g=>
 D10 .gtr d i1 fun d=>
 K2 d (
 Y2 gQ 104 [e,c] f g fun d e f=>
 G9 d 0 fun g=>
 G9 d 1 fun _=>
 G9 d 2 fun _=>
 Y2 gQ 104 [i,c] e f fun c d e=>
 G9 c 0 fun f=>
 G9 c 1 fun _=>
 G9 c 2 fun _=>
 b [g,f] d e) (
 b [e,i] f g)) (
 b [e,i] d f)) (fun d e f=>
 K7 b 0 e fun _ b=>
 U11 zR [(0,1),(1,1),(2,1)] [(0,b),(1,d.a),(2,d.b)] fun b=>
 D5 c b 3 e fun b=>
 J1 c (some 3) b fun c=>
 Rt c b f k))))
def F99:Prop:=
 M12 a0 H nx fun b c d=>
 K7 b 2 c fun _ e=>
 Y2 gQ 102 [e] c d fun c d e=>
 D10 .eql c i0 fun c=>
 K2 c (
 Y2 gQ 101 [(.int .u64 1)] d e fun b c d=>
 Rt b c d k) (
 K7 b 2 d fun _ b=>
 Rt b d e k)
def F96:Prop:=
 M12 a0 H nx fun b c d=>
 K7 b 1 c fun _ e=>
 Y2 gQ 102 [e] c d fun c d e=>
 D10 .eql c i0 fun c=>
 K2 c (
 Rt i0 d e k) (
 K7 b 0 d fun _ b=>
 K2 b (
 Rt (.int .i64 (-1)) d e k) (
 Rt i1 d e k))
def F79:Prop:=
 M12 a0 H nx fun b c d=>
 M12 a1 c d fun c d e=>
 J1 b (some 3) d fun f=>
 Y2 gQ 96 [f] d e fun d e f=>
 J1 c (some 3) e fun g=>
 Y2 gQ 96 [g] e f fun e f g=>
 D10 .neq d e fun h=>
 K2 h (
 Y2 gQ 69 [d,e] f g fun b c d=>
 Rt b c d k) (
 M2 (g+14) fun e=>
 K7 b 1 f fun g h=>
 J1 c (some 3) f fun i=>
 Y2 gQ 99 [i] f e fun e j l=>
 Y2 gQ 98 [h,e] j l fun e l m=>
 K7 c 1 l fun n o=>
 J1 b (some 3) l fun p=>
 Y2 gQ 99 [p] l m fun m q r=>
 Y2 gQ 98 [o,m] q r fun m r s=>
 Y2 gQ 97 [e,m] r s fun e m r=>
 D10 .mul d e fun d=>
 wK ((tA (tA (tA ((cE b (some 3) l p)/\((cE b (some 3) j p)/\(tB (cE b (some 3) f p)))))))/\((tA (tA ((cE n none q o)/\((cE n none l o)/\((cE n none j o)/\(tB (cE n none f o)))))))/\((tA (tA (tA (tA (tA (tB (cE c (some 3) f i)))))))/\(tB (tA (tA (tA (tA ((cE g none j h)/\(tB (cE g none f h))))))))))) (
 Rt d m r k))
def F138:Prop:=
 M12 a0 H nx fun b c d=>
 wAl zR c d fun c d e=>
 K7 b 0 d fun _ f=>
 wUn .not f fun f=>
 K7 b 1 d fun _ g=>
 K7 b 2 d fun _ b=>
 U11 zR [(0,1),(1,1),(2,1)] [(0,f),(1,g),(2,b)] fun b=>
 Y2 gQ 80 [b] d e fun b d e=>
 D5 c b 3 d fun b=>
 J1 c (some 3) b fun c=>
 Rt c b e k
def F144:Prop:=
 M12 a0 H nx fun b c d=>
 M12 a1 c d fun c d e=>
 wAl zR d e fun d e f=>
 M2 (f+6) fun f=>
 J1 b (some 3) e fun g=>
 Y2 gQ 80 [g] e f fun f h i=>
 J1 c (some 3) h fun j=>
 Y2 gQ 80 [j] h i fun i l m=>
 D5 b f 3 l fun f=>
 D5 c i 3 f fun f=>
 wK ((tA (tA (tA ((cE c (some 3) h j)/\(tB (cE c (some 3) e j))))))/\(tB (tA (tA (tA (tA (tB (cE b (some 3) e g)))))))) (
 M2 (m+12) fun e=>
 K7 b 1 f fun g h=>
 K7 c 2 f fun i j=>
 Y2 gQ 98 [h,j] f e fun e l m=>
 K7 c 1 l fun n o=>
 K7 b 2 l fun p q=>
 Y2 gQ 98 [o,q] l m fun m r s=>
 wK ((tA ((cE p none l q)/\(tB (cE p none f q))))/\((tA ((cE n none l o)/\(tB (cE n none f o))))/\((tA (tA (tB (cE i none f j))))/\(tB (tA (tA (tB (cE g none f h)))))))) (
 K7 b 2 r fun _ f=>
 K7 c 2 r fun _ g=>
 Y2 gQ 98 [f,g] r s fun f g h=>
 K7 b 0 g fun _ i=>
 K7 c 0 g fun _ j=>
 D9 (.eqb false) [i,j] fun i=>
 K2 i (
 M2 (h+9) fun c=>
 K7 b 0 g fun b h=>
 Y2 gQ 145 [e,m] g c fun c e i=>
 U11 zR [(0,1),(1,1),(2,1)] [(0,h),(1,c),(2,f)] fun c=>
 Y2 gQ 80 [c] e i fun c f i=>
 D5 d c 3 f fun c=>
 wK (tB (tA (tA ((cE b none e h)/\(tB (cE b none g h)))))) (
 J1 d (some 3) c fun b=>
 Rt b c i k)) (
 Y2 gQ 146 [e,m] g h fun g h i=>
 G9 g 0 fun j=>
 G9 g 1 fun g=>
 D10 .eql g i0 fun g=>
 K2 g (
 K7 b 0 h fun _ b=>
 U11 zR [(0,1),(1,1),(2,1)] [(0,b),(1,j),(2,f)] fun b=>
 Y2 gQ 80 [b] h i fun b c e=>
 D5 d b 3 c fun b=>
 J1 d (some 3) b fun c=>
 Rt c b e k) (
 Y2 gQ 146 [m,e] h i fun b e g=>
 G9 b 0 fun h=>
 G9 b 1 fun _=>
 K7 c 0 e fun _ b=>
 U11 zR [(0,1),(1,1),(2,1)] [(0,b),(1,h),(2,f)] fun b=>
 Y2 gQ 80 [b] e g fun b c e=>
 D5 d b 3 c fun b=>
 J1 d (some 3) b fun c=>
 Rt c b e k))))
def F142:Prop:=
 M12 a0 H nx fun b c d=>
 M12 a1 c d fun c d e=>
 wAl zR d e fun d e f=>
 M2 (f+5) fun f=>
 J1 b (some 3) e fun g=>
 J1 c (some 3) e fun h=>
 Y2 gQ 138 [h] e f fun f i j=>
 Y2 gQ 144 [g,f] i j fun f j l=>
 D5 d f 3 j fun f=>
 wK ((tA (tA (tA (tB (cE c (some 3) e h)))))/\(tB (tA (tA ((cE b (some 3) i g)/\(tB (cE b (some 3) e g))))))) (
 J1 d (some 3) f fun b=>
 Rt b f l k)
def F143:Prop:=
 M12 a0 H nx fun b c d=>
 M12 a1 c d fun c d e=>
 wAl zR d e fun d e f=>
 M2 (f+6) fun f=>
 J1 b (some 3) e fun g=>
 Y2 gQ 80 [g] e f fun f h i=>
 J1 c (some 3) h fun j=>
 Y2 gQ 80 [j] h i fun i l m=>
 D5 b f 3 l fun f=>
 D5 c i 3 f fun f=>
 wK ((tA (tA (tA ((cE c (some 3) h j)/\(tB (cE c (some 3) e j))))))/\(tB (tA (tA (tA (tA (tB (cE b (some 3) e g)))))))) (
 M2 (m+18) fun e=>
 K7 b 0 f fun g h=>
 K7 c 0 f fun i j=>
 D9 (.eqb true) [h,j] fun l=>
 K7 b 1 f fun m n=>
 K7 c 1 f fun o p=>
 Y2 gQ 98 [n,p] f e fun e q r=>
 K7 b 2 q fun b s=>
 K7 c 2 q fun c t=>
 Y2 gQ 98 [s,t] q r fun r u v=>
 U11 zR [(0,1),(1,1),(2,1)] [(0,l),(1,e),(2,r)] fun e=>
 Y2 gQ 80 [e] u v fun e l r=>
 D5 d e 3 l fun e=>
 wK ((tA (tA (tA ((cE c none q t)/\(tB (cE c none f t))))))/\((tA (tA (tA ((cE b none q s)/\(tB (cE b none f s))))))/\((tA (tA (tA (tA (tB (cE o none f p))))))/\((tA (tA (tA (tA (tB (cE m none f n))))))/\((tA (tA ((cE i none u j)/\((cE i none q j)/\(tB (cE i none f j))))))/\(tB (tA (tA ((cE g none u h)/\((cE g none q h)/\(tB (cE g none f h)))))))))))) (
 J1 d (some 3) e fun b=>
 Rt b e r k))
def F141:Prop:=
 M12 a0 H nx fun b c d=>
 M12 a1 c d fun c d e=>
 wAl zR d e fun d e f=>
 J1 c (some 3) e fun g=>
 Y2 gQ 80 [g] e f fun e f g=>
 D5 c e 3 f fun e=>
 K7 c 1 e fun _ f=>
 R4 f 0 e fun f=>
 D10 .eql f i0 fun f=>
 K2 f (
 U11 zR [(0,1),(1,1),(2,1)] [] fun b=>
 D5 d b 3 e fun b=>
 J1 d (some 3) b fun c=>
 Rt (.tuple ⟨[c,(.int .i64 18)]⟩) b g k) (
 J1 b (some 3) e fun b=>
 K7 c 0 e fun _ f=>
 K7 c 2 e fun _ h=>
 K7 c 1 e fun _ c=>
 U11 zR [(0,1),(1,1),(2,1)] [(0,f),(1,h),(2,c)] fun c=>
 Y2 gQ 143 [b,c] e g fun b c e=>
 D5 d b 3 c fun b=>
 J1 d (some 3) b fun c=>
 Rt (.tuple ⟨[c,i0]⟩) b e k)
variable {a0 a1 a2 H nx k}
theorem spec94:F94 a0 H nx k->Q2 gQ 94 [a0] H nx k:=Q12 [] [] []
theorem spec75:F75 a0 H nx k->Q2 gQ 75 [a0] H nx k:=Q12 [] [] []
theorem spec115:F115 a0 a1 a2 H nx k->Q2 gQ 115 [a0,a1,a2] H nx k:=Q12 [(7,[30])] [[6,8]] [.one (.tst (.one .nil) (.one .nil))]
theorem spec103:F103 a0 a1 H nx k->Q2 gQ 103 [a0,a1] H nx k:=Q12 [] [[0,1]] []
theorem spec80:F80 a0 H nx k->Q2 gQ 80 [a0] H nx k:=Q12 [(3,[19]),(5,[3,4])] [] [.one (.tst (.one .nil) (.one .nil)),.one (.tst (.one .nil) (.one .nil))]
theorem spec99:F99 a0 H nx k->Q2 gQ 99 [a0] H nx k:=Q12 [] [] []
theorem spec96:F96 a0 H nx k->Q2 gQ 96 [a0] H nx k:=Q12 [] [] []
theorem spec79:F79 a0 a1 H nx k->Q2 gQ 79 [a0,a1] H nx k:=Q12 [] [] []
theorem spec138:F138 a0 H nx k->Q2 gQ 138 [a0] H nx k:=Q12 [] [] []
theorem spec144:F144 a0 a1 H nx k->Q2 gQ 144 [a0,a1] H nx k:=Q12 [] [] []
theorem spec142:F142 a0 a1 H nx k->Q2 gQ 142 [a0,a1] H nx k:=Q12 [] [] []
theorem spec143:F143 a0 a1 H nx k->Q2 gQ 143 [a0,a1] H nx k:=Q12 [] [] []
theorem spec141:F141 a0 a1 H nx k->Q2 gQ 141 [a0,a1] H nx k:=Q12 [] [] []
end
end Go.Proofs.YtoiioigihocgbaaGreatDoor
namespace Go.Clo
theorem N73{a b:Nat}(h:a<=b):(D11 a).length<=(D11 b).length:=by
 rcases aW (D11 b).length (D11 a).length with g | g
 .have:=X70 g;omega
 .exact g
theorem G92{P:Program}{g:Nat}{cap args:List Value}{H:Y0}{nx:Nat}{k:EP}:M33 P (.func (.func g) ⟨[]⟩ ⟨cap⟩) args H nx k=Y2 P g (args++cap) H nx k:=by
 show spine ([]++args++cap) (fun vs=>M8 P g vs H nx False k)=M8 P g (args++cap) H nx False k;rw[V14];rfl
theorem W83{b:Nat}{r x1:Value}{Q:Prop}(hb:0<b)(h:if b=0 then r=x1 else Q):Q:=by rwa [if_neg O0] at h
end Go.Clo
namespace Go.Proofs.YtoiioigihocgbaaGreatDoor
open Go.Clo
theorem gcd_rec:∀(b a:Nat) (v w:Value) (bx:Nat) (H:Y0) (nx:Nat),NN H nx v a->NN H nx w b->(D11 a).length<400000->(D11 b).length<400000->bx<nx ->
  J0 H bx=O7 [.func (.func 115) ⟨[]⟩ ⟨[.pointer (some ⟨bx,0,none⟩)]⟩] ->
  Q2 gQ 115 [v,w,.pointer (some ⟨bx,0,none⟩)] H nx fun r H' nx'=>NN H' nx' r (fF b a)/\D0 H nx H' nx':=by
 intro b
 induction b using Nat.strongRecOn with
 | ind b ab=>
 intro a v w bx H nx hv hw hl Z a5 hg;refine spec115 ?_;unfold F115;refine R0 (M77 hw O0) ?_;rintro _ _ _ ⟨rfl,rfl,rfl⟩
 by_cases ag:b=0
 .subst ag
  simp only[W0,B80,show decide (((0:Nat):Int)=0)=true from rfl];rw[Nat.gcd_zero_left];exact⟨hv,D0.refl _ _⟩
 have a3:0<b:=O0;have ah:=C65 a3;have e0:decide (((C14 b:Nat):Int)=0)=false:=decide_eq_false O0;simp only[W0,e0];refine R0 (V84 hv O0) ?_;rintro r1 _ _ ⟨Q,rfl,rfl⟩;have big:fF b a=fF (a%b) b:=Nat.gcd_rec b a;have J:Y2 gQ 104 [v,w] H nx fun a0 H8 a1=>G9 a0 0 fun ai=>G9 a0 1 fun a8=>G9 a0 2 fun aj=>ldP (J0 H8 bx) 0 none fun ad=>
   M33 gQ ad [w,a8] H8 a1 fun aa H9 U=>NN H9 U aa (fF b a)/\D0 H nx H9 U:=by
  refine R0 (B79 hv hw hl Z) ?_;rintro r H8 a1 ⟨hr,V⟩;obtain⟨x,y,rfl,hx,hy⟩:=W83 a3 hr;have a7:=(V.get bx a5).trans hg;simp only[W0,a7,G92,dL,eR];have hm:=eZ a a3;refine R0 (ab (a%b) hm b w y bx H8 a1 (hw.ext V) hy Z (iF (N73 (eG hm)) Z) (aO a5 V.le) a7) ?_;rintro r H9 U ⟨hr,a2⟩;rw[big];exact⟨hr,V.trans a2⟩
 by_cases ha:a<18446744073709551616
 case neg=>
  rw[if_neg ha] at Q;subst Q;simp only[W0];refine R0 (V84 hw O0) ?_;rintro r2 _ _ ⟨E,rfl,rfl⟩
  by_cases O:b<18446744073709551616
  .rw[if_pos O] at E
   subst E;simp only[W0,N13];exact J
  .rw[if_neg O] at E
   subst E;simp only[W0,N13];exact J
 rw[if_pos ha] at Q;subst Q;simp only[W0];refine R0 (V84 hw O0) ?_;rintro r2 _ _ ⟨E,rfl,rfl⟩
 by_cases O:b<18446744073709551616
 case neg=>
  rw[if_neg O] at E;subst E;simp only[W0,N13];exact J
 rw[if_pos O] at E;subst E;simp only[W0,N13];refine B1 (m:=b) (fun m L H' nx'=>∃ x:Nat,L=[.int .u64 (x:Int),.int .u64 (m:Int)]/\x<18446744073709551616/\m<18446744073709551616/\fF m x=fF b a/\H=H'/\nx<=nx') ?_ ⟨a,rfl,ha,O,rfl,rfl,aD _⟩;rintro m ih L _ nx2 ⟨x,rfl,hx,hm,W,rfl,a9⟩ ac
 by_cases ae:m=0
 .subst ae
  simp only[W0,show decide (((0:Nat):Int)≠0)=false from rfl];refine R0 (R81 hx H nx2) ?_;rintro r H9 U ⟨hr,a2⟩;rw[<- W,Nat.gcd_zero_left];exact⟨hr,(D0.self a9).trans a2⟩
 .have a6:0<m:=O0
  have e1:decide (((m:Nat):Int)≠0)=true:=decide_eq_true O0;have a4:=eZ x a6;simp only[W0,e1,B90 (a:=x) (b:=m) _ a6];refine ac (x%m) _ _ _ a4 ⟨m,rfl,hm,O0,?_,rfl,O0⟩;rw[<- W,Nat.gcd_rec m x]
theorem W102{v w:Value}{a b:Nat}{H:Y0}{nx:Nat}(hv:NN H nx v a)(hw:NN H nx w b)(hl:(D11 a).length<400000)(a4:(D11 b).length<400000):
  Q2 gQ 103 [v,w] H nx fun r H' nx'=>NN H' nx' r (fF a b)/\D0 H nx H' nx':=by
 refine spec103 ?_;unfold F103;have a6:D0 H nx (hs H nx (O7 [.nilFunc])) (nx+1):=(D0.refl H nx).nw _;simp only[W0,Q0.val,show B12 [Value.nilFunc] 0 [Value.func (.func 115) ⟨[]⟩ ⟨[.pointer (some ⟨nx,0,none⟩)]⟩]=[Value.func (.func 115) ⟨[]⟩ ⟨[.pointer (some ⟨nx,0,none⟩)]⟩] from rfl];have Q:=a6.hs (i:=nx) (b:=O7 [Value.func (.func 115) ⟨[]⟩ ⟨[.pointer (some ⟨nx,0,none⟩)]⟩]) (aD _);have a0:=Z11 (hs H nx (O7 [.nilFunc])) nx (O7 [Value.func (.func 115) ⟨[]⟩ ⟨[.pointer (some ⟨nx,0,none⟩)]⟩]);generalize hs (hs H nx (O7 [.nilFunc])) nx (O7 [Value.func (.func 115) ⟨[]⟩ ⟨[.pointer (some ⟨nx,0,none⟩)]⟩])=K at Q a0 ⊢;refine B1 (m:=b) (fun m L H' nx'=>∃(x:Nat) (u1 u2:Value),L=[u1,u2]/\NN H' nx' u1 x/\NN H' nx' u2 m/\(D11 x).length<400000/\(D11 m).length<400000/\fF m x=fF b a/\D0 K (nx+1) H' nx') ?_
  ⟨a,v,w,rfl,hv.ext Q,hw.ext Q,hl,a4,rfl,D0.refl _ _⟩
 rintro m ih L H2 nx2 ⟨x,u1,u2,rfl,h1,h2,W,U,V,J⟩ a5;have Z:=(J.gt nx).trans a0;simp only[W0];refine R0 (M77 h2 O0) ?_;rintro _ _ _ ⟨rfl,rfl,rfl⟩
 by_cases a2:4096<C14 m
 .have E:(4096:Int)<(C14 m:Int):=O0
  have a1:0<m:=by
   rcases cI m with e | e
   .subst e;rw[B80] at a2;omega
   .exact e
  simp only[W0,E];refine R0 (B79 h1 h2 W U) ?_;rintro r H3 a3 ⟨hr,O⟩;obtain⟨y,z,rfl,hy,hz⟩:=W83 a1 hr;have hm:=eZ x a1;simp only[W0];refine a5 (x%m) _ _ _ hm ⟨m,u2,z,rfl,h2.ext O,hz,U,iF (N73 (eG hm)) U,?_,J.trans O⟩;rw[<- V,Nat.gcd_rec m x]
 .have E:¬ (4096:Int)<(C14 m:Int):=O0
  simp only[W0,E,Z,G92,dL,eR];refine R0 (gcd_rec m x u1 u2 nx H2 nx2 h1 h2 W U (aO (Nat.lt_succ_self nx) J.le) Z) ?_;rintro r H3 a3 ⟨hr,O⟩;rw[V,Nat.gcd_comm] at hr;exact⟨hr,(Q.trans J).trans O⟩
end Go.Proofs.YtoiioigihocgbaaGreatDoor
namespace Go.Clo
def RT(H:Y0)(nx:Nat)(v:Value)(s:Bool)(n d:Nat):Prop:=∃ nv dv,v = .agg ⟨[.bool s,nv,dv]⟩/\NN H nx nv n/\NN H nx dv d
theorem RT.ext{H:Y0}{nx:Nat}{v:Value}{s:Bool}{n d:Nat}{H':Y0}{nx':Nat}(h:RT H nx v s n d)(e:D0 H nx H' nx'):RT H' nx' v s n d:=let ⟨a,b,h1,h2,h3⟩:=h;⟨a,b,h1,h2.ext e,h3.ext e⟩
def B85(s:Bool)(n d:Nat):Bool:=s&&decide (0<n)&&(decide (n=0\/d=0) || s)
def G86(n d:Nat):Nat:=if n=0\/d=0 then n else n/fF n d
def K87(n d:Nat):Nat:=if n=0\/d=0 then 1 else d/fF n d
theorem Q78(s:Bool)(n d:Nat):B85 s n d=(s&&decide (0<n)):=by unfold B85;cases s<;>simp
theorem NN.box{H:Y0}{nx i n sl:Nat}{v:Value}{row row':List Value}(h:NN H nx v n)(hg:J0 H i=some (.cells row sl))(hr:∀(q:Nat) (z:Int),row[q]? ≠ some (cD .u32 z)):NN (hs H i (O7 row')) nx v n:=by
 obtain⟨A,c,rfl,hD⟩:=h;refine⟨A,c,rfl,?_,?_,hD.small,hD.le⟩
 .intro j x hx
  obtain⟨b,o,E,e1,e2,e3,e4⟩:=hD.sl j x hx
  by_cases hb:b=i
  .subst hb
   have e5:E=row:=by rw[Q5,hg] at e3;exact(fA e3).symm
   subst e5;have:∃ z,x=O9 z:=by
    simp only[K12,cP,bU] at hx;obtain⟨d,_,rfl⟩:=hx;exact⟨_,rfl⟩
   obtain⟨z,rfl⟩:=this;exact absurd e4 (hr _ z)
  .exact⟨b,o,E,e1,e2,by rw[Q5,Z1 _ hb];exact e3,e4⟩
 .rcases hD.sk with e | ⟨b,o,E,e1,e2,e3⟩
  .exact .inl e
  .by_cases hb:b=i
   .subst hb
    exact .inr ⟨b,o,row',e1,e2,.inr ⟨0,.inl rfl,Z11 _ _ _⟩⟩
   .exact .inr ⟨b,o,E,e1,e2,by rw[Z1 _ hb];exact e3⟩
theorem E46(s:Bool)(A C:Option Addr)(l1 c1 l2 c2:Nat):∀(q:Nat) (z:Int),[dU s,.slice A l1 c1,.slice C l2 c2][q]? ≠ some (cD .u32 z):=by
 intro q z h
 match q,h with
 | 0,h=>simp at h
 | 1,h=>simp at h
 | 2,h=>simp at h
 | q+3,h=>simp at h
theorem W65(s:Bool)(A C:Option Addr)(l1 c1 l2 c2:Nat)(k:VP):U11 [.bool false,O6,O6] [(0,1),(1,1),(2,1)] [(0,.bool s),(1,.slice A l1 c1),(2,.slice C l2 c2)] k=k (.agg ⟨[.bool s,.slice A l1 c1,.slice C l2 c2]⟩):=by
 unfold U11;have:V16 (nth [(0,1),(1,1),(2,1)]) [.bool false,O6,O6] [(0,.bool s),(1,.slice A l1 c1),(2,.slice C l2 c2)]=some [.bool s,.slice A l1 c1,.slice C l2 c2]:=rfl;rw[this];exact V14 _ _
theorem K96(s:Bool)(A:Option Addr)(l1 c1:Nat)(k:VP):U11 [.bool false,O6,O6] [(0,1),(1,1),(2,1)] [(0,.bool s),(1,.slice A l1 c1)] k=k (.agg ⟨[.bool s,.slice A l1 c1,O6]⟩):=by
 unfold U11;have:V16 (nth [(0,1),(1,1),(2,1)]) [.bool false,O6,O6] [(0,.bool s),(1,.slice A l1 c1)]=some [.bool s,.slice A l1 c1,O6]:=rfl;rw[this];exact V14 _ _
end Go.Clo
namespace Go.Proofs.YtoiioigihocgbaaGreatDoor
open Go.Clo
theorem B97{v:Value}{s:Bool}{n d:Nat}{H:Y0}{nx:Nat}(h:RT H nx v s n d)(hl:(D11 n).length<400000)(ad:(D11 d).length<400000):
  Q2 gQ 80 [v] H nx fun r H' nx'=>RT H' nx' r (B85 s n d) (G86 n d) (K87 n d)/\D0 H nx H' nx':=by
 obtain⟨nv,dv,rfl,hn,hd⟩:=h;refine spec80 ?_;unfold F80;obtain⟨A0,c0,rfl,a0⟩:=id hn;obtain⟨C0,d0,rfl,av⟩:=id hd;simp(disch:=omega)only[W0,Z0,Q0.val];have Z:J0 (hs (hs H nx (O7 [.bool s,.slice A0 (D11 n).length c0,.slice C0 (D11 d).length d0])) (nx+1) (O7 [.bool false,O6,O6])) nx=O7 [.bool s,.slice A0 (D11 n).length c0,.slice C0 (D11 d).length d0]:=by rw[gN _,Z11]
 have a6:J0 (hs (hs H nx (O7 [.bool s,.slice A0 (D11 n).length c0,.slice C0 (D11 d).length d0])) (nx+1) (O7 [.bool false,O6,O6])) (nx+1)=O7 [.bool false,O6,O6]:=Z11 _ _ _;have ab:D0 H nx (hs (hs H nx (O7 [.bool s,.slice A0 (D11 n).length c0,.slice C0 (D11 d).length d0])) (nx+1) (O7 [.bool false,O6,O6])) (nx+2):=
  ((D0.refl H nx).nw _:D0 H nx _ (nx+1)).nw _
 generalize hs (hs H nx (O7 [.bool s,.slice A0 (D11 n).length c0,.slice C0 (D11 d).length d0])) (nx+1) (O7 [.bool false,O6,O6])=K at Z a6 ab ⊢
 try simp(disch:=try exact O3)only[W0,Z0,Q0.val,Nat.reduceAdd,Nat.reduceMul,Nat.reduceLeDiff,Z,a6]
 have W:D0 H nx K (nx+1+1+8):=ab.more O0;refine R0 (U97 (hn.ext W) O0) ?_;rintro u H4 b3 ⟨hu,a4⟩;have g4:=(a4.gt nx).trans Z;simp only[W0,g4];refine R0 (U97 ((hd.ext W).ext a4) O0) ?_;rintro w H5 U ⟨hw,ai⟩;have O:=a4.trans ai;have aa:=W.trans O;have g5:=(O.gt nx).trans Z;have z5:=(O.gt (nx+1)).trans a6;obtain⟨A,c,rfl,hA⟩:=id hu;obtain⟨C,dc,rfl,hC⟩:=id hw;have Q:=hu.ext ai;have ag:decide ((D11 n).length=0)=decide (n=0):=by
  congr 1;apply propext;exact M65
 have aq:decide ((D11 d).length=0)=decide (d=0):=by
  congr 1;apply propext;exact M65
 have ao:decide ((0:Int)<((D11 n).length:Int))=decide (0<n):=by
  congr 1;apply propext;have:=M65 (n:=n);omega
 have z6:∀ {H6:Y0} {J:Nat},D0 H5 U H6 J->J0 H6 (nx+1)=O7 [.bool false,O6,O6]:=fun e=>(e.get (nx+1) (by have:=O.le;omega)).trans z5
 have a7:∀(b:Bool) (H6:Y0) (J n' d':Nat) (x y:Value),NN H6 J x n'->NN H6 J y d'->D0 H5 U H6 J->RT (hs H6 (nx+1) (O7 [.bool b,x,y])) J (.agg ⟨[.bool b,x,y]⟩) b n' d'/\D0 H nx (hs H6 (nx+1) (O7 [.bool b,x,y])) J:=
  fun b H6 J n' d' x y hx hy E=>⟨⟨x,y,rfl,NN.box hx (z6 E) (E46 _ _ _ _ _ _ _),NN.box hy (z6 E) (E46 _ _ _ _ _ _ _)⟩,(aa.trans E).h0⟩
 simp only[W0];refine N5 (fun L H' nx'=>L=[.bool (decide (n=0\/d=0))]/\H5=H'/\U=nx') ?_ ?_
 .intro tj hj
  by_cases a0:n=0
  .have e:decide (n=0\/d=0)=true:=decide_eq_true (.inl a0)
   simp only[W0,ag,decide_eq_true a0];exact hj _ _ _ ⟨by rw[e],rfl,rfl⟩
  .have e:decide (n=0\/d=0)=decide (d=0):=by congr 1;apply propext;simp[a0]
   simp only[W0,ag,decide_eq_false a0,aq];exact hj _ _ _ ⟨by rw[e],rfl,rfl⟩
 rintro L _ _ ⟨rfl,rfl,rfl⟩
 by_cases h0:n=0\/d=0
 .have e:decide (n=0\/d=0)=true:=decide_eq_true h0
  have eN:G86 n d=n:=if_pos h0;have eD:K87 n d=1:=if_pos h0
  cases s with
  | true=>
   simp only[W0,e,g5,ao];refine R0 (R81 (n:=1) O0 H5 U) ?_;rintro x H6 J ⟨hx,E⟩;obtain⟨X,cX,rfl,hX⟩:=id hx;rw[W65];simp only[W0,Z0,Nat.reduceAdd,z6 E,D7,Y12];have:=a7 (decide (0<n)) H6 J n 1 _ _ (Q.ext E) hx E;rw[Q78,eN,eD,iA];exact this
  | false=>
   simp only[W0,e,g5];refine R0 (R81 (n:=1) O0 H5 U) ?_;rintro x H6 J ⟨hx,E⟩;obtain⟨X,cX,rfl,hX⟩:=id hx;rw[W65];simp only[W0,Z0,Nat.reduceAdd,z6 E,D7,Y12];have:=a7 false H6 J n 1 _ _ (Q.ext E) hx E;rw[Q78,eN,eD,Bool.false_and];exact this
 have e:decide (n=0\/d=0)=false:=decide_eq_false h0;have a9:0<n:=O0;have al:0<d:=O0;have eN:G86 n d=n/fF n d:=if_neg h0;have eD:K87 n d=d/fF n d:=if_neg h0;have eS:B85 s n d=s:=by rw[Q78,decide_eq_true a9,Bool.and_true]
 have a3:0<fF n d:=Nat.gcd_pos_of_pos_left _ a9;simp only[W0,e];refine N5 (fun L H' nx'=>∃ x y,L=[x,y]/\NN H' nx' x (G86 n d)/\NN H' nx' y (K87 n d)/\D0 H5 U H' nx') ?_ ?_
 .intro tj hj
  refine R0 (M77 hw O0) ?_;rintro _ _ _ ⟨rfl,rfl,rfl⟩
  by_cases hb:1<C14 d
  .have a1:(1:Int)<(C14 d:Int):=O0
   simp only[W0,a1];refine R0 (W102 Q hw hl ad) ?_;rintro gq H6 J ⟨a8,E⟩;have ae:(D11 (fF n d)).length<400000:=iF (N73 (Nat.gcd_le_left _ a9)) hl;refine R0 (M77 a8 O0) ?_;rintro _ _ _ ⟨rfl,rfl,rfl⟩
   by_cases ax:1<C14 (fF n d)
   .have V:(1:Int)<(C14 (fF n d):Int):=O0
    simp only[W0,V];refine R0 (B79 (Q.ext E) a8 hl ae) ?_;rintro r1 H7 aw ⟨aj,a2⟩;obtain⟨x1,y1,rfl,ak,au⟩:=W83 a3 aj;simp only[W0];refine R0 (B79 ((hw.ext E).ext a2) (a8.ext a2) ad ae) ?_;rintro r2 H8 az ⟨ap,ah⟩;obtain⟨x2,y2,rfl,an,ay⟩:=W83 a3 ap;simp only[W0];exact hj _ _ _ ⟨x1,x2,rfl,by rw[eN];exact ak.ext ah,by rw[eD];exact an,(E.trans a2).trans ah⟩
   .have V:¬ (1:Int)<(C14 (fF n d):Int):=O0
    have ac:fF n d=1:=E89.1 (by have:=C65 a3;omega);simp only[W0,V];exact hj _ _ _ ⟨_,_,rfl,by rw[eN,ac,Nat.div_one];exact Q.ext E,by rw[eD,ac,Nat.div_one];exact hw.ext E,E⟩
  .have a1:¬ (1:Int)<(C14 d:Int):=O0
   have a5:d=1:=E89.1 (by have:=C65 al;omega);simp only[W0,a1];refine hj _ _ _ ⟨_,_,rfl,?_,?_,D0.refl _ _⟩
   .rw[eN,a5,Nat.gcd_one_right,Nat.div_one];exact Q
   .rw[eD,a5,Nat.gcd_one_right,Nat.div_one,<- a5];exact hw
 rintro L H6 J ⟨x,y,rfl,hx,hy,E⟩;have g6:=(E.get nx (by have:=O.le;omega)).trans g5;obtain⟨X,cX,rfl,hX⟩:=id hx;obtain⟨Y,cY,rfl,hY⟩:=id hy;simp only[W0,g6];rw[W65];simp only[W0,Z0,Nat.reduceAdd,z6 E,D7,Y12];have:=a7 s H6 J _ _ _ _ hx hy E;rw[eS];exact this
end Go.Proofs.YtoiioigihocgbaaGreatDoor
namespace Go.Clo
def sg(s:Bool)(n:Nat):Int:=if s=true then -(n:Int) else n
theorem J84(s:Bool)(n:Nat):(sg s n).natAbs=n:=by unfold sg;cases s<;>simp
theorem G110(s:Bool)(n:Nat){d:Nat}(hd:d≠0):(mkRat (sg s n) d).num.natAbs=G86 n d/\(mkRat (sg s n) d).den=K87 n d/\decide ((mkRat (sg s n) d).num<0)=B85 s n d:=by
 have e:mkRat (sg s n) d=Rat.normalize (sg s n) d hd:=by unfold mkRat;rw[dif_neg hd]
 have en:(mkRat (sg s n) d).num=sg s n/((fF n d:Nat):Int):=by
  rw[e,Rat.normalize_eq];dsimp only;rw[J84]
 have ed:(mkRat (sg s n) d).den=d/fF n d:=by
  rw[e,Rat.normalize_eq];dsimp only;rw[J84]
 rw[Q78];simp only[en,ed];have hg:0<fF n d:=Nat.gcd_pos_of_pos_right _ O0;obtain⟨k,hk⟩:=Nat.gcd_dvd_left n d;generalize hG:fF n d=G at *
 have J:sg s n/(G:Int)=sg s k:=by
  unfold sg;rw[hk]
  cases s
  .simp only[dQ,if_false]
   rw[Int.natCast_mul,Int.mul_ediv_cancel_left _ O0]
  .simp only[if_true]
   rw[Int.natCast_mul,<- Int.mul_neg,Int.mul_ediv_cancel_left _ O0]
 have E:n/G=k:=by rw[hk,Nat.mul_div_cancel_left _ hg]
 simp only[J,J84];unfold G86 K87;rw[hG]
 by_cases h0:n=0
 .have O:k=0:=by rw[h0] at E;simp at E;exact E.symm
  have Q:G=d:=by rw[<- hG,h0,Nat.gcd_zero_left]
  rw[if_pos (.inl h0),if_pos (.inl h0),O,h0,Q,Nat.div_self O0];refine⟨rfl,rfl,?_⟩;unfold sg;cases s<;>simp
 .have h1:¬ (n=0\/d=0):=O0
  rw[if_neg h1,if_neg h1];have U:0<k:=by
   rcases cI k with e | e
   .rw[e] at hk;omega
   .exact e
  refine⟨E.symm,rfl,?_⟩;rw[decide_eq_true (show 0<n by omega),Bool.and_true];unfold sg;cases s
  .simp
  .simp;omega
def RR(H:Y0)(nx:Nat)(v:Value)(x:Rat):Prop:=RT H nx v (decide (x.num<0)) x.num.natAbs x.den
theorem RR.ext{H:Y0}{nx:Nat}{v:Value}{x:Rat}{H':Y0}{nx':Nat}(h:RR H nx v x)(e:D0 H nx H' nx'):RR H' nx' v x:=RT.ext h e
theorem B101(x:Rat):sg (decide (x.num<0)) x.num.natAbs=x.num:=by
 unfold sg
 by_cases h:x.num<0
 .rw[if_pos (decide_eq_true h)];omega
 .rw[if_neg (by simp[h])];omega
def U15(x:Rat)(L:Nat):Prop:=(D11 x.num.natAbs).length<L/\(D11 x.den).length<L
end Go.Clo
namespace Go.Proofs.YtoiioigihocgbaaGreatDoor
open Go.Clo
theorem V85{v:Value}{s:Bool}{n d:Nat}{H:Y0}{nx:Nat}(h:RT H nx v s n d)(hd:d≠0)(hl:(D11 n).length<400000)(E:(D11 d).length<400000):
  Q2 gQ 80 [v] H nx fun r H' nx'=>RR H' nx' r (mkRat (sg s n) d)/\D0 H nx H' nx':=by
 refine(B97 h hl E).mono ?_;rintro r H' nx' ⟨hr,hE⟩;obtain⟨e1,e2,e3⟩:=G110 s n hd;refine⟨?_,hE⟩;unfold RR;rw[e1,e2,e3];exact hr
theorem E71{v:Value}{x:Rat}{H:Y0}{nx:Nat}(h:RR H nx v x)(hx:U15 x 400000):Q2 gQ 80 [v] H nx fun r H' nx'=>RR H' nx' r x/\D0 H nx H' nx':=by
 have:=V85 h x.den_nz hx.1 hx.2;rw[B101,Rat.mkRat_self] at this;exact this
theorem E74{v:Value}{x:Rat}{H:Y0}{nx:Nat}(h:RR H nx v x)(hx:U15 x 400000):Q2 gQ 96 [v] H nx fun r H' nx'=>O8 (x.num.sign)=r/\D0 H nx H' nx':=by
 obtain⟨nv,dv,rfl,hn,hd⟩:=h;refine spec96 ?_;unfold F96;obtain⟨A0,c0,rfl,Q⟩:=id hn;obtain⟨C0,d0,rfl,O⟩:=id hd;simp only[W0,Z0,Q0.val];generalize hK:hs H nx (O7 [.bool (decide (x.num<0)),.slice A0 (D11 x.num.natAbs).length c0,.slice C0 (D11 x.den).length d0])=K;have gK:J0 K nx=O7 [.bool (decide (x.num<0)),.slice A0 (D11 x.num.natAbs).length c0,.slice C0 (D11 x.den).length d0]:=by rw[<- hK,Z11]
 have J:D0 H nx K (nx+1):=by rw[<- hK];exact(D0.refl H nx).nw _
 refine R0 (M77 (hn.ext J) (by have:=hx.1;omega)) ?_;rintro _ _ _ ⟨rfl,rfl,rfl⟩
 by_cases h0:x.num=0
 .have e:decide ((C14 x.num.natAbs:Int)=0)=true:=decide_eq_true (by rw[h0];rfl)
  simp only[W0,h0,Int.sign_zero];exact J
 .have hp:0<x.num.natAbs:=O0
  have hb:=C65 hp;have e:decide ((C14 x.num.natAbs:Int)=0)=false:=decide_eq_false O0
  by_cases E:x.num<0
  .simp only[W0,e,gK,decide_eq_true E,Int.sign_eq_neg_one_of_neg E]
   exact J
  .simp only[W0,e,gK,decide_eq_false E,Int.sign_eq_one_of_pos (show 0<x.num by omega)]
   exact J
end Go.Proofs.YtoiioigihocgbaaGreatDoor
namespace Go.Clo
theorem N108(x:Rat):sg (!decide (x.num<0)) x.num.natAbs = -x.num:=by
 unfold sg
 by_cases h:x.num<0
 .simp only[decide_eq_true h,Bool.not_true,dQ,if_false];omega
 .simp only[decide_eq_false h,Bool.not_false,if_true];omega
theorem R101(x:Rat):mkRat (-x.num) x.den = -x:=by rw[<- Rat.neg_mkRat,Rat.mkRat_self]
theorem RR.box{H:Y0}{nx i sl:Nat}{v:Value}{x:Rat}{row row':List Value}(h:RR H nx v x)(hg:J0 H i=some (.cells row sl))(hr:∀(q:Nat) (z:Int),row[q]? ≠ some (cD .u32 z)):RR (hs H i (O7 row')) nx v x:=
 let ⟨a,b,h1,h2,h3⟩:=h;⟨a,b,h1,NN.box h2 hg hr,NN.box h3 hg hr⟩
end Go.Clo
namespace Go.Proofs.YtoiioigihocgbaaGreatDoor
open Go.Clo
theorem G102{v:Value}{x:Rat}{H:Y0}{nx:Nat}(h:RR H nx v x)(hx:U15 x 400000):Q2 gQ 138 [v] H nx fun r H' nx'=>RR H' nx' r (-x)/\D0 H nx H' nx':=by
 obtain⟨nv,dv,rfl,hn,hd⟩:=h;refine spec138 ?_;unfold F138;obtain⟨A0,c0,rfl,Z⟩:=id hn;obtain⟨C0,d0,rfl,W⟩:=id hd;simp(disch:=omega)only[W0,Z0,Q0.val];have O:J0 (hs (hs H nx (O7 [.bool (decide (x.num<0)),.slice A0 (D11 x.num.natAbs).length c0,.slice C0 (D11 x.den).length d0])) (nx+1) (O7 [.bool false,O6,O6])) (nx+1)=O7 [.bool false,O6,O6]:=Z11 _ _ _;have E:D0 H nx (hs (hs H nx (O7 [.bool (decide (x.num<0)),.slice A0 (D11 x.num.natAbs).length c0,.slice C0 (D11 x.den).length d0])) (nx+1) (O7 [.bool false,O6,O6])) (nx+1+1):=
  ((D0.refl H nx).nw _:D0 H nx _ (nx+1)).nw _
 generalize hs (hs H nx (O7 [.bool (decide (x.num<0)),.slice A0 (D11 x.num.natAbs).length c0,.slice C0 (D11 x.den).length d0])) (nx+1) (O7 [.bool false,O6,O6])=K at O E ⊢;rw[W65];refine R0 (V85 (s := !decide (x.num<0)) ⟨_,_,rfl,hn.ext E,hd.ext E⟩ x.den_nz hx.1 hx.2) ?_;rintro r H3 V ⟨hr,J⟩;rw[N108,R101] at hr;have g3:=(J.gt (nx+1)).trans O;have hb:=RR.box (row':=[.bool (decide ((-x).num<0)),O6,O6]) hr g3 (E46 _ _ _ _ _ _ _);obtain⟨a1,b1,rfl,Q,U⟩:=id hr;obtain⟨X,cX,rfl,hX⟩:=id Q;obtain⟨Y,cY,rfl,hY⟩:=id U;simp only[W0,Z0,Nat.reduceAdd,g3,D7,Y12];exact⟨RR.box hr g3 (E46 _ _ _ _ _ _ _),(E.trans J).h0⟩
theorem E95{n:Int}(h1 : -1000000<=n)(h2:n<=1000000)(H:Y0)(nx:Nat):Q2 gQ 94 [O8 n] H nx fun r H' nx'=>NN H' nx' r n.natAbs/\D0 H nx H' nx':=by
 refine spec94 ?_;unfold F94
 by_cases E:n<0
 .obtain⟨m,rfl⟩:∃ m:Nat,n = -(m:Int):=⟨n.natAbs,O0⟩
  have hm:0<m:=O0;have e1:∀ k:VP,W8 .u64 (O8 (-(m:Int))) k=k (.int .u64 ((18446744073709551616-m:Nat):Int)):=fun k=>by
   rw[Z32];congr 2;simp only[eY,eK,dW];simp;omega
  have e2:∀ k:VP,wUn .neg (.int .u64 ((18446744073709551616-m:Nat):Int)) k=k (.int .u64 (m:Int)):=fun k=>by
   unfold wUn;rw[J8];have:unV .neg (.int .u64 ((18446744073709551616-m:Nat):Int))=some (.int .u64 (IntKind.u64.wrap (0-((18446744073709551616-m:Nat):Int)))):=rfl;rw[this];simp only[aN];congr 2;simp only[eY,eK,dW];simp;omega
  have J : -(m:Int)<0:=E;simp only[W0,J,e1,e2];refine R0 (R81 (n:=m) O0 H nx) ?_;rintro r H1 O ⟨hr,hE⟩;rw[show(-(m:Int)).natAbs=m by omega];exact⟨hr,hE⟩
 .obtain⟨m,rfl⟩:∃ m:Nat,n=(m:Int):=⟨n.natAbs,O0⟩
  simp only[W0,E,U22 _ (show m<18446744073709551616 by omega)];refine R0 (R81 (n:=m) O0 H nx) ?_;rintro r H1 O ⟨hr,hE⟩;exact⟨hr,hE⟩
end Go.Proofs.YtoiioigihocgbaaGreatDoor
namespace Go.Clo
theorem B72{a b la lb:Nat}(ha:(D11 a).length<=la)(hb:(D11 b).length<=lb):(D11 (a*b)).length<=la+lb:=by
 have h1:a<4294967296^la:=aO (Q68 a) (aK O0 ha);have h2:b<4294967296^lb:=aO (Q68 b) (aK O0 hb);refine E29 ?_;rw[Nat.pow_add];exact Nat.mul_lt_mul_of_lt_of_lt h1 h2
theorem D109(x y:Rat):sg (!(decide (x.num<0)==decide (y.num<0))) (x.num.natAbs*y.num.natAbs)=x.num*y.num:=by
 unfold sg;have ex:(x.num.natAbs:Int)=if x.num<0 then -x.num else x.num:=by split<;>omega
 have ey:(y.num.natAbs:Int)=if y.num<0 then -y.num else y.num:=by split<;>omega
 rw[Int.natCast_mul,ex,ey]
 by_cases hx:x.num<0
 .by_cases hy:y.num<0
  .simp[hx,hy,Int.neg_mul,Int.mul_neg]
  .simp[hx,hy,Int.neg_mul]
 .by_cases hy:y.num<0
  .simp[hx,hy,Int.mul_neg]
  .simp[hx,hy]
theorem N101(x y:Rat):mkRat (x.num*y.num) (x.den*y.den)=x*y:=by
 rw[<- Rat.mkRat_mul_mkRat,Rat.mkRat_self,Rat.mkRat_self]
theorem N86(neg a b:Bool)(k:VP):D9 (.eqb neg) [.bool a,.bool b] k=k (.bool (cond neg (!(a==b)) (a==b))):=by
 unfold D9;rw[J8];rfl
theorem RR.form{H:Y0}{nx:Nat}{v:Value}{x:Rat}(h:RR H nx v x):∃ A l1 c1 C l2 c2,v = .agg ⟨[.bool (decide (x.num<0)),.slice A l1 c1,.slice C l2 c2]⟩/\NN H nx (.slice A l1 c1) x.num.natAbs/\NN H nx (.slice C l2 c2) x.den:=by
 obtain⟨a,b,rfl,h1,h2⟩:=h;obtain⟨A,c1,rfl,_⟩:=id h1;obtain⟨C,c2,rfl,_⟩:=id h2;exact⟨A,_,c1,C,_,c2,rfl,h1,h2⟩
end Go.Clo
namespace Go.Proofs.YtoiioigihocgbaaGreatDoor
open Go.Clo
theorem N100{v w:Value}{x y:Rat}{H:Y0}{nx:Nat}(hv:RR H nx v x)(hw:RR H nx w y)(hx:U15 x 100000)(hy:U15 y 100000):
  Q2 gQ 143 [v,w] H nx fun r H' nx'=>RR H' nx' r (x*y)/\D0 H nx H' nx':=by
 obtain⟨A0,l0,c0,C0,m0,d0,rfl,bz,bo⟩:=hv.form;obtain⟨A1,l1,c1,C1,m1,d1,rfl,bw,c6⟩:=hw.form;refine spec143 ?_;unfold F143;generalize ak:decide (x.num<0)=sx at *
 generalize au:decide (y.num<0)=sy at *
 simp(disch:=omega)only[W0,Z0,Q0.val];obtain⟨K,hK⟩:∃ K,K=hs (hs (hs H nx (O7 [.bool sx,.slice A0 l0 c0,.slice C0 m0 d0])) (nx+1) (O7 [.bool sy,.slice A1 l1 c1,.slice C1 m1 d1])) (nx+1+1) (O7 [.bool false,O6,O6]):=⟨_,rfl⟩
 have ac:J0 K nx=O7 [.bool sx,.slice A0 l0 c0,.slice C0 m0 d0]:=by rw[hK,gN _,gN _,Z11]
 have al:J0 K (nx+1)=O7 [.bool sy,.slice A1 l1 c1,.slice C1 m1 d1]:=by rw[hK,gN _,Z11]
 have b3:J0 K (nx+1+1)=O7 [.bool false,O6,O6]:=by rw[hK,Z11]
 have a1:D0 H nx K (nx+1+1+1+6):=⟨O0,fun i hi=>by rw[hK,gN _,gN _,gN _]⟩
 rw[<- hK];simp only[W0,Y12];have b4:RR K (nx+1+1+1+6) (.agg ⟨[.bool sx,.slice A0 l0 c0,.slice C0 m0 d0]⟩) x:=hv.ext a1;refine R0 (E71 b4 ⟨by have:=hx.1;omega,by have:=hx.2;omega⟩) ?_;rintro r1 H5 c7 ⟨ae,J⟩;have a3:=(J.gt nx).trans ac;have a2:=(J.gt (nx+1)).trans al;have aq:=(J.gt (nx+1+1)).trans b3;obtain⟨A2,l2,c2,C2,m2,d2,rfl,aj,ap⟩:=ae.form;simp only[ak] at ae ⊢;simp only[W0,Z0,Nat.reduceAdd,a2,Y12];refine R0 (E71 (hw.ext (a1.trans J)) ⟨by have:=hy.1;omega,by have:=hy.2;omega⟩) ?_;rintro r2 H6 Z ⟨aw,Q⟩;have a5:=(Q.get nx (by have:=J.le;omega)).trans a3;have a4:=(Q.get (nx+1) (by have:=J.le;omega)).trans a2;have ay:=(Q.get (nx+1+1) (by have:=J.le;omega)).trans aq;obtain⟨A3,l3,c3,C3,m3,d3,rfl,av,ax⟩:=aw.form;simp only[au] at aw ⊢;obtain⟨M,hM⟩:∃ M,M=hs (hs H6 nx (O7 [.bool sx,.slice A2 l2 c2,.slice C2 m2 d2])) (nx+1) (O7 [.bool sy,.slice A3 l3 c3,.slice C3 m3 d3]):=⟨_,rfl⟩
 have a7:J0 (hs H6 nx (O7 [.bool sx,.slice A2 l2 c2,.slice C2 m2 d2])) (nx+1)=O7 [.bool sy,.slice A1 l1 c1,.slice C1 m1 d1]:=by rw[gN _];exact a4
 have ag:J0 M nx=O7 [.bool sx,.slice A2 l2 c2,.slice C2 m2 d2]:=by rw[hM,gN _,Z11]
 have ao:J0 M (nx+1)=O7 [.bool sy,.slice A3 l3 c3,.slice C3 m3 d3]:=by rw[hM,Z11]
 have bc:J0 M (nx+1+1)=O7 [.bool false,O6,O6]:=by rw[hM,gN _,gN _];exact ay
 have bd:D0 H nx M (Z+18):=⟨by have:=a1.le;have:=J.le;have:=Q.le;omega,fun i hi=>by rw[hM,gN _,gN _];exact((a1.trans J).trans Q).get i hi⟩
 have W:∀ {u:Value} {q:Nat},NN H6 Z u q->NN M (Z+18) u q:=fun h=>by
  rw[hM];exact NN.ext (NN.box (NN.box h a5 (E46 _ _ _ _ _ _ _)) a7 (E46 _ _ _ _ _ _ _)) (D0.sf)
 simp(disch:=omega)only[W0,Z0,Nat.reduceAdd,a5,a4,D7,N86,cond_true];rw[<- hM];have b5:(D11 x.num.natAbs).length<100000:=hx.1;have bf:(D11 x.den).length<100000:=hx.2;have az:(D11 y.num.natAbs).length<100000:=hy.1;have b8:(D11 y.den).length<100000:=hy.2;refine R0 (Z79 (W (aj.ext Q)) (W av) O0 O0) ?_;rintro p1 c9 a6 ⟨an,E⟩;have bx:nx+1+1<Z:=by have:=a1.le;have:=J.le;have:=Q.le;omega
 have U:=(E.gt nx).trans ag;have V:=(E.gt (nx+1)).trans ao;have ad:=(E.gt (nx+1+1)).trans bc;simp only[W0,U,V];refine R0 (Z79 ((W (ap.ext Q)).ext E) ((W ax).ext E) O0 O0) ?_;rintro p2 bv ai ⟨ah,O⟩;have ba:Z+18<=a6:=E.le;have ab:=(O.gt nx).trans U;have aa:=(O.gt (nx+1)).trans V;have a9:=(O.gt (nx+1+1)).trans ad;obtain⟨X,cX,rfl,hX⟩:=id an;obtain⟨Y,cY,rfl,hY⟩:=id ah;rw[W65];have c8:=B72 (la:=100000) (lb:=100000) (eG b5) (eG az);have bk:=B72 (la:=100000) (lb:=100000) (eG bf) (eG b8);refine R0 (V85 (s := !(sx==sy)) ⟨_,_,rfl,an.ext O,ah⟩ (Nat.mul_ne_zero x.den_nz y.den_nz) O0 O0) ?_;rintro r bu bh ⟨hr,a8⟩;have e3:=D109 x y;rw[ak,au] at e3;rw[e3,N101] at hr;have bg:a6<=ai:=O.le;have a0:=(a8.gt (nx+1+1)).trans a9;obtain⟨A4,l4,c4,C4,m4,d4,rfl,bt,ca⟩:=id hr.form;simp only[W0,Z0,Nat.reduceAdd,a0,D7,Y12,ab,aa];exact⟨RR.box hr a0 (E46 _ _ _ _ _ _ _),(((bd.trans E).trans O).trans a8).h0⟩
end Go.Proofs.YtoiioigihocgbaaGreatDoor
namespace Go.Clo
theorem Q83(y:Rat)(h:y.num≠0):(y⁻¹).num=sg (decide (y.num<0)) y.den/\(y⁻¹).den=y.num.natAbs:=by
 show(Rat.inv y).num=_/\(Rat.inv y).den=_;unfold Rat.inv
 by_cases h1:y.num<0
 .rw[dif_pos h1]
  refine⟨?_,rfl⟩;unfold sg;simp[h1]
 .rw[dif_neg h1,dif_pos (show y.num > 0 by omega)]
  refine⟨?_,rfl⟩;unfold sg;simp[h1]
theorem R108(y:Rat)(h:y.num≠0):decide ((y⁻¹).num<0)=decide (y.num<0):=by
 rw[(Q83 y h).1];have:=y.den_pos;unfold sg
 by_cases h1:y.num<0
 .simp[h1];omega
 .simp[h1]
end Go.Clo
namespace Go.Proofs.YtoiioigihocgbaaGreatDoor
open Go.Clo
theorem M101{v w:Value}{x y:Rat}{H:Y0}{nx:Nat}(hv:RR H nx v x)(hw:RR H nx w y)(hx:U15 x 100000)(hy:U15 y 100000)(O:y.num≠0):
  Q2 gQ 141 [v,w] H nx fun r H' nx'=>(∃ u,r = .tuple ⟨[u,O8 0]⟩/\RR H' nx' u (x/y))/\D0 H nx H' nx':=by
 obtain⟨A0,l0,c0,C0,m0,d0,rfl,ao,ag⟩:=hv.form;obtain⟨A1,l1,c1,C1,m1,d1,rfl,ak,ap⟩:=hw.form;refine spec141 ?_;unfold F141;generalize ah:decide (x.num<0)=sx at *
 generalize a7:decide (y.num<0)=sy at *
 simp(disch:=omega)only[W0,Z0,Q0.val];obtain⟨K,hK⟩:∃ K,K=hs (hs (hs H nx (O7 [.bool sx,.slice A0 l0 c0,.slice C0 m0 d0])) (nx+1) (O7 [.bool sy,.slice A1 l1 c1,.slice C1 m1 d1])) (nx+1+1) (O7 [.bool false,O6,O6]):=⟨_,rfl⟩
 have ac:J0 K nx=O7 [.bool sx,.slice A0 l0 c0,.slice C0 m0 d0]:=by rw[hK,gN _,gN _,Z11]
 have a3:J0 K (nx+1)=O7 [.bool sy,.slice A1 l1 c1,.slice C1 m1 d1]:=by rw[hK,gN _,Z11]
 have a9:J0 K (nx+1+1)=O7 [.bool false,O6,O6]:=by rw[hK,Z11]
 have W:D0 H nx K (nx+1+1+1):=⟨O0,fun i hi=>by rw[hK,gN _,gN _,gN _]⟩
 rw[<- hK];simp only[Y12];have ad:RR K (nx+1+1+1) (.agg ⟨[.bool sy,.slice A1 l1 c1,.slice C1 m1 d1]⟩) y:=hw.ext W;refine R0 (E71 ad ⟨by have:=hy.1;omega,by have:=hy.2;omega⟩) ?_;rintro r1 H5 a0 ⟨a1,E⟩;have U:=(E.gt nx).trans ac;have J:=(E.gt (nx+1)).trans a3;have a5:=(E.gt (nx+1+1)).trans a9;obtain⟨A2,l2,c2,C2,m2,d2,rfl,Q,a4⟩:=a1.form;simp only[a7] at a1 ⊢;have hL:l2=(D11 y.num.natAbs).length:=by
  obtain⟨A,c,e,_⟩:=Q
  cases e;rfl
 have aa:decide (l2=0)=false:=decide_eq_false (fun e=>O (by
  have:=M65.1 (hL.symm.trans e);omega))
 obtain⟨M,hM⟩:∃ M,M=hs H5 (nx+1) (O7 [.bool sy,.slice A2 l2 c2,.slice C2 m2 d2]):=⟨_,rfl⟩
 have ae:J0 M nx=O7 [.bool sx,.slice A0 l0 c0,.slice C0 m0 d0]:=by rw[hM,gN _];exact U
 have al:J0 M (nx+1)=O7 [.bool sy,.slice A2 l2 c2,.slice C2 m2 d2]:=by rw[hM,Z11]
 have ab:J0 M (nx+1+1)=O7 [.bool false,O6,O6]:=by rw[hM,gN _];exact a5
 have a6:D0 H nx M a0:=⟨by have:=W.le;have:=E.le;omega,fun i hi=>by rw[hM,gN _];exact(W.trans E).get i hi⟩
 have aj:nx+1+1<a0:=by have:=E.le;omega
 simp(disch:=omega)only[W0,Z0,Nat.reduceAdd,J,D7,Y12,U,aa];rw[<- hM];rw[W65];have a8:RR M a0 (.agg ⟨[.bool sy,.slice C2 m2 d2,.slice A2 l2 c2]⟩) (y⁻¹):=by
  obtain⟨e1,e2⟩:=Q83 y O;unfold RR;rw[R108 y O,a7,e1,e2,J84,hM];exact⟨_,_,rfl,NN.box a4 J (E46 _ _ _ _ _ _ _),NN.box Q J (E46 _ _ _ _ _ _ _)⟩
 have Z:U15 (y⁻¹) 100000:=by
  obtain⟨e1,e2⟩:=Q83 y O;unfold U15;rw[e1,e2,J84];exact⟨hy.2,hy.1⟩
 refine R0 (N100 (hv.ext a6) a8 hx Z) ?_;rintro r H7 an ⟨hr,a2⟩;have V:=(a2.gt (nx+1+1)).trans ab;obtain⟨A4,l4,c4,C4,m4,d4,rfl,ai,aq⟩:=id hr.form;simp only[W0,Z0,Nat.reduceAdd,V,D7,Y12];refine⟨⟨_,rfl,?_⟩,(a6.trans a2).h0⟩;rw[Rat.div_def];exact RR.box hr V (E46 _ _ _ _ _ _ _)
end Go.Proofs.YtoiioigihocgbaaGreatDoor
namespace Go.Clo
theorem W98(x:Rat)(d:Nat):sg (decide (x.num<0)) (x.num.natAbs*d)=x.num*(d:Int):=by
 have e:=B101 x;unfold sg at *
 by_cases h:decide (x.num<0)=true
 .rw[if_pos h] at *
  rw[Int.natCast_mul,<- Int.neg_mul,e]
 .rw[if_neg h] at *
  rw[Int.natCast_mul,e]
theorem R102(x y:Rat):mkRat (x.num*(y.den:Int)+y.num*(x.den:Int)) (x.den*y.den)=x+y:=by
 have:=Rat.mkRat_add_mkRat x.num y.num x.den_nz y.den_nz;rw[Rat.mkRat_self,Rat.mkRat_self] at this;exact this.symm
theorem E109(s:Bool)(a b:Nat):sg s (a+b)=sg s a+sg s b:=by unfold sg;cases s<;>simp<;>omega
theorem G108(s:Bool){a b:Nat}(h:b<=a):sg s (a-b)=sg s a+sg (!s) b:=by unfold sg;cases s<;>simp<;>omega
theorem B108(s:Bool){a b:Nat}(h:a<=b):sg (!s) (b-a)=sg s a+sg (!s) b:=by unfold sg;cases s<;>simp<;>omega
theorem N98{a b L:Nat}(ha:(D11 a).length<=L)(hb:(D11 b).length<=L):(D11 (a+b)).length<=L+1:=by
 have h1:a<4294967296^L:=aO (Q68 a) (aK O0 ha);have h2:b<4294967296^L:=aO (Q68 b) (aK O0 hb);refine E29 ?_;rw[dR];omega
end Go.Clo
namespace Go.Proofs.YtoiioigihocgbaaGreatDoor
open Go.Clo
theorem Q109{v w:Value}{x y:Rat}{H:Y0}{nx:Nat}(hv:RR H nx v x)(hw:RR H nx w y)(hx:U15 x 100000)(hy:U15 y 100000):
  Q2 gQ 144 [v,w] H nx fun r H' nx'=>RR H' nx' r (x+y)/\D0 H nx H' nx':=by
 obtain⟨A0,l0,c0,C0,m0,d0,rfl,du,dm⟩:=hv.form;obtain⟨A1,l1,c1,C1,m1,d1,rfl,dq,dv⟩:=hw.form;refine spec144 ?_;unfold F144;generalize c7:decide (x.num<0)=sx at *
 generalize ci:decide (y.num<0)=sy at *
 simp(disch:=omega)only[W0,Z0,Q0.val];obtain⟨K,hK⟩:∃ K,K=hs (hs (hs H nx (O7 [.bool sx,.slice A0 l0 c0,.slice C0 m0 d0])) (nx+1) (O7 [.bool sy,.slice A1 l1 c1,.slice C1 m1 d1])) (nx+1+1) (O7 [.bool false,O6,O6]):=⟨_,rfl⟩
 have bg:J0 K nx=O7 [.bool sx,.slice A0 l0 c0,.slice C0 m0 d0]:=by rw[hK,gN _,gN _,Z11]
 have c8:J0 K (nx+1)=O7 [.bool sy,.slice A1 l1 c1,.slice C1 m1 d1]:=by rw[hK,gN _,Z11]
 have cy:J0 K (nx+1+1)=O7 [.bool false,O6,O6]:=by rw[hK,Z11]
 have aa:D0 H nx K (nx+1+1+1+6):=⟨O0,fun i hi=>by rw[hK,gN _,gN _,gN _]⟩
 rw[<- hK];simp only[W0,Y12];have d5:RR K (nx+1+1+1+6) (.agg ⟨[.bool sx,.slice A0 l0 c0,.slice C0 m0 d0]⟩) x:=hv.ext aa;refine R0 (E71 d5 ⟨by have:=hx.1;omega,by have:=hx.2;omega⟩) ?_;rintro r1 H5 dw ⟨bu,V⟩;have aq:=(V.gt nx).trans bg;have ag:=(V.gt (nx+1)).trans c8;have cf:=(V.gt (nx+1+1)).trans cy;obtain⟨A2,l2,c2,C2,m2,d2,rfl,c6,az⟩:=bu.form;simp only[c7] at bu ⊢;simp only[W0,Z0,Nat.reduceAdd,ag,Y12];refine R0 (E71 (hw.ext (aa.trans V)) ⟨by have:=hy.1;omega,by have:=hy.2;omega⟩) ?_;rintro r2 H6 a9 ⟨co,a3⟩;have aw:=(a3.get nx (by have:=V.le;omega)).trans aq;have au:=(a3.get (nx+1) (by have:=V.le;omega)).trans ag;have ct:=(a3.get (nx+1+1) (by have:=V.le;omega)).trans cf;obtain⟨A3,l3,c3,C3,m3,d3,rfl,cn,b4⟩:=co.form;simp only[ci] at co ⊢;obtain⟨M,hM⟩:∃ M,M=hs (hs H6 nx (O7 [.bool sx,.slice A2 l2 c2,.slice C2 m2 d2])) (nx+1) (O7 [.bool sy,.slice A3 l3 c3,.slice C3 m3 d3]):=⟨_,rfl⟩
 have ay:J0 (hs H6 nx (O7 [.bool sx,.slice A2 l2 c2,.slice C2 m2 d2])) (nx+1)=O7 [.bool sy,.slice A1 l1 c1,.slice C1 m1 d1]:=by rw[gN _];exact au
 have bx:J0 M nx=O7 [.bool sx,.slice A2 l2 c2,.slice C2 m2 d2]:=by rw[hM,gN _,Z11]
 have ce:J0 M (nx+1)=O7 [.bool sy,.slice A3 l3 c3,.slice C3 m3 d3]:=by rw[hM,Z11]
 have de:J0 M (nx+1+1)=O7 [.bool false,O6,O6]:=by rw[hM,gN _,gN _];exact ct
 have df:D0 H nx M (a9+12):=⟨by have:=aa.le;have:=V.le;have:=a3.le;omega,fun i hi=>by rw[hM,gN _,gN _];exact((aa.trans V).trans a3).get i hi⟩
 have a0:∀ {u:Value} {q:Nat},NN H6 a9 u q->NN M (a9+12) u q:=fun h=>by
  rw[hM];exact NN.ext (NN.box (NN.box h aw (E46 _ _ _ _ _ _ _)) ay (E46 _ _ _ _ _ _ _)) (D0.sf)
 simp(disch:=omega)only[W0,Z0,Nat.reduceAdd,aw,au,D7];rw[<- hM];have d7:(D11 x.num.natAbs).length<100000:=hx.1;have ck:(D11 x.den).length<100000:=hx.2;have cu:(D11 y.num.natAbs).length<100000:=hy.1;have cc:(D11 y.den).length<100000:=hy.2;refine R0 (Z79 (a0 (c6.ext a3)) (a0 b4) O0 O0) ?_;rintro p1 dy ax ⟨d9,E⟩;have dt:nx+1+1<a9:=by have:=aa.le;have:=V.le;have:=a3.le;omega
 have a4:=(E.gt nx).trans bx;have a5:=(E.gt (nx+1)).trans ce;have bk:=(E.gt (nx+1+1)).trans de;simp only[W0,a4,a5];refine R0 (Z79 ((a0 cn).ext E) ((a0 (az.ext a3)).ext E) O0 O0) ?_;rintro p2 dp ap ⟨cx,O⟩;have d8:a9+12<=ax:=E.le;have aj:=(O.gt nx).trans a4;have ai:=(O.gt (nx+1)).trans a5;have b5:=(O.gt (nx+1+1)).trans bk;have dg:ax<=ap:=O.le;simp only[W0,aj,ai];refine R0 (Z79 (((a0 (az.ext a3)).ext E).ext O) (((a0 b4).ext E).ext O) O0 O0) ?_;rintro p3 bc a1 ⟨c9,Q⟩;have dk:ap<=a1:=Q.le;have J:=(Q.gt nx).trans aj;have a2:=(Q.gt (nx+1)).trans ai;have b8:=(Q.gt (nx+1+1)).trans b5;have ak:=(d9.ext O).ext Q;have ab:=cx.ext Q;have da:=B72 (la:=100000) (lb:=100000) (eG d7) (eG cc);have db:=B72 (la:=100000) (lb:=100000) (eG cu) (eG ck);have dd:=B72 (la:=100000) (lb:=100000) (eG ck) (eG cc);have e1:=W98 x y.den;have e2:=W98 y x.den;rw[c7] at e1;rw[ci] at e2;generalize dl:x.num.natAbs*y.den=na at *
 generalize dx:y.num.natAbs*x.den=nb at *
 have bz:x.den*y.den≠0:=Nat.mul_ne_zero x.den_nz y.den_nz;obtain⟨Z,cZ,a6,hZ⟩:=id c9;have ba:∀(s:Bool) (n:Nat) (u:Value) (H7:Y0) (al:Nat),D0 bc a1 H7 al->NN H7 al u n->sg s n=x.num*(y.den:Int)+y.num*(x.den:Int)->(D11 n).length<400000 ->
   Q2 gQ 80 [.agg ⟨[.bool s,u,p3]⟩] H7 al fun r H' nx'=>(∃ A l c C m d b,r = .agg ⟨[.bool b,.slice A l c,.slice C m d]⟩/\RR (hs H' (nx+1+1) (O7 [.bool b,.slice A l c,.slice C m d])) nx' r (x+y)/\D0 H nx (hs H' (nx+1+1) (O7 [.bool b,.slice A l c,.slice C m d])) nx') /\
    J0 H' (nx+1+1)=O7 [.bool false,O6,O6]/\D0 bc a1 H' nx':=by
  intro s n u H7 al a7 hu di hl;refine(V85 ⟨u,p3,rfl,hu,c9.ext a7⟩ bz hl O0).mono ?_;rintro r H' nx' ⟨hr,bf⟩;have g':=(bf.get (nx+1+1) (by have:=a7.le;omega)).trans ((a7.gt (nx+1+1)).trans b8);rw[di,R102] at hr;obtain⟨A4,l4,c4,C4,m4,d4,rfl,dn,dz⟩:=id hr.form;exact⟨⟨A4,l4,c4,C4,m4,d4,_,rfl,RR.box hr g' (E46 _ _ _ _ _ _ _),(((((df.trans E).trans O).trans Q).trans a7).trans bf).h0⟩,g',a7.trans bf⟩
 by_cases an:sx=sy
 .have bh:(sx==sy)=true:=by rw[an];exact beq_self_eq_true sy
  simp only[W0,J,a2,N86,cond_false,bh];refine R0 (K110 (ak.ext (D0.self (by omega:a1<=a1+9))) (ab.ext (D0.sf)) O0 O0) ?_;rintro u cq b3 ⟨hu,bv⟩;have ad:D0 bc a1 cq b3:=(D0.sf).trans bv;have bo:=(ad.gt nx).trans J;obtain⟨U,cU,rfl,hU⟩:=id hu;have dr:=N98 (L:=200000) da db;rw[a6,W65,<- a6];refine R0 (ba sx (na+nb) _ cq b3 ad hu (by rw[E109,e1];rw[an,e2]) O0) ?_;rintro r ca av ⟨⟨A,l,c,C,m,d,b,rfl,hr,ae⟩,a8,ah⟩;have dc:=(ah.gt nx).trans J;simp only[W0,Z0,Nat.reduceAdd,a8,D7,Y12,bo];exact⟨hr,ae⟩
 .have bh:(sx==sy)=false:=beq_false_of_ne an
  have ao:sy = !sx:=by revert an;cases sx<;>cases sy<;>simp
  simp only[W0,J,a2,N86,cond_false,bh];refine R0 (C101 ak ab O0 O0) ?_;rintro t dh cp ⟨ht,W⟩;have bd:=(W.gt nx).trans J;have d6:=(W.gt (nx+1)).trans a2
  by_cases cd:na<nb
  .rw[if_pos cd] at ht
   subst ht;have cz:decide ((19:Int)=0)=false:=rfl;simp only[W0,cz];refine R0 (C101 (ab.ext W) (ak.ext W) O0 O0) ?_;rintro t2 dj cj ⟨cg,bw⟩;rw[if_neg O0] at cg;obtain⟨u,rfl,hu⟩:=cg;have ac:=W.trans bw;have bt:=(ac.gt (nx+1)).trans a2;obtain⟨U,cU,rfl,hU⟩:=id hu;simp only[W0,bt];rw[a6,W65,<- a6];refine R0 (ba sy (nb-na) _ dj cj ac hu (by rw[ao] at e2 ⊢;rw[B108 sx O0,e1,e2]) (iF (N73 (Nat.sub_le nb na)) O0)) ?_;rintro r ca av ⟨⟨A,l,c,C,m,d,b,rfl,hr,ae⟩,a8,ah⟩;simp only[W0,Z0,Nat.reduceAdd,a8,D7,Y12];exact⟨hr,ae⟩
  .rw[if_neg cd] at ht
   obtain⟨u,rfl,hu⟩:=ht;obtain⟨U,cU,rfl,hU⟩:=id hu;have cv:decide ((0:Int)=0)=true:=rfl;simp only[W0,bd];rw[a6,W65,<- a6];refine R0 (ba sx (na-nb) _ dh cp W hu (by rw[G108 sx O0,e1];rw[ao] at e2;rw[e2]) (iF (N73 (Nat.sub_le na nb)) O0)) ?_;rintro r ca av ⟨⟨A,l,c,C,m,d,b,rfl,hr,ae⟩,a8,ah⟩;simp only[W0,Z0,Nat.reduceAdd,a8,D7,Y12];exact⟨hr,ae⟩
theorem Z110{v w:Value}{x y:Rat}{H:Y0}{nx:Nat}(hv:RR H nx v x)(hw:RR H nx w y)(hx:U15 x 100000)(hy:U15 y 100000):
  Q2 gQ 142 [v,w] H nx fun r H' nx'=>RR H' nx' r (x-y)/\D0 H nx H' nx':=by
 obtain⟨A0,l0,c0,C0,m0,d0,rfl,ab,a8⟩:=hv.form;obtain⟨A1,l1,c1,C1,m1,d1,rfl,a5,ac⟩:=hw.form;refine spec142 ?_;unfold F142;generalize a9:decide (x.num<0)=sx at *
 generalize a4:decide (y.num<0)=sy at *
 simp(disch:=omega)only[W0,Z0,Q0.val];obtain⟨K,hK⟩:∃ K,K=hs (hs (hs H nx (O7 [.bool sx,.slice A0 l0 c0,.slice C0 m0 d0])) (nx+1) (O7 [.bool sy,.slice A1 l1 c1,.slice C1 m1 d1])) (nx+1+1) (O7 [.bool false,O6,O6]):=⟨_,rfl⟩
 have O:J0 K nx=O7 [.bool sx,.slice A0 l0 c0,.slice C0 m0 d0]:=by rw[hK,gN _,gN _,Z11]
 have a2:J0 K (nx+1)=O7 [.bool sy,.slice A1 l1 c1,.slice C1 m1 d1]:=by rw[hK,gN _,Z11]
 have a0:J0 K (nx+1+1)=O7 [.bool false,O6,O6]:=by rw[hK,Z11]
 have Q:D0 H nx K (nx+1+1+1+5):=⟨O0,fun i hi=>by rw[hK,gN _,gN _,gN _]⟩
 rw[<- hK];simp only[W0,Y12];have a1:RR K (nx+1+1+1+5) (.agg ⟨[.bool sy,.slice A1 l1 c1,.slice C1 m1 d1]⟩) y:=hw.ext Q;refine R0 (G102 a1 ⟨by have:=hy.1;omega,by have:=hy.2;omega⟩) ?_;rintro r1 H5 ad ⟨Z,E⟩;have W:=(E.gt nx).trans O;have U:=(E.gt (nx+1+1)).trans a0;have a3:U15 (-y) 100000:=by
  unfold U15;rw[Rat.neg_num,Rat.neg_den,Int.natAbs_neg];exact hy
 refine R0 (Q109 ((hv.ext Q).ext E) Z hx a3) ?_;rintro r H6 a6 ⟨hr,V⟩;have J:=(V.get (nx+1+1) (by have:=E.le;omega)).trans U;obtain⟨A4,l4,c4,C4,m4,d4,rfl,aa,a7⟩:=id hr.form;simp only[W0,Z0,Nat.reduceAdd,J,D7,Y12,W];rw[Rat.sub_eq_add_neg];exact⟨RR.box hr J (E46 _ _ _ _ _ _ _),((Q.trans E).trans V).h0⟩
end Go.Proofs.YtoiioigihocgbaaGreatDoor
namespace Go.Clo
def N70(x y:Rat):Int:=if x<y then -1 else if y<x then 1 else 0
theorem K94(x y:Rat):N70 x y=if x.num*(y.den:Int)<y.num*(x.den:Int) then -1 else if y.num*(x.den:Int)<x.num*(y.den:Int) then 1 else 0:=by
 unfold N70;simp only[Rat.lt_iff]
theorem G100(x y:Rat)(h:x.num.sign≠y.num.sign):(if x.num.sign<y.num.sign then(-1:Int) else if y.num.sign<x.num.sign then 1 else 0)=N70 x y:=by
 rw[K94];have hx:=Int.natCast_pos.2 x.den_pos;have hy:=Int.natCast_pos.2 y.den_pos;have sx:x.num.sign=1/\0<x.num\/x.num.sign=0/\x.num=0\/x.num.sign = -1/\x.num<0:=by
  rcases Int.lt_trichotomy x.num 0 with h | h | h
  .exact .inr (.inr ⟨Int.sign_eq_neg_one_of_neg h,h⟩)
  .exact .inr (.inl ⟨by rw[h];rfl,h⟩)
  .exact .inl ⟨Int.sign_eq_one_of_pos h,h⟩
 have sy:y.num.sign=1/\0<y.num\/y.num.sign=0/\y.num=0\/y.num.sign = -1/\y.num<0:=by
  rcases Int.lt_trichotomy y.num 0 with h | h | h
  .exact .inr (.inr ⟨Int.sign_eq_neg_one_of_neg h,h⟩)
  .exact .inr (.inl ⟨by rw[h];rfl,h⟩)
  .exact .inl ⟨Int.sign_eq_one_of_pos h,h⟩
 have px:∀(n:Int) (d:Int),0<d->(0<n->0<n*d)/\(n=0->n*d=0)/\(n<0->n*d<0):=fun n d hd=>
  ⟨fun h=>Int.mul_pos h hd,fun h=>by rw[h,Int.zero_mul],fun h=>Int.mul_neg_of_neg_of_pos h hd⟩
 obtain⟨p1,p2,p3⟩:=px x.num y.den hy;obtain⟨q1,q2,q3⟩:=px y.num x.den hx;generalize x.num*(y.den:Int)=a at *
 generalize y.num*(x.den:Int)=b at *
 rcases sx with ⟨e,hs⟩ | ⟨e,hs⟩ | ⟨e,hs⟩<;>rcases sy with ⟨e',hs'⟩ | ⟨e',hs'⟩ | ⟨e',hs'⟩<;>rw[e,e'] at h ⊢ <;> first | exact absurd rfl h | skip
 all_goals (first | (have:=p1 hs) | (have:=p2 hs) | (have:=p3 hs))
 all_goals (first | (have:=q1 hs') | (have:=q2 hs') | (have:=q3 hs'))
 all_goals (split<;>split<;>first | rfl | omega | (split<;>first | rfl | omega) | skip)
theorem W103(x y:Rat)(h:x.num.sign=y.num.sign):x.num.sign*X72 (x.num.natAbs*y.den) (y.num.natAbs*x.den)=N70 x y:=by
 rw[K94];unfold X72;have e1:((x.num.natAbs*y.den:Nat):Int)=(x.num.natAbs:Int)*(y.den:Int):=Int.natCast_mul _ _;have e2:((y.num.natAbs*x.den:Nat):Int)=(y.num.natAbs:Int)*(x.den:Int):=Int.natCast_mul _ _;generalize x.num.natAbs*y.den=m at *
 generalize y.num.natAbs*x.den=n at *
 rcases Int.lt_trichotomy x.num 0 with hx | hx | hx
 .have sx:=Int.sign_eq_neg_one_of_neg hx
  have hy:y.num<0:=Int.sign_eq_neg_one_iff_neg.1 (h ▸ sx);rw[show(x.num.natAbs:Int) = -x.num by omega,Int.neg_mul] at e1;rw[show(y.num.natAbs:Int) = -y.num by omega,Int.neg_mul] at e2;rw[sx];generalize x.num*(y.den:Int)=a at *
  generalize y.num*(x.den:Int)=b at *
  split<;>split<;>first | rfl | omega | (split<;>first | rfl | omega | (split<;>first | rfl | omega))
 .have hy:y.num=0:=by
   rw[hx] at h;exact Int.sign_eq_zero_iff_zero.1 h.symm
  rw[hx,hy];simp
 .have sx:=Int.sign_eq_one_of_pos hx
  have hy:0<y.num:=Int.sign_eq_one_iff_pos.1 (h ▸ sx);rw[show(x.num.natAbs:Int)=x.num by omega] at e1;rw[show(y.num.natAbs:Int)=y.num by omega] at e2;rw[sx];generalize x.num*(y.den:Int)=a at *
  generalize y.num*(x.den:Int)=b at *
  split<;>split<;>first | rfl | omega | (split<;>first | rfl | omega | (split<;>first | rfl | omega))
end Go.Clo
namespace Go.Proofs.YtoiioigihocgbaaGreatDoor
open Go.Clo
theorem R73{n:Int}(h1 : -1000000<=n)(h2:n<=1000000)(H:Y0)(nx:Nat):Q2 gQ 75 [O8 n] H nx fun r H' nx'=>RR H' nx' r (n:Rat)/\D0 H nx H' nx':=by
 refine spec75 ?_;unfold F75;simp only[W0,Q0.val];obtain⟨K,hK⟩:∃ K,K=hs H nx (O7 [.bool false,O6,O6]):=⟨_,rfl⟩
 have gK:J0 K nx=O7 [.bool false,O6,O6]:=by rw[hK,Z11]
 have W:D0 H nx K (nx+1):=⟨O0,fun i hi=>by rw[hK,gN _]⟩
 rw[<- hK];refine R0 (E95 h1 h2 K (nx+1)) ?_;rintro u H2 nx2 ⟨hu,E⟩;obtain⟨U,cU,rfl,hU⟩:=id hu;rw[K96];have Q:(D11 n.natAbs).length<400000:=by
  have:=E29 (n:=n.natAbs) (k:=1) O0;omega
 refine R0 (B97 (s:=decide (n<0)) (d:=0) ⟨_,_,rfl,hu,Y90 _ _⟩ Q (by rw[D20];simp)) ?_;rintro r H3 V ⟨hr,J⟩;have g3:=(J.get nx (by have:=E.le;omega)).trans ((E.gt nx).trans gK);have O:RR H3 V r (n:Rat):=by
  have e1:G86 n.natAbs 0=n.natAbs:=if_pos (.inr rfl);have e2:K87 n.natAbs 0=1:=if_pos (.inr rfl);have e3:B85 (decide (n<0)) n.natAbs 0=decide (n<0):=by
   rw[Q78]
   by_cases h:n<0
   .rw[decide_eq_true h,decide_eq_true (show 0<n.natAbs by omega)];rfl
   .rw[decide_eq_false h];rfl
  rw[e1,e2,e3] at hr;exact hr
 obtain⟨A4,l4,c4,C4,m4,d4,rfl,a0,Z⟩:=id O.form;simp only[W0,Z0,Nat.reduceAdd,g3,D7,Y12];exact⟨RR.box O g3 (E46 _ _ _ _ _ _ _),((W.trans E).trans J).h0⟩
section
variable {H:Y0} {nx:Nat} {v:Value} {x:Rat}
theorem B89(h:RR H nx v x)(hx:U15 x 100000):Q2 gQ 99 [v] H nx fun r H' nx'=>NN H' nx' r x.den/\D0 H nx H' nx':=by
 obtain⟨A0,l0,c0,C0,m0,d0,rfl,hn,hd⟩:=h.form;refine spec99 ?_;unfold F99;simp only[W0,Z0,Q0.val];obtain⟨K,hK⟩:∃ K,K=hs H nx (O7 [.bool (decide (x.num<0)),.slice A0 l0 c0,.slice C0 m0 d0]):=⟨_,rfl⟩
 have gK:J0 K nx=O7 [.bool (decide (x.num<0)),.slice A0 l0 c0,.slice C0 m0 d0]:=by rw[hK,Z11]
 have E:D0 H nx K (nx+1):=⟨O0,fun i hi=>by rw[hK,gN _]⟩
 rw[<- hK];refine R0 (M77 (hd.ext E) (by have:=hx.2;omega)) ?_;rintro _ _ _ ⟨rfl,rfl,rfl⟩;have hb:=C65 x.den_pos;have e:decide ((C14 x.den:Int)=0)=false:=decide_eq_false O0;simp only[W0,e,gK];exact⟨hd.ext E,E⟩
theorem X81{w:Value}{y:Rat}(hv:RR H nx v x)(hw:RR H nx w y)(hx:U15 x 100000)(hy:U15 y 100000):
  Q2 gQ 79 [v,w] H nx fun r H' nx'=>O8 (N70 x y)=r/\D0 H nx H' nx':=by
 obtain⟨A0,l0,c0,C0,m0,d0,rfl,av,bf⟩:=hv.form;obtain⟨A1,l1,c1,C1,m1,d1,rfl,an,bu⟩:=hw.form;refine spec79 ?_;unfold F79;generalize bg:decide (x.num<0)=sx at *
 generalize bo:decide (y.num<0)=sy at *
 simp(disch:=omega)only[W0,Z0,Q0.val];obtain⟨K,hK⟩:∃ K,K=hs (hs H nx (O7 [.bool sx,.slice A0 l0 c0,.slice C0 m0 d0])) (nx+1) (O7 [.bool sy,.slice A1 l1 c1,.slice C1 m1 d1]):=⟨_,rfl⟩
 have a7:J0 K nx=O7 [.bool sx,.slice A0 l0 c0,.slice C0 m0 d0]:=by rw[hK,gN _,Z11]
 have aa:J0 K (nx+1)=O7 [.bool sy,.slice A1 l1 c1,.slice C1 m1 d1]:=by rw[hK,Z11]
 have a5:D0 H nx K (nx+1+1):=⟨O0,fun i hi=>by rw[hK,gN _,gN _]⟩
 rw[<- hK];simp only[Y12];have ai:RR K (nx+1+1) (.agg ⟨[.bool sx,.slice A0 l0 c0,.slice C0 m0 d0]⟩) x:=hv.ext a5;have ao:U15 x 400000:=⟨by have:=hx.1;omega,by have:=hx.2;omega⟩
 have ax:U15 y 400000:=⟨by have:=hy.1;omega,by have:=hy.2;omega⟩
 refine R0 (E74 ai ao) ?_;rintro _ H3 bc ⟨rfl,Z⟩;have b5:=(Z.gt nx).trans a7;have a8:=(Z.gt (nx+1)).trans aa;simp only[W0,a8,Y12];have ap:=hw.ext (a5.trans Z);refine R0 (E74 ap ax) ?_;rintro _ H4 a6 ⟨rfl,aj⟩;have Q:=Z.trans aj;have a2:=a5.trans Q;have b8:nx+1+1<=a6:=Q.le;have O:=(Q.gt nx).trans a7;have U:=(Q.gt (nx+1)).trans aa
 by_cases a1:x.num.sign=y.num.sign
 case neg=>
  simp only[W0,decide_eq_true a1];refine R0 (Y81 _ _ _ _) ?_;rintro _ _ _ ⟨rfl,rfl,rfl⟩;exact⟨by rw[G100 x y a1],a2⟩
 have ah:decide (x.num.sign≠y.num.sign)=false:=by simp[a1]
 simp only[W0,ah,O,U,Y12];have E:D0 H nx H4 (a6+14):=a2.more O0;refine R0 (B89 (hw.ext E) hy) ?_;rintro q1 H7 bk ⟨ak,W⟩;have ac:=(W.gt nx).trans O;have ab:=(W.gt (nx+1)).trans U;have b1:=hx.1;have b2:=hx.2;have b3:=hy.1;have b4:=hy.2;refine R0 (Z79 (av.ext (E.trans W)) ak O0 O0) ?_;rintro p1 H8 aq ⟨al,au⟩;have J:=W.trans au;have ba:a6+14<=aq:=J.le;have a4:=(J.gt nx).trans O;have V:=(J.gt (nx+1)).trans U;simp only[W0,a4,V,Y12];refine R0 (B89 (hv.ext (E.trans J)) hx) ?_;rintro q2 H9 bd ⟨aw,a0⟩;have ad:=(a0.gt (nx+1)).trans V;refine R0 (Z79 (an.ext ((E.trans J).trans a0)) aw O0 O0) ?_;rintro p2 bw az ⟨ag,a3⟩;have da:=B72 (la:=100000) (lb:=100000) (eG b1) (eG b4);have db:=B72 (la:=100000) (lb:=100000) (eG b3) (eG b2);refine R0 (M95 ((al.ext a0).ext a3) ag O0 O0) ?_;rintro _ bh ay ⟨rfl,a9⟩;have bt : -1<=x.num.sign/\x.num.sign<=1:=by
  rcases Int.lt_trichotomy x.num 0 with h | h | h
  .rw[Int.sign_eq_neg_one_of_neg h];omega
  .rw[h];decide
  .rw[Int.sign_eq_one_of_pos h];omega
 have ae:=W103 x y a1;have bv : -1<=N70 x y/\N70 x y<=1:=by
  unfold N70
  split
  .omega
  .split<;>omega
 have em:∀ k:VP,D10 .mul (O8 x.num.sign) (O8 (X72 (x.num.natAbs*y.den) (y.num.natAbs*x.den))) k=k (O8 (N70 x y)):=fun k=>by
  rw[B82,ae,Y23 O0 O0]
 simp only[W0,em,ac,ab,ad,Y12];exact(((E.trans J).trans a0).trans a3).trans a9
end
section
variable (a0 a1 a2:Value) (H:Y0) (nx:Nat) (k:EP)
def F127:Prop:=
 M2 (nx+11) fun b=>
 C70 a0 fun c=>
 K7 c 0 H fun c d=>
 C70 a0 fun e=>
 K7 e 1 H fun e f=>
 D10 .add d f fun g=>
 D10 .add g i1 fun g=>
 wK ((tB (cE e none H f))/\(tB (tB (cE c none H d)))) (
 Rt g H b k)
def F135:Prop:=
 G29 a0 a0 zR H nx fun b c d=>
 R4 b 0 c fun e=>
 G3 (fun c d f g=>
 D10 .lss d.a e fun e=>
 K2 e (
 Y2 gQ 75 [i0] f g fun e f g=>
 M3 b d.a none 3 fun b=>
 D5 b e 3 f fun b=>
 D10 .add d.a i1 fun d=>
 c [d] b g) (
 Rt b f g k)) [i0] c d
def F136:Prop:=
 M2 (nx+10) fun b=>
 C70 a0 fun c=>
 K7 c 0 H fun c d=>
 C70 a0 fun e=>
 K7 e 1 H fun e f=>
 D10 .add d f fun g=>
 wK ((tB (cE e none H f))/\(tB (tB (cE c none H d)))) (
 Rt g H b k)
def F119:Prop:=
 M12 a0 H nx fun b c d=>
 K7 b 1 c fun _ e=>
 R4 e 0 c fun e=>
 K7 b 2 c fun _ f=>
 R4 f 0 c fun f=>
 D10 .neq e f fun e=>
 K2 e (
 Rt bF c d k) (
 K7 b 1 c fun _ e=>
 R4 e 0 c fun f=>
 G3 (fun c d g h=>
 D10 .lss d.a f fun f=>
 K2 f (
 U6 e d.a g fun _ e=>
 R4 e 0 g fun e=>
 K7 b 0 g fun _ b=>
 R4 b 0 g fun b=>
 D10 .neq e b fun b=>
 K2 b (
 Rt bF g h k) (
 D10 .add d.a i1 fun b=>
 c [b] g h)) (
 Rt bT g h k)) [i0] c d)
def F139:Prop:=
 M12 a2 H nx fun b c d=>
 R4 a0 0 c fun e=>
 G29 e e zR c d fun c d e=>
 M82 c a0 3 d e fun _ d e=>
 J1 b (some 3) d fun f=>
 Y2 gQ 96 [f] d e fun d e f=>
 D10 .eql d i0 fun d=>
 K2 d (
 Rt c e f k) (
 R4 c 0 e fun d=>
 G3 (fun e f g h=>
 D10 .lss f.a d fun d=>
 K2 d (
 V4 (fun d=>
 B15 a1 f.a 3 g fun _ e=>
 Y2 gQ 96 [e] g h fun e g h=>
 D10 .neq e i0 fun e=>
 K2 e (
 M2 (h+15) fun e=>
 B15 c f.a 3 g fun h i=>
 J1 b (some 3) g fun j=>
 B15 a1 f.a 3 g fun l m=>
 Y2 gQ 143 [j,m] g e fun e n o=>
 Y2 gQ 142 [i,e] n o fun e o p=>
 M3 c f.a none 3 fun c=>
 D5 c e 3 o fun c=>
 wK ((tA (tA (tA (tB (cE l (some 3) g m)))))/\((tA (tA (tA (tB (cE b (some 3) g j)))))/\(tB (tA (tA ((cE h (some 3) n i)/\(tB (cE h (some 3) g i)))))))) (
 d [] c p)) (
 d [] g h)) (fun _ b c=>
 D10 .add f.a i1 fun d=>
 e [d] b c)) (
 Rt c g h k)) [i0] e f)
def F137:Prop:=
 C70 a0 fun b=>
 K7 b 2 H fun _ b=>
 U6 b a1 H fun _ b=>
 R4 b 0 H fun b=>
 G29 b b zR H nx fun b c d=>
 C70 a0 fun e=>
 K7 e 2 c fun _ e=>
 U6 e a1 c fun _ e=>
 M82 b e 3 c d fun _ c d=>
 B15 b a2 3 c fun _ e=>
 wAl zR c d fun c d f=>
 D5 c e 3 d fun d=>
 R4 b 0 d fun e=>
 G3 (fun d f g h=>
 D10 .lss f.a e fun e=>
 K2 e (
 V4 (fun d=>
 B15 b f.a 3 g fun _ e=>
 Y2 gQ 96 [e] g h fun e g h=>
 D10 .neq e i0 fun e=>
 K2 e (
 M2 (h+13) fun e=>
 B15 b f.a 3 g fun h i=>
 J1 c (some 3) g fun j=>
 Y2 gQ 141 [i,j] g e fun e l m=>
 G9 e 0 fun n=>
 G9 e 1 fun _=>
 M3 b f.a none 3 fun b=>
 D5 b n 3 l fun b=>
 wK ((tA (tA (tB (cE c (some 3) g j))))/\(tB (tA (tA (tB (cE h (some 3) g i)))))) (
 d [] b m)) (
 d [] g h)) (fun _ b c=>
 D10 .add f.a i1 fun e=>
 d [e] b c)) (
 C70 a0 fun c=>
 K7 c 2 g fun _ c=>
 R4 c 0 g fun c=>
 G3 (fun d e f g=>
 D10 .lss e.a c fun c=>
 K2 c (
 V4 (fun c=>
 D10 .neq e.a a1 fun d=>
 K2 d (
 M2 (g+26) fun d=>
 C70 a0 fun g=>
 K7 g 2 f fun g h=>
 C70 a0 fun i=>
 K7 i 2 f fun i j=>
 U6 j e.a f fun l m=>
 C70 a0 fun n=>
 K7 n 2 f fun n o=>
 U6 o e.a f fun p q=>
 B15 q a2 3 f fun r s=>
 Y2 gQ 139 [m,b,s] f d fun b d t=>
 M3 h e.a none 1 fun e=>
 D5 e b 1 d fun b=>
 wK ((tA (tA (tB (cE r (some 3) f s))))/\((tA (tA (tB (cE p none f q))))/\((tA (tA (tB (cE n none f o))))/\((tA (tA (tB (cE l none f m))))/\((tA (tA (tB (cE i none f j))))/\(tB (tA ((cE g none d h)/\(tB (cE g none f h)))))))))) (
 c [] b t)) (
 c [] f g)) (fun _ b c=>
 D10 .add e.a i1 fun e=>
 d [e] b c)) (
 M2 (g+17) fun c=>
 C70 a0 fun d=>
 K7 d 3 f fun d e=>
 C70 a0 fun g=>
 K7 g 3 f fun g h=>
 B15 h a2 3 f fun i j=>
 Y2 gQ 139 [e,b,j] f c fun c l m=>
 C70 a0 fun n=>
 B4 n 3 fun n=>
 D5 n c 1 l fun c=>
 wK ((tA (tA (tB (cE i (some 3) f j))))/\((tA (tA (tB (cE g none f h))))/\(tB (tA (tA (tB (cE d none f e))))))) (
 C70 a0 fun d=>
 K7 d 2 c fun _ d=>
 M3 d a1 none 1 fun d=>
 D5 d b 1 c fun b=>
 C70 a0 fun c=>
 K7 c 4 b fun _ c=>
 M3 c a1 none 1 fun c=>
 D5 c a2 1 b fun b=>
 Rt (.tuple ⟨[]⟩) b m k))) [i0] g h)) [i0] d f
def F140:Prop:=
 wAl zR H nx fun b c d=>
 C70 a0 fun e=>
 K7 e 2 c fun _ e=>
 R4 e 0 c fun f=>
 G3 (fun c d g h=>
 D10 .lss d.b f fun f=>
 K2 f (
 V4 (fun c=>
 U6 e d.b g fun _ e=>
 B15 e a1 3 g fun _ f=>
 Y2 gQ 96 [f] g h fun f g h=>
 D10 .leq f i0 fun f=>
 K2 f (
 c [d.a] g h) (
 M2 (h+16) fun f=>
 Y2 gQ 127 [a0] g f fun f i j=>
 B15 e f 3 i fun f l=>
 B15 e a1 3 i fun e m=>
 Y2 gQ 141 [l,m] i j fun j n o=>
 G9 j 0 fun p=>
 G9 j 1 fun _=>
 wNm h 13 .ptr fun j=>
 E6 n (h+13) (some (.cells zR 0)) fun h=>D5 j p 3 h fun h=>
 wK ((tA (tA ((cE e (some 3) i m)/\(tB (cE e (some 3) g m)))))/\(tB (tA (tA (tB (cE f (some 3) i l)))))) (
 V4 (fun c=>
 D10 .geq d.a i0 fun d=>
 K2 d (
 J1 j (some 3) h fun d=>
 J1 b (some 3) h fun b=>
 Y2 gQ 79 [d,b] h o fun b d e=>
 c [b] d e) (
 c [(.int .i64 (-1))] h o)) (fun e f g=>
 V4 (fun b=>
 M2 (g+23) fun c=>
 D10 .lss e.a i0 fun g=>
 K3 false g (
 D10 .eql e.a i0 fun e=>
 K3 true e (
 C70 a0 fun e=>
 K7 e 4 f fun e g=>
 U6 g d.b f fun h i=>
 C70 a0 fun j=>
 K7 j 4 f fun j l=>
 U6 l d.a f fun d m=>
 D10 .lss i m fun n=>
 wK ((tB (cE d none f m))/\((tB (cE j none f l))/\((tB (cE h none f i))/\(tB (tB (cE e none f g)))))) (
 b [n] f c)) (
 wK True (
 b [bF] f c))) (
 wK True (
 b [bT] f c))) (fun e f g=>
 K2 e.a (
 M2 (g+4) fun e=>
 J1 j (some 3) f fun g=>
 D5 b g 3 f fun b=>
 wK (tB (tA (tB (cE j (some 3) f g)))) (
 c [d.b] b e)) (
 c [d.a] f g)))))) (fun b e f=>
 D10 .add d.b i1 fun d=>
 c [b.a,d] e f)) (
 Rt d.a g h k)) [(.int .i64 (-1)),i0] c d
def F120:Prop:=
 M12 a0 H nx fun b c d=>
 K7 b 0 c fun _ e=>
 R4 e 0 c fun e=>
 K7 b 2 c fun _ f=>
 R4 f 0 c fun f=>
 U11 [.int .i64 0,.int .i64 0,.slice none 0 0,.slice none 0 0,.slice none 0 0] [(0,1),(1,1),(2,1),(3,1),(4,1)] [(0,e),(1,f)] fun e=>
 M12 e c d fun c d e=>
 K7 b 1 d fun _ f=>
 R4 f 0 d fun g=>
 G3 (fun d e h i=>
 D10 .lss e.a g fun g=>
 K2 g (
 U6 f e.a h fun _ f=>
 Y2 gQ 127 [c] h i fun g h i=>
 D10 .add g i1 fun g=>
 Y2 gQ 135 [g] h i fun g h i=>
 R4 f 0 h fun j=>
 G3 (fun h i l m=>
 D10 .lss i.a j fun j=>
 K2 j (
 B15 f i.a 3 l fun _ b=>
 wAl zR l m fun c d e=>
 D5 c b 3 d fun b=>
 J1 c (some 3) b fun c=>
 Y2 gQ 80 [c] b e fun b c d=>
 M3 g i.a none 3 fun e=>
 D5 e b 3 c fun b=>
 D10 .add i.a i1 fun c=>
 h [c] b d) (
 M2 (m+10) fun f=>
 C70 c fun h=>
 K7 h 0 l fun h i=>
 D10 .add i e.a fun j=>
 Y2 gQ 75 [i1] l f fun f m n=>
 M3 g j none 3 fun j=>
 D5 j f 3 m fun f=>
 wK (tB (tA ((cE h none m i)/\(tB (cE h none l i))))) (
 Y2 gQ 136 [c] f n fun f h i=>
 Y2 gQ 75 [(.int .i64 (-1))] h i fun h i j=>
 M3 g f none 3 fun f=>
 D5 f h 3 i fun f=>
 M2 (j+11) fun h=>
 Y2 gQ 127 [c] f h fun h i j=>
 K7 b 2 i fun b l=>
 B15 l e.a 3 i fun m n=>
 Y2 gQ 80 [n] i j fun j o p=>
 M3 g h none 3 fun h=>
 D5 h j 3 o fun h=>
 wK ((tA (tA ((cE m (some 3) i n)/\(tB (cE m (some 3) f n)))))/\(tB (tA (tA ((cE b none i l)/\(tB (cE b none f l))))))) (
 C70 c fun b=>
 K7 b 2 h fun _ b=>
 D24 1 1 [.slice none 0 0] [(0,g)] h p fun f g h=>
 B5 b f 1 24 g h fun b f g=>
 C70 c fun h=>
 B4 h 2 fun h=>
 D5 h b 1 f fun b=>
 M2 (g+16) fun f=>
 C70 c fun h=>
 K7 h 4 b fun h i=>
 C70 c fun j=>
 K7 j 0 b fun j l=>
 D10 .add l e.a fun m=>
 K6 1 1 [.int .i64 0] [(0,m)] fun m=>wNm g 11 (.slice 1 1) fun n=>
 E6 b (g+11) (some (.cells m 0)) fun g=>B5 i n 1 8 g f fun f g m=>
 C70 c fun c=>
 B4 c 4 fun c=>
 D5 c f 1 g fun c=>
 wK ((tA (tA (tB (cE j none b l))))/\(tB (tA (tA (tB (cE h none b i)))))) (
 D10 .add e.a i1 fun b=>
 d [b] c m))))) [i0] h i) (
 Rt c h i k)) [i0] d e
def F121:Prop:=
 C70 a0 fun b=>
 K7 b 2 H fun _ b=>
 R4 b 0 H fun c=>
 G3 (fun d e f g=>
 D10 .lss e.b c fun c=>
 K2 c (
 V4 (fun c=>
 U6 b e.b f fun _ b=>
 Y2 gQ 127 [a0] f g fun d f g=>
 B15 b d 3 f fun _ b=>
 wAl zR f g fun d f g=>
 D5 d b 3 f fun b=>
 V4 (fun c=>
 M2 (g+23) fun f=>
 J1 d (some 3) b fun g=>
 Y2 gQ 96 [g] b f fun f h i=>
 D10 .lss f i0 fun f=>
 K3 true f (
 D10 .lss e.a i0 fun f=>
 K3 false f (
 J1 d (some 3) h fun f=>
 C70 a0 fun j=>
 K7 j 2 h fun j l=>
 U6 l e.a h fun e m=>
 Y2 gQ 127 [a0] h i fun i n o=>
 B15 m i 3 n fun i p=>
 Y2 gQ 79 [f,p] n o fun o q r=>
 D10 .lss o i0 fun o=>
 wK ((tA (tB (cE i (some 3) n p)))/\((tA ((cE e none n m)/\(tB (cE e none h m))))/\((tA ((cE j none n l)/\(tB (cE j none h l))))/\((tA ((cE d (some 3) n f)/\(tB (cE d (some 3) h f))))/\(tB (tA (tA (tA (tB (cE d (some 3) b g)))))))))) (
 c [o] q r)) (
 wK (tB (tA (tB (cE d (some 3) b g)))) (
 c [bT] h i))) (
 wK (tB (tA (tB (cE d (some 3) b g)))) (
 c [bF] h i))) (fun b d f=>
 K2 b.a (
 c [e.b] d f) (
 c [e.a] d f))) (fun b c f=>
 D10 .add e.b i1 fun e=>
 d [b.a,e] c f)) (
 D10 .lss e.a i0 fun b=>
 K2 b (
 Rt bT f g k) (
 Y2 gQ 127 [a0] f g fun b c d=>
 D10 .add b i1 fun b=>
 Y2 gQ 135 [b] c d fun b c d=>
 C70 a0 fun f=>
 B4 f 3 fun f=>
 D5 f b 1 c fun b=>
 M2 (d+9) fun c=>
 C70 a0 fun d=>
 K7 d 3 b fun d f=>
 Y2 gQ 136 [a0] b c fun c g h=>
 Y2 gQ 75 [i1] g h fun h i j=>
 M3 f c none 3 fun c=>
 D5 c h 3 i fun c=>
 wK (tB (tA ((cE d none i f)/\((cE d none g f)/\(tB (cE d none b f)))))) (
 Y2 gQ 136 [a0] c j fun b c d=>
 Y2 gQ 137 [a0,e.a,b] c d fun _ b c=>
 Y2 gQ 127 [a0] b c fun b c d=>
 Y2 gQ 124 [a0,b] c d fun _ b c=>
 M2 (c+10) fun c=>
 C70 a0 fun d=>
 K7 d 3 b fun d e=>
 Y2 gQ 127 [a0] b c fun c f g=>
 B15 e c 3 f fun c h=>
 Y2 gQ 96 [h] f g fun g i j=>
 D10 .lss g i0 fun g=>
 wK ((tA (tB (cE c (some 3) f h)))/\(tB (tA ((cE d none f e)/\(tB (cE d none b e)))))) (
 K2 g (
 Rt bF i j k) (
 C70 a0 fun b=>
 K7 b 4 i fun _ b=>
 R4 b 0 i fun c=>
 G3 (fun d e f g=>
 D10 .lss e.a c fun c=>
 K2 c (
 V4 (fun c=>
 U6 b e.a f fun _ b=>
 Y2 gQ 136 [a0] f g fun d f g=>
 G3 (fun f g h i=>
 D10 .lss g.a d fun d=>
 K2 d (
 V4 (fun c=>
 Y2 gQ 136 [a0] h i fun d f h=>
 D10 .eql b d fun b=>
 K3 true b (
 C70 a0 fun b=>
 K7 b 2 f fun _ b=>
 U6 b e.a f fun _ b=>
 B15 b g.a 3 f fun _ b=>
 Y2 gQ 96 [b] f h fun b d e=>
 D10 .neq b i0 fun b=>
 c [b] d e) (
 c [bF] f h)) (fun b d h=>
 K2 b.a (
 Y2 gQ 137 [a0,e.a,g.a] d h fun _ b d=>
 c [] b d) (
 D10 .add g.a i1 fun b=>
 f [b] d h))) (
 c [] h i)) [i0] f g) (fun _ b c=>
 D10 .add e.a i1 fun e=>
 d [e] b c)) (
 Rt bT f g k)) [i0] i j)))))) [(.int .i64 (-1)),i0] H nx
def F122:Prop:=
 C70 a0 fun b=>
 K7 b 1 H fun _ b=>
 Y2 gQ 135 [b] H nx fun b c d=>
 M2 (d+20) fun d=>
 C70 a0 fun e=>
 K7 e 3 c fun e f=>
 C70 a0 fun g=>
 K7 g 0 c fun g h=>
 C70 a0 fun i=>
 K7 i 0 c fun i j=>
 C70 a0 fun l=>
 K7 l 1 c fun l m=>
 D10 .add j m fun n=>
 wSl f 3 (some h) (some n) none c fun o=>
 M82 b o 3 c d fun _ d p=>
 wK ((tA (tB (wSl f 3 (some h) (some n) none c fun b=>b=o)))/\((tA (tB (cE l none c m)))/\((tA (tB (cE i none c j)))/\((tA (tB (cE g none c h)))/\(tB (tA (tB (cE e none c f)))))))) (
 Rt b d p k)
def F123:Prop:=
 Y2 gQ 127 [a0] H nx fun b c d=>
 D10 .add b i1 fun b=>
 Y2 gQ 135 [b] c d fun b c d=>
 C70 a0 fun e=>
 B4 e 3 fun e=>
 D5 e b 1 c fun b=>
 R4 a1 0 b fun c=>
 G3 (fun b d e f=>
 D10 .lss d.a c fun c=>
 K2 c (
 M2 (f+12) fun c=>
 C70 a0 fun f=>
 K7 f 3 e fun f g=>
 B15 a1 d.a 3 e fun h i=>
 Y2 gQ 138 [i] e c fun c j l=>
 M3 g d.a none 3 fun m=>
 D5 m c 3 j fun c=>
 wK ((tA (tA (tB (cE h (some 3) e i))))/\(tB (tA ((cE f none j g)/\(tB (cE f none e g)))))) (
 D10 .add d.a i1 fun d=>
 b [d] c l)) (
 C70 a0 fun b=>
 K7 b 4 e fun _ b=>
 R4 b 0 e fun c=>
 G3 (fun d e f g=>
 D10 .lss e.a c fun c=>
 K2 c (
 V4 (fun c=>
 U6 b e.a f fun _ b=>
 C70 a0 fun d=>
 K7 d 0 f fun _ d=>
 D10 .lss b d fun d=>
 K2 d (
 M2 (g+21) fun d=>
 C70 a0 fun g=>
 K7 g 3 f fun g h=>
 C70 a0 fun i=>
 K7 i 2 f fun i j=>
 U6 j e.a f fun e l=>
 B15 a1 b 3 f fun b m=>
 Y2 gQ 138 [m] f d fun d n o=>
 Y2 gQ 139 [h,l,d] n o fun d o p=>
 C70 a0 fun q=>
 B4 q 3 fun q=>
 D5 q d 1 o fun d=>
 wK ((tA (tA (tA (tB (cE b (some 3) f m)))))/\((tA (tA ((cE e none n l)/\(tB (cE e none f l)))))/\((tA (tA ((cE i none n j)/\(tB (cE i none f j)))))/\(tB (tA (tA ((cE g none n h)/\(tB (cE g none f h))))))))) (
 c [] d p)) (
 c [] f g)) (fun _ b c=>
 D10 .add e.a i1 fun e=>
 d [e] b c)) (
 Rt (.tuple ⟨[]⟩) f g k)) [i0] e f)) [i0] b d
def F124:Prop:=
 G3 (fun b _ c d=>
 G3 (fun c d e f=>
 D10 .lss d.a a1 fun g=>
 K2 g (
 C70 a0 fun g=>
 K7 g 3 e fun _ g=>
 B15 g d.a 3 e fun _ g=>
 Y2 gQ 96 [g] e f fun e f g=>
 D10 .geq e i0 fun e=>
 K2 e (
 D10 .add d.a i1 fun b=>
 c [b] f g) (
 Y2 gQ 140 [a0,d.a] f g fun c e f=>
 D10 .lss c i0 fun g=>
 K2 g (
 Rt (.tuple ⟨[d.a,bF]⟩) e f k) (
 Y2 gQ 137 [a0,c,d.a] e f fun _ c d=>
 b [] c d))) (
 Rt (.tuple ⟨[i0,bT]⟩) e f k)) [i0] c d) [] H nx
def F125:Prop:=
 C70 a0 fun b=>
 K7 b 0 H fun _ b=>
 Y2 gQ 135 [b] H nx fun b c d=>
 C70 a0 fun e=>
 K7 e 4 c fun _ e=>
 R4 e 0 c fun f=>
 G3 (fun c d g h=>
 D10 .lss d.a f fun f=>
 K2 f (
 V4 (fun c=>
 U6 e d.a g fun _ e=>
 C70 a0 fun f=>
 K7 f 0 g fun _ f=>
 D10 .lss e f fun f=>
 K2 f (
 M2 (h+15) fun f=>
 C70 a0 fun h=>
 K7 h 2 g fun h i=>
 U6 i d.a g fun d j=>
 Y2 gQ 127 [a0] g f fun f l m=>
 B15 j f 3 l fun f n=>
 M3 b e none 3 fun b=>
 D5 b n 3 l fun b=>
 wK ((tA (tB (cE f (some 3) l n)))/\((tA ((cE d none l j)/\(tB (cE d none g j))))/\(tB (tA ((cE h none l i)/\(tB (cE h none g i))))))) (
 c [] b m)) (
 c [] g h)) (fun _ b e=>
 D10 .add d.a i1 fun d=>
 c [d] b e)) (
 Rt b g h k)) [i0] c d
def F109:Prop:=
 M12 a0 H nx fun b c d=>
 wAl [.int .i64 0,.slice none 0 0,.slice none 0 0,.slice none 0 0,.bool false,.slice none 0 0,.slice none 0 0] c d fun c d e=>
 J1 b (some 3) d fun f=>
 Y2 gQ 119 [f] d e fun d e f=>
 wUn .not d fun d=>
 K2 d (
 U11 [.int .i64 0,.slice none 0 0,.slice none 0 0,.slice none 0 0,.bool false,.slice none 0 0,.slice none 0 0] [(0,1),(1,1),(2,1),(3,1),(4,3)] [] fun b=>
 D5 c b 7 e fun b=>
 J1 c (some 7) b fun c=>
 Rt (.tuple ⟨[c,i1]⟩) b f k) (
 V4 (fun c=>
 K7 b 0 e fun _ d=>
 R4 d 0 e fun d=>
 D10 .gtr d (.int .i64 64) fun d=>
 K3 false d (
 K7 b 2 e fun _ b=>
 R4 b 0 e fun b=>
 D10 .gtr b (.int .i64 64) fun b=>
 c [b] e f) (
 c [bT] e f)) (fun d e f=>
 K2 d.a (
 U11 [.int .i64 0,.slice none 0 0,.slice none 0 0,.slice none 0 0,.bool false,.slice none 0 0,.slice none 0 0] [(0,1),(1,1),(2,1),(3,1),(4,3)] [] fun b=>
 D5 c b 7 e fun b=>
 J1 c (some 7) b fun c=>
 Rt (.tuple ⟨[c,(.int .i64 12)]⟩) b f k) (
 J1 b (some 3) e fun d=>
 Y2 gQ 120 [d] e f fun d e f=>
 Y2 gQ 121 [d] e f fun e f g=>
 wUn .not e fun e=>
 K2 e (
 Y2 gQ 122 [d] f g fun b d e=>
 Y2 gQ 75 [i0] d e fun d e f=>
 U11 [.int .i64 0,.slice none 0 0,.slice none 0 0,.slice none 0 0,.bool false,.slice none 0 0,.slice none 0 0] [(0,1),(1,1),(2,1),(3,1),(4,3)] [(0,i1),(2,b),(4,d)] fun b=>
 D5 c b 7 e fun b=>
 J1 c (some 7) b fun c=>
 Rt (.tuple ⟨[c,i0]⟩) b f k) (
 K7 b 0 f fun _ b=>
 Y2 gQ 123 [d,b] f g fun _ b e=>
 M2 (e+16) fun e=>
 C70 d fun f=>
 K7 f 0 b fun f g=>
 C70 d fun h=>
 K7 h 1 b fun h i=>
 D10 .add g i fun j=>
 Y2 gQ 124 [d,j] b e fun e j l=>
 G9 e 0 fun m=>
 G9 e 1 fun e=>
 wK ((tA (tB (cE h none b i)))/\(tB (tA (tB (cE f none b g))))) (
 wUn .not e fun b=>
 K2 b (
 Y2 gQ 125 [d] j l fun b e f=>
 Y2 gQ 126 [d,m] e f fun d e f=>
 Y2 gQ 75 [i0] e f fun e f g=>
 U11 [.int .i64 0,.slice none 0 0,.slice none 0 0,.slice none 0 0,.bool false,.slice none 0 0,.slice none 0 0] [(0,1),(1,1),(2,1),(3,1),(4,3)] [(0,(.int .i64 2)),(1,b),(3,d),(4,e)] fun b=>
 D5 c b 7 f fun b=>
 J1 c (some 7) b fun c=>
 Rt (.tuple ⟨[c,i0]⟩) b g k) (
 M2 (l+15) fun b=>
 Y2 gQ 125 [d] j b fun b e f=>
 Y2 gQ 122 [d] e f fun f g h=>
 C70 d fun i=>
 K7 i 3 g fun i l=>
 Y2 gQ 127 [d] g h fun d h m=>
 B15 l d 3 h fun d n=>
 U11 [.int .i64 0,.slice none 0 0,.slice none 0 0,.slice none 0 0,.bool false,.slice none 0 0,.slice none 0 0] [(0,1),(1,1),(2,1),(3,1),(4,3)] [(0,i0),(1,b),(2,f),(4,n)] fun b=>
 D5 c b 7 h fun b=>
 wK ((tA (tB (cE d (some 3) h n)))/\(tB (tA ((cE i none h l)/\((cE i none g l)/\((cE i none e l)/\(tB (cE i none j l)))))))) (
 J1 c (some 7) b fun c=>
 Rt (.tuple ⟨[c,i0]⟩) b m k)))))))
def F107:Prop:=
 M12 a0 H nx fun b c d=>
 K7 b 0 c fun _ b=>
 D10 .shl (.int .u64 1) b fun b=>
 D10 .sub b (.int .u64 1) fun b=>
 W8 .u32 b fun b=>
 Rt b c d k
def F110:Prop:=
 G29 a0 a0 zR H nx fun b c d=>
 R4 b 0 c fun e=>
 G3 (fun c d f g=>
 D10 .lss d.a e fun e=>
 K2 e (
 Y2 gQ 75 [i0] f g fun e f g=>
 M3 b d.a none 3 fun b=>
 D5 b e 3 f fun b=>
 D10 .add d.a i1 fun d=>
 c [d] b g) (
 Rt b f g k)) [i0] c d
def F108:Prop:=
 M12 a0 H nx fun b c d=>
 wAl [.slice none 0 0,.slice none 0 0,.slice none 0 0] c d fun c d e=>
 wAl [.slice none 0 0,.slice none 0 0,.slice none 0 0] d e fun d e f=>
 K7 b 0 e fun _ g=>
 G3 (fun e f h i=>
 D10 .lss f.b g fun g=>
 K2 g (
 V4 (fun b=>
 D10 .shr a1 f.b fun c=>
 D10 .and c u1 fun c=>
 D10 .eql c u1 fun c=>
 K2 c (
 D24 1 1 [.int .i64 0] [(0,f.b)] h i fun c e g=>
 B5 f.a c 1 8 e g fun c e f=>
 M2 (f+7) fun g=>
 K7 d 0 e fun h i=>
 Y2 gQ 75 [i1] e g fun g j l=>
 K6 1 3 zR [(0,g)] fun g=>wNm f 3 (.slice 1 1) fun m=>
 E6 j (f+3) (some (.cells g 0)) fun f=>B5 i m 3 56 f l fun f g l=>
 B4 d 0 fun d=>
 D5 d f 1 g fun d=>
 wK (tB (tA (tA ((cE h none j i)/\(tB (cE h none e i)))))) (
 b [c] d l)) (
 b [f.a] h i)) (fun b c d=>
 D10 .add f.b i1 fun f=>
 e [b.a,f] c d)) (
 M64 none <| J3 (.map [] 0) .map h i fun e g h=>
 K7 b 1 g fun _ b=>
 R4 b 0 g fun i=>
 G3 (fun g h j l=>
 D10 .lss h.b i fun i=>
 K2 i (
 V4 (fun c=>
 U6 b h.b j fun _ b=>
 D10 .and b a1 fun b=>
 V4 (fun c=>
 D10 .eql b u0 fun d=>
 K3 false d (
 wLk (.int .u32) bF e b false j fun b=>
 c [b] j l) (
 c [bT] j l)) (fun g i j=>
 K2 g.a (
 c [h.a] i j) (
 W56 (.int .u32) e b bT i j fun _ e g=>
 D24 1 1 [.int .i64 0] [(0,h.b)] e g fun e g i=>
 B5 h.a e 1 8 g i fun e g h=>
 R4 f.a 0 g fun i=>
 G3 (fun g h j l=>
 D10 .lss h.b i fun i=>
 K2 i (
 U6 f.a h.b j fun _ c=>
 D10 .shr b c fun b=>
 D10 .and b u1 fun b=>
 W8 .i64 b fun b=>
 Y2 gQ 75 [b] j l fun b c d=>
 D24 1 3 zR [(0,b)] c d fun b c d=>
 B5 h.a b 3 56 c d fun b c d=>
 D10 .add h.b i1 fun e=>
 g [b,e] c d) (
 K7 d 1 j fun _ b=>
 D24 1 1 [.slice none 0 0] [(0,h.a)] j l fun f g h=>
 B5 b f 1 24 g h fun b f g=>
 B4 d 1 fun h=>
 D5 h b 1 f fun b=>
 M2 (g+7) fun f=>
 K7 d 2 b fun h i=>
 Y2 gQ 75 [i1] b f fun f j l=>
 K6 1 3 zR [(0,f)] fun f=>wNm g 3 (.slice 1 1) fun m=>
 E6 j (g+3) (some (.cells f 0)) fun f=>B5 i m 3 56 f l fun f g l=>
 B4 d 2 fun d=>
 D5 d f 1 g fun d=>
 wK (tB (tA (tA ((cE h none j i)/\(tB (cE h none b i)))))) (
 c [e] d l))) [(.slice none 0 0),i0] g h))) (fun b c d=>
 D10 .add h.b i1 fun e=>
 g [b.a,e] c d)) (
 J1 d (some 3) j fun b=>
 D5 c b 3 j fun b=>
 J1 c (some 3) b fun c=>
 Rt (.tuple ⟨[c,f.a,h.a]⟩) b l k)) [(.slice none 0 0),i0] g h)) [(.slice none 0 0),i0] e f
def F95:Prop:=
 M12 a0 H nx fun b c d=>
 wAl [.slice none 0 0,.slice none 0 0,.bool false,.slice none 0 0,.slice none 0 0] c d fun c d e=>
 J1 b (some 2) d fun f=>
 Y2 gQ 27 [f] d e fun d e f=>
 D10 .neq d i0 fun g=>
 K2 g (
 U11 [.slice none 0 0,.slice none 0 0,.bool false,.slice none 0 0,.slice none 0 0] [(0,1),(1,1),(2,3)] [] fun b=>
 D5 c b 5 e fun b=>
 J1 c (some 5) b fun c=>
 Rt (.tuple ⟨[c,d]⟩) b f k) (
 J1 b (some 2) e fun d=>
 Y2 gQ 107 [d] e f fun d e f=>
 D10 .andNot a1 d fun d=>
 D10 .neq d u0 fun d=>
 K2 d (
 U11 [.slice none 0 0,.slice none 0 0,.bool false,.slice none 0 0,.slice none 0 0] [(0,1),(1,1),(2,3)] [] fun b=>
 D5 c b 5 e fun b=>
 J1 c (some 5) b fun c=>
 Rt (.tuple ⟨[c,(.int .i64 3)]⟩) b f k) (
 K7 b 1 e fun _ d=>
 R4 d 0 e fun g=>
 G3 (fun e f h i=>
 D10 .lss f.b g fun g=>
 K2 g (
 U6 d f.b h fun _ b=>
 D10 .or f.a b fun b=>
 D10 .add f.b i1 fun c=>
 e [b,c] h i) (
 D10 .andNot a1 f.a fun d=>
 D10 .neq d u0 fun d=>
 K2 d (
 U11 [.slice none 0 0,.slice none 0 0,.bool false,.slice none 0 0,.slice none 0 0] [(0,1),(1,1),(2,3)] [] fun b=>
 D5 c b 5 h fun b=>
 J1 c (some 5) b fun c=>
 Rt (.tuple ⟨[c,(.int .i64 9)]⟩) b i k) (
 J1 b (some 2) h fun d=>
 Y2 gQ 108 [d,a1] h i fun d e f=>
 G9 d 0 fun g=>
 G9 d 1 fun h=>
 G9 d 2 fun d=>
 wAl [.slice none 0 0,.slice none 0 0,.slice none 0 0] e f fun e f i=>
 D5 e g 3 f fun f=>
 J1 e (some 3) f fun e=>
 Y2 gQ 109 [e] f i fun e f g=>
 G9 e 0 fun i=>
 G9 e 1 fun e=>
 wAl [.int .i64 0,.slice none 0 0,.slice none 0 0,.slice none 0 0,.bool false,.slice none 0 0,.slice none 0 0] f g fun f g j=>
 D5 f i 7 g fun g=>
 D10 .neq e i0 fun i=>
 K2 i (
 U11 [.slice none 0 0,.slice none 0 0,.bool false,.slice none 0 0,.slice none 0 0] [(0,1),(1,1),(2,3)] [] fun b=>
 D5 c b 5 g fun b=>
 J1 c (some 5) b fun c=>
 Rt (.tuple ⟨[c,e]⟩) b j k) (
 M2 (j+12) fun e=>
 K7 b 1 g fun i l=>
 R4 l 0 g fun m=>
 Y2 gQ 110 [m] g e fun e n o=>
 K7 b 0 n fun b p=>
 Y2 gQ 110 [p] n o fun o q r=>
 C81 f 4 3 q fun s t=>
 U11 [.slice none 0 0,.slice none 0 0,.bool false,.slice none 0 0,.slice none 0 0] [(0,1),(1,1),(2,3)] [(0,e),(1,o),(2,t)] fun e=>
 wNm j 10 .ptr fun o=>
 E6 q (j+10) (some (.cells [.slice none 0 0,.slice none 0 0,.bool false,.slice none 0 0,.slice none 0 0] 0)) fun j=>D5 o e 5 j fun e=>
 wK ((tA ((cE s (some 3) q t)/\((cE s (some 3) n t)/\(tB (cE s (some 3) g t)))))/\((tA (tA ((cE b none n p)/\(tB (cE b none g p)))))/\((tA (tA (tA (tB (R4 l 0 g fun b=>b=m)))))/\(tB (tA (tA (tA (tB (cE i none g l))))))))) (
 R4 h 0 e fun b=>
 G3 (fun e g i j=>
 D10 .lss g.a b fun b=>
 K2 b (
 U6 h g.a i fun _ b=>
 M2 (j+10) fun c=>
 K7 o 1 i fun d h=>
 K7 f 1 i fun f j=>
 B15 j g.a 3 i fun l m=>
 M3 h b none 3 fun b=>
 D5 b m 3 i fun b=>
 wK ((tA (tB (cE l (some 3) i m)))/\((tA (tB (cE f none i j)))/\(tB (tA (tB (cE d none i h)))))) (
 D10 .add g.a i1 fun d=>
 e [d] b c)) (
 R4 d 0 i fun b=>
 G3 (fun e g h i=>
 D10 .lss g.a b fun b=>
 K2 b (
 U6 d g.a h fun _ b=>
 M2 (i+10) fun c=>
 K7 o 0 h fun d i=>
 K7 f 2 h fun f j=>
 B15 j g.a 3 h fun l m=>
 M3 i b none 3 fun b=>
 D5 b m 3 h fun b=>
 wK ((tA (tB (cE l (some 3) h m)))/\((tA (tB (cE f none h j)))/\(tB (tA (tB (cE d none h i)))))) (
 D10 .add g.a i1 fun d=>
 e [d] b c)) (
 J1 o (some 5) h fun b=>
 D5 c b 5 h fun b=>
 J1 c (some 5) b fun c=>
 Rt (.tuple ⟨[c,i0]⟩) b i k)) [i0] i j)) [i0] e r))))) [u0,i0] e f))
variable {a0 a1 a2 H nx k}
theorem spec127:F127 a0 H nx k->Q2 gQ 127 [a0] H nx k:=Q12 [] [] []
theorem spec135:F135 a0 H nx k->Q2 gQ 135 [a0] H nx k:=Q12 [] [[9]] []
theorem spec136:F136 a0 H nx k->Q2 gQ 136 [a0] H nx k:=Q12 [] [] []
theorem spec119:F119 a0 H nx k->Q2 gQ 119 [a0] H nx k:=Q12 [] [[15]] []
theorem spec139:F139 a0 a1 a2 H nx k->Q2 gQ 139 [a0,a1,a2] H nx k:=Q12 [(10,[])] [[21]] []
theorem spec137:F137 a0 a1 a2 H nx k->Q2 gQ 137 [a0,a1,a2] H nx k:=Q12 [(7,[]),(14,[])] [[34],[61]] []
theorem spec140:F140 a0 a1 H nx k->Q2 gQ 140 [a0,a1] H nx k:=Q12 [(7,[5]),(13,[11]),(15,[68])] [[5,17]] [.one (.tst (.tst (.one (.one .nil)) (.one (.one .nil))) (.one (.one (.one .nil))))]
theorem spec120:F120 a0 H nx k->Q2 gQ 120 [a0] H nx k:=Q12 [] [[20],[31]] []
theorem spec121:F121 a0 H nx k->Q2 gQ 121 [a0] H nx k:=Q12 [(6,[3]),(9,[47]),(24,[]),(31,[118])] [[3,15],[91],[98]] [.one (.tst (.tst (.one (.one .nil)) (.one (.one .nil))) (.one (.one (.one .nil)))),.one (.tst (.one .nil) (.one .nil))]
theorem spec122:F122 a0 H nx k->Q2 gQ 122 [a0] H nx k:=Q12 [] [] []
theorem spec123:F123 a0 a1 H nx k->Q2 gQ 123 [a0,a1] H nx k:=Q12 [(10,[])] [[16],[36]] []
theorem spec124:F124 a0 a1 H nx k->Q2 gQ 124 [a0,a1] H nx k:=Q12 [] [[],[9]] []
theorem spec125:F125 a0 H nx k->Q2 gQ 125 [a0] H nx k:=Q12 [(6,[])] [[16]] []
theorem spec109:F109 a0 H nx k->Q2 gQ 109 [a0] H nx k:=Q12 [(5,[20])] [] [.one (.tst (.one .nil) (.one .nil))]
theorem spec107:F107 a0 H nx k->Q2 gQ 107 [a0] H nx k:=Q12 [] [] []
theorem spec110:F110 a0 H nx k->Q2 gQ 110 [a0] H nx k:=Q12 [] [[9]] []
theorem spec108:F108 a0 a1 H nx k->Q2 gQ 108 [a0,a1] H nx k:=Q12 [(7,[8]),(16,[9]),(20,[57])] [[8,20],[9,43],[15,66]] [.one (.tst (.one .nil) (.one .nil))]
theorem spec95:F95 a0 a1 H nx k->Q2 gQ 95 [a0,a1] H nx k:=Q12 [] [[7,35],[76],[93]] []
end
end Go.Proofs.YtoiioigihocgbaaGreatDoor
namespace Go.Clo
def RC(H:Y0)(nx:Nat)(css:List (List Value))(xs:List Rat):Prop:=css.length=xs.length/\∀(i:Nat) (c:List Value) (x:Rat),css[i]? = some c->xs[i]? = some x->c.length=3/\RR H nx (.agg ⟨c⟩) x
theorem W26:∀ {css:List (List Value)},(∀ c ∈ css,c.length=3)->css.flatten.length=3*css.length
 | [],_=>rfl
 | c :: css,h=>by
  rw[List.flatten_cons,bH,h c O2,W26 fun d hd=>h d (by simp[hd]),cV];omega
theorem G72:∀ {css:List (List Value)} {i j:Nat} {c:List Value},(∀ c ∈ css,c.length=3)->css[i]? = some c->j<3->css.flatten[3*i+j]? = c[j]?
 | [],i,j,c,_,h,_=>by simp at h
 | d :: css,0,j,c,h3,h,hj=>by
  simp at h;subst h;rw[List.flatten_cons,Nat.mul_zero,cF,bQ (by rw[h3 d O2];exact hj)]
 | d :: css,i+1,j,c,h3,h,hj=>by
  rw[List.flatten_cons,bS (by rw[h3 d O2];omega),h3 d O2,show 3*(i+1)+j-3=3*i+j by omega];exact G72 (fun e he=>h3 e (by simp[he])) (by simpa using h) hj
def RB(H:Y0)(nx:Nat)(b:Nat)(xs:List Rat):Prop:=∃ css,J0 H b=some (.cells css.flatten 0)/\b<nx/\RC H nx css xs
def V7(c:List Value):Prop:=∃ s A l k C l' k',c=[.bool s,.slice A l k,.slice C l' k']
theorem V7.three{c:List Value}(h:V7 c):c.length=3:=by obtain⟨s,A,l,k,C,l',k',rfl⟩:=h;rfl
theorem RR.tri{H:Y0}{nx:Nat}{c:List Value}{x:Rat}(h:RR H nx (.agg ⟨c⟩) x):V7 c:=by
 obtain⟨A,l,k,C,l',k',e,_⟩:=h.form
 cases e
 exact⟨_,_,_,_,_,_,_,rfl⟩
theorem N77{css:List (List Value)}(h:∀ c ∈ css,V7 c):∀(q:Nat) (z:Int),css.flatten[q]? ≠ some (cD .u32 z):=by
 intro q z hq;obtain⟨c,hc,hv⟩:=List.mem_flatten.1 (aH hq);obtain⟨s,A,l,k,C,l',k',rfl⟩:=h c hc;simp at hv
theorem M78:∀ {css:List (List Value)} {i:Nat} {c:List Value},(∀ d ∈ css,d.length=3)->c.length=3->i<css.length->B12 css.flatten (3*i) c=(css.set i c).flatten:=by
 intro css i c h3 hc hi;apply dH;intro q;have hl:=W26 h3;have E:∀ d ∈ css.set i c,d.length=3:=fun d hd=>by
  rcases List.mem_or_eq_of_mem_set hd with e | e
  .exact h3 d e
  .rw[e];exact hc
 have J:=W26 E;rw[dO] at J;unfold B12
 by_cases h1:q<3*i
 .rw[List.append_assoc,bQ (by simp only[cK,hl];omega),aX,if_pos h1]
  have hq:q/3<css.length:=O0;have e:=G72 (i:=q/3) (j:=q%3) h3 (aE hq) (eZ _ O0);have e':=G72 (i:=q/3) (j:=q%3) (c:=css[q/3]) E (by rw[bL O0,aE hq]) (eZ _ O0);rw[show 3*(q/3)+q%3=q by omega] at e e';rw[e,e']
 .by_cases h2:q<3*i+3
  .rw[List.append_assoc,bS (by simp only[cK,hl];omega),bQ (by simp only[cK,hl,hc];omega)]
   have e':=G72 (i:=i) (j:=q-3*i) (c:=c) E (by rw[dG hi]) O0;rw[show 3*i+(q-3*i)=q by omega] at e';rw[e'];congr 1;simp only[cK,hl];omega
  .rw[bS (by simp only[bH,cK,hl,hc];omega),dB]
   have e0:3*i+c.length+(q-(List.take (3*i) css.flatten++c).length)=q:=by simp only[bH,cK,hl,hc];omega
   rw[e0]
   by_cases h4:q<3*css.length
   .have hq:q/3<css.length:=O0
    have e:=G72 (i:=q/3) (j:=q%3) h3 (aE hq) (eZ _ O0);have e':=G72 (i:=q/3) (j:=q%3) (c:=css[q/3]) E (by rw[bL O0,aE hq]) (eZ _ O0);rw[show 3*(q/3)+q%3=q by omega] at e e';rw[e,e']
   .rw[aT O0,aT O0]
def Z29:List Value:=[.bool false,.slice none 0 0,.slice none 0 0]
theorem Z83(n:Nat):Q19 Z29 n=(aF n Z29).flatten:=by
 induction n with
 | zero=>rfl
 | succ n ih=>rw[Q19,ih,List.replicate_succ,List.flatten_cons]
theorem D106:V7 Z29:=⟨false,none,0,0,none,0,0,rfl⟩
theorem J85{css:List (List Value)}{i:Nat}{c:List Value}(h:∀ d ∈ css,V7 d)(hc:V7 c):∀ d ∈ css.set i c,V7 d:=fun d hd=>by
 rcases List.mem_or_eq_of_mem_set hd with e | e
 .exact h d e
 .rw[e];exact hc
theorem R74{H:Y0}{b i:Nat}{css:List (List Value)}{c:List Value}(hg:J0 H b=O7 css.flatten)(h3:∀ d ∈ css,V7 d)(hc:V7 c)(hi:i<css.length)(k:Y0->Prop):
  D5 (.pointer (some ⟨b,3*i,none⟩)) (.agg ⟨c⟩) 3 H k=k (hs H b (some (.cells (css.set i c).flatten 0))):=by
 have E:∀ d ∈ css,d.length=3:=fun d hd=>(h3 d hd).three
 have ho:Z0 c=true:=by obtain⟨s,A,l,q,C,l',q',rfl⟩:=hc;rfl
 rw[C49,if_pos ⟨hc.three,ho⟩,hg,U20,hc.three,W26 E,M78 E hc.three hi];simp;omega
end Go.Clo
namespace Go.Proofs.YtoiioigihocgbaaGreatDoor
open Go.Clo
theorem W82{n:Nat}(hn:n<=1000)(H:Y0)(nx:Nat):Q2 gQ 135 [O8 (n:Int)] H nx fun v H' nx'=>v = .slice (some ⟨nx,0,none⟩) n n/\RB H' nx' nx (aF n 0)/\D0 H nx H' nx':=by
 refine spec135 ?_;unfold F135;simp only[W1];rw[M27 O0,show [dU false,O6,O6]=Z29 from rfl,Z83];simp only[W0,Q0.val];have a0:D0 H nx (hs H nx (some (.cells (aF n Z29).flatten 0))) (nx+1):=(D0.refl H nx).nw _;refine B1 (m:=n) (fun m L H' nx'=>∃(i:Nat) (css:List (List Value)),m+i=n/\L=[O8 (i:Int)]/\css.length=n/\(∀ d ∈ css,V7 d)/\(∀(q:Nat) (c:List Value),q<i->css[q]? = some c->RR H' nx' (.agg ⟨c⟩) 0) /\
  J0 H' nx=O7 css.flatten/\D0 H nx H' nx'/\nx<nx') ?_ ⟨0,aF n Z29,rfl,rfl,O2,fun d hd=>by rw[(List.mem_replicate.1 hd).2];exact D106,fun q c hq=>O0,Z11 _ _ _,a0,O0⟩
 rintro m ih L H1 a1 ⟨i,css,hm,rfl,J,E,O,hg,hE,W⟩ Z
 by_cases hi:i<n
 case neg=>
  have U:¬ (i:Int)<(n:Int):=O0;simp only[W0,U];refine⟨⟨css,hg,W,by simp[J],fun q c x hc hx => ?_⟩,hE⟩;have hq:q<n:=by rw[<- J];exact(aJ.1 hc).1
  rw[List.getElem?_replicate,if_pos hq] at hx
  cases hx
  exact⟨(E c (aH hc)).three,O q c O0 hc⟩
 have U:(i:Int)<(n:Int):=O0;simp(disch:=omega)only[W0,U];refine R0 (R73 (n:=0) O0 O0 H1 a1) ?_;rintro r H2 nx2 ⟨hr,Q⟩;have V:=(Q.get nx W).trans hg;obtain⟨A,l,c,C,m',d,rfl,_,_⟩:=id hr.form;rw[cG i 3,R74 V E hr.tri O0];have a2:=Q.le;refine Z (m-1) _ _ _ O0 ⟨i+1,css.set i _,O0,O2,by simp[J],J85 E hr.tri,fun q c' hq hc => ?_,Z11 _ _ _,(hE.trans Q).h0,O0⟩
 by_cases e:q=i
 .subst e
  rw[dG O0] at hc
  cases hc
  exact RR.box hr V (N77 E)
 .rw[bL O0] at hc
  exact RR.box ((O q c' O0 hc).ext Q) V (N77 E)
end Go.Proofs.YtoiioigihocgbaaGreatDoor
namespace Go.Clo
theorem J22{css:List (List Value)}{q:Nat}{c:List Value}(h3:∀ d ∈ css,d.length=3)(hc:css[q]? = some c)(k:VP):B10 css.flatten (q*3) (some 3) k=k (.agg ⟨c⟩):=by
 have hq:q<css.length:=(aJ.1 hc).1;have hl:=W26 h3;have E:=h3 c (aH hc);rw[X21];have e:(css.flatten.drop (q*3)).take 3=c:=by
  apply dH;intro j
  by_cases hj:j<3
  .rw[aX,if_pos hj,dB,cG q 3,G72 h3 hc hj]
  .rw[aX,if_neg hj,aT O0]
 rw[e];simp only[eq_iff_iff,and_iff_right_iff_imp];intro _;omega
theorem Y82:∀ {css:List (List Value)},(∀ c ∈ css,V7 c)->Z0 css.flatten=true
 | [],_=>rfl
 | c :: css,h=>by
  obtain⟨s,A,l,k,C,l',k',rfl⟩:=h c O2;rw[List.flatten_cons];show Z0 css.flatten=true;exact Y82 fun d hd=>h d (by simp[hd])
def RX(H:Y0)(nx:Nat)(css:List (List Value))(X:Nat->Rat):Prop:=∀(q:Nat) (c:List Value),css[q]? = some c->RR H nx (.agg ⟨c⟩) (X q)
theorem RX.tri{H:Y0}{nx:Nat}{css:List (List Value)}{X:Nat->Rat}(h:RX H nx css X):∀ c ∈ css,V7 c:=fun c hc=>by
 obtain⟨i,hi,rfl⟩:=gL hc;exact(h i _ (aE hi)).tri
theorem RX.three{H:Y0}{nx:Nat}{css:List (List Value)}{X:Nat->Rat}(h:RX H nx css X):∀ c ∈ css,c.length=3:=fun c hc=>(h.tri c hc).three
theorem RX.ext{H:Y0}{nx:Nat}{css:List (List Value)}{X:Nat->Rat}{H':Y0}{nx':Nat}(h:RX H nx css X)(e:D0 H nx H' nx'):RX H' nx' css X:=fun q c hc=>(h q c hc).ext e
theorem RX.put{H:Y0}{nx b i sl:Nat}{css:List (List Value)}{c:List Value}{X Y:Nat->Rat}{y:Rat}(h:RX H nx css X)(hg:J0 H b=some (.cells css.flatten sl))(hc:RR H nx (.agg ⟨c⟩) y)(hi:i<css.length)(hY:Y i=y)(hX:∀ q,q≠i->Y q=X q):RX (hs H b (some (.cells (css.set i c).flatten 0))) nx (css.set i c) Y:=by
 intro q d hq
 by_cases e:q=i
 .subst e
  rw[dG hi] at hq
  cases hq
  rw[hY];exact RR.box hc hg (N77 h.tri)
 .rw[bL O0] at hq
  rw[hX q e];exact RR.box (h q d hq) hg (N77 h.tri)
def RO(H:Y0)(nx b n:Nat)(X:Nat->Rat):Prop:=∃ css,J0 H b=some (.cells css.flatten 0)/\b<nx/\css.length=n/\RX H nx css X
theorem RO.ext{H:Y0}{nx b n:Nat}{X:Nat->Rat}{H':Y0}{nx':Nat}(h:RO H nx b n X)(e:D0 H nx H' nx'):RO H' nx' b n X:=by
 obtain⟨css,hg,hb,hl,hx⟩:=h;have:=e.le;exact⟨css,(e.get b hb).trans hg,O0,hl,hx.ext e⟩
theorem RO.congr{H:Y0}{nx b n:Nat}{X Y:Nat->Rat}(h:RO H nx b n X)(e:∀ q,q<n->Y q=X q):RO H nx b n Y:=by
 obtain⟨css,hg,hb,hl,hx⟩:=h;refine⟨css,hg,hb,hl,fun q c hc => ?_⟩;have:=(aJ.1 hc).1;rw[e q O0];exact hx q c hc
theorem RB.ro{H:Y0}{nx b:Nat}{xs:List Rat}(h:RB H nx b xs):RO H nx b xs.length (fun q=>xs.getD q 0):=by
 obtain⟨css,hg,hb,hl,hc⟩:=h;refine⟨css,hg,hb,hl,fun q c hq => ?_⟩;have E:=(aJ.1 hq).1;have e:xs[q]? = some xs[q]:=aE O0;have:=(hc q c xs[q] hq e).2;simp only[aP,e,Option.getD_some];exact this
end Go.Clo
namespace Go.Proofs.YtoiioigihocgbaaGreatDoor
open Go.Clo
theorem Y76{H:Y0}{nx p n m:Nat}{r:List Value}(hg:J0 H p=O7 (O8 (n:Int) :: O8 (m:Int) :: r))(hn:n<=100)(hm:m<=100):
  Q2 gQ 127 [.pointer (some ⟨p,0,none⟩)] H nx fun v H' nx'=>O8 ((n+m+1:Nat):Int)=v/\H'=H/\nx<=nx':=by
 refine spec127 ?_;unfold F127;simp(disch:=omega)only[W0,hg];refine⟨?_,O0⟩;simp
theorem R93{H:Y0}{nx p n m:Nat}{r:List Value}(hg:J0 H p=O7 (O8 (n:Int) :: O8 (m:Int) :: r))(hn:n<=100)(hm:m<=100):
  Q2 gQ 136 [.pointer (some ⟨p,0,none⟩)] H nx fun v H' nx'=>O8 ((n+m:Nat):Int)=v/\H'=H/\nx<=nx':=by
 refine spec136 ?_;unfold F136;simp(disch:=omega)only[W0,hg];refine⟨?_,O0⟩;simp
end Go.Proofs.YtoiioigihocgbaaGreatDoor
namespace Go.Clo
theorem C87{x:Rat}:x.num=0<->x=0:=Rat.num_eq_zero
theorem sign_zero{x:Rat}:x.num.sign=0<->x=0:=by rw[Int.sign_eq_zero_iff_zero,C87]
end Go.Clo
namespace Go.Proofs.YtoiioigihocgbaaGreatDoor
open Go.Clo
theorem X86{H:Y0}{nx b c n cap cap':Nat}{X Y:Nat->Rat}{fv:Value}{z:Rat}(hx:RO H nx b n X)(hy:RO H nx c n Y)(hz:RR H nx fv z)(c8:0<n)(hn:n<=1000)(sX:∀ q,q<n->U15 (X q) 100000)(sY:∀ q,q<n->U15 (Y q) 100000)(sz:U15 z 100000)(sM:∀ q,q<n->U15 (z*Y q) 100000):
  Q2 gQ 139 [.slice (some ⟨b,0,none⟩) n cap,.slice (some ⟨c,0,none⟩) n cap',fv] H nx fun v H' nx'=>∃ b',v = .slice (some ⟨b',0,none⟩) n n/\nx<=b'/\RO H' nx' b' n (fun q=>X q-z*Y q)/\D0 H nx H' nx':=by
 obtain⟨zc,ba,an⟩:∃ zc,fv = .agg ⟨zc⟩/\V7 zc:=by
  obtain⟨A0,l0,c0,C0,m0,d0,rfl,_,_⟩:=hz.form;exact⟨_,rfl,_,_,_,_,_,_,_,rfl⟩
 subst ba;have az:Z0 zc=true:=by obtain⟨s,A,l,q,C,l',q',rfl⟩:=an;rfl
 have ah:∀ k:VP,B10 zc 0 (some 3) k=k (.agg ⟨zc⟩):=fun k=>by
  have:=J22 (css:=[zc]) (q:=0) (c:=zc) (fun d hd=>by simp at hd;subst hd;exact an.three) rfl k;simpa using this
 obtain⟨cx,bu,bc,a9,a1⟩:=hx;obtain⟨cy,b8,bg,c3,ap⟩:=hy;have bd:(aF n Z29).flatten.length=3*n:=by
  rw[W26 (fun d hd=>by rw[(List.mem_replicate.1 hd).2];rfl),iC]
 have av:cx.flatten.length=3*n:=by rw[W26 a1.three,a9]
 refine spec139 ?_;unfold F139;simp only[W0,Q0.val,az];rw[M27 O0,show [dU false,O6,O6]=Z29 from rfl,Z83];have ak:D0 H nx (hs (hs H nx (O7 zc)) (nx+1) (some (.cells (aF n Z29).flatten 0))) (nx+1+1):=((D0.refl H nx).nw _ (m:=nx+1)).nw _;rw[J79 (sl:=0) (row:=(aF n Z29).flatten) (Z11 _ _ _) (J9 (m:=n) ((ak.get b bc).trans bu) (by rw[av];omega) O0) (aD _) (Y82 a1.tri) O0,
  G24 (by rw[av,bd])]
 have g0:J0 (hs (hs (hs H nx (O7 zc)) (nx+1) (some (.cells (aF n Z29).flatten 0))) (nx+1) (O7 cx.flatten)) nx=O7 zc:=by
  rw[N7,if_neg O0,N7,if_neg O0,Z11]
 have g1:J0 (hs (hs (hs H nx (O7 zc)) (nx+1) (some (.cells (aF n Z29).flatten 0))) (nx+1) (O7 cx.flatten)) (nx+1)=O7 cx.flatten:=Z11 _ _ _;have hE:=ak.hs (b:=O7 cx.flatten) (show nx<=nx+1 by omega);generalize hs (hs (hs H nx (O7 zc)) (nx+1) (some (.cells (aF n Z29).flatten 0))) (nx+1) (O7 cx.flatten)=H3 at *
 simp only[W0,g0,ah];have b3:=hz.ext hE;refine R0 (E74 b3 ⟨by have:=sz.1;omega,by have:=sz.2;omega⟩) ?_;rintro _ H4 c7 ⟨rfl,W⟩;have bw:=W.le;have bt:=(W.gt nx).trans g0;have al:=(W.gt (nx+1)).trans g1;have a0:=hE.trans W
 by_cases a8:z=0
 .have e:=sign_zero.2 a8
  simp only[W0,e];refine⟨nx+1,rfl,O0,⟨cx,al,O0,a9,fun q c hc => ?_⟩,a0⟩;have:=(a1 q c hc).ext a0;show RR _ _ _ (X q-z*Y q);rw[a8,Rat.zero_mul,show X q-0=X q by grind];exact this
 have e:¬ z.num.sign=0:=fun h=>a8 (sign_zero.1 h)
 simp only[W0,e];refine B1 (m:=n) (fun m L H' nx'=>∃(i:Nat) (css:List (List Value)),m+i=n/\L=[O8 (i:Int)]/\css.length=n/\RX H' nx' css (fun q=>if q<i then X q-z*Y q else X q) /\
  J0 H' nx=O7 zc/\J0 H' (nx+1)=O7 css.flatten/\D0 H nx H' nx'/\nx+1<nx') ?_ ⟨0,cx,O0,rfl,a9,fun q c hc=>by simpa using (a1 q c hc).ext a0,bt,al,a0,O0⟩
 rintro m ih L H5 bo ⟨i,css,hm,rfl,V,U,ai,a7,O,c6⟩ aj
 by_cases hi:i<n
 case neg=>
  have a6:¬ (i:Int)<(n:Int):=O0;simp only[W0,a6];refine⟨nx+1,rfl,O0,⟨css,a7,O0,V,fun q c hc => ?_⟩,O⟩;have hq:=(aJ.1 hc).1;have:=U q c hc;dsimp only at this ⊢;rw[if_pos O0] at this;exact this
 have a6:(i:Int)<(n:Int):=O0;have ao:=(O.get c bg).trans b8;have ac:cy[i]? = some cy[i]:=aE O0;have aa:css[i]? = some css[i]:=aE O0;have ae:=(ap i _ ac).ext O;have a5:=U i _ aa;dsimp only at a5;rw[if_neg O0] at a5;have aq:=ap.three;have aw:=U.three;simp(disch:=omega)only[W0,N13,a6,ao,J22 aq ac];refine R0 (E74 ae ⟨by have:=(sY i hi).1;omega,by have:=(sY i hi).2;omega⟩) ?_;rintro _ H7 bf ⟨rfl,J⟩;have bx:=J.le;have ax:=(J.gt nx).trans ai;have g17:=(J.gt (nx+1)).trans a7
 by_cases ab:Y i=0
 .have e:=sign_zero.2 ab
  simp only[W0,e];refine aj (m-1) _ _ _ O0 ⟨i+1,css,O0,O2,V,fun q c hc => ?_,ax,g17,O.trans J,O0⟩;have:=(U q c hc).ext J;dsimp only at this ⊢
  by_cases hq:q<i
  .rw[if_pos O0];rw[if_pos hq] at this;exact this
  .rw[if_neg hq] at this
   by_cases b4:q=i
   .subst b4
    rw[if_pos O0,ab,Rat.mul_zero,show X q-0=X q by grind];exact this
   .rw[if_neg O0];exact this
 have e:¬ (Y i).num.sign=0:=fun h=>ab (sign_zero.1 h)
 have bk:=(J.get c (by have:=O.le;omega)).trans ao;simp only[W0,e,ne_eq,not_false_eq_true,g17,ax,bk,ah,J22 aq ac,J22 aw aa];have Q:D0 H5 bo H7 (bf+15):=J.trans (D0.sf);refine R0 (N100 ((hz.ext O).ext Q) (ae.ext Q) sz (sY i hi)) ?_;rintro r1 H9 c4 ⟨ay,Z⟩;have bz:=Z.le;have ag:=(a5.ext Q).ext Z;refine R0 (Z110 ag ay (sX i hi) (sM i hi)) ?_;rintro r2 c9 bv ⟨ad,a4⟩;have b5:=a4.le;have E:=(Q.trans Z).trans a4;have au:=(E.gt nx).trans ai;have a3:=(E.gt (nx+1)).trans a7;have bh:=(Z.gt (nx+1)).trans g17;have a2:=U.ext E;obtain⟨zz,rfl⟩:∃ zz,r2 = .agg ⟨zz⟩:=by
  obtain⟨A0,l0,c0,C0,m0,d0,rfl,_,_⟩:=ad.form;exact⟨_,rfl⟩
 rw[cG i 3,R74 a3 a2.tri ad.tri O0,cG 3 i];simp only[W0,bh,J22 aw aa];refine aj (m-1) _ _ _ O0 ⟨i+1,css.set i zz,O0,O2,by simp[V],a2.put a3 ad O0 (by rw[if_pos O0]) (fun q hq => ?_),?_,Z11 _ _ _,(O.trans E).h0,O0⟩
 .by_cases h:q<i
  .rw[if_pos h,if_pos O0]
  .rw[if_neg h,if_neg O0]
 .rw[N7,if_neg O0];exact au
end Go.Proofs.YtoiioigihocgbaaGreatDoor
namespace Go.Lp
section
variable {c i k n r s v:Nat} {f g:Nat->Rat}
def Z25(n:Nat)(f:Nat->Rat):Rat:=n.rec 0 fun k s=>s+f k
theorem zdiv(x:Rat):0/x=0:=by rw[Rat.div_def];grind
theorem Y77(f:Nat->Rat):Z25 0 f=0:=rfl
theorem W33(n:Nat)(f:Nat->Rat):Z25 (n+1) f=Z25 n f+f n:=rfl
theorem Q35{f g:Nat->Rat}:∀ {n:Nat},(∀ i,i<n->f i=g i)->Z25 n f=Z25 n g
 | 0,_=>rfl
 | n+1,h=>by rw[W33,W33,Q35 fun i hi=>h i O0,h n O0]
theorem K82{f g:Nat->Rat}:∀ {n:Nat},Z25 n (fun i=>f i+g i)=Z25 n f+Z25 n g
 | 0=>by simp only[Y77];grind
 | n+1=>by rw[W33,W33,W33,K82];grind
theorem W74{f:Nat->Rat}{c:Rat}:∀ {n:Nat},Z25 n (fun i=>c*f i)=c*Z25 n f
 | 0=>by simp[Y77]
 | n+1=>by rw[W33,W33,W74];grind
theorem D71(h:∀ i,i<n->f i=0):Z25 n f=0:=by
 induction n with
 | zero=>rfl
 | succ n ih=>rw[W33,ih fun i hi=>h i O0,h n O0];grind
theorem Q80{f:Nat->Rat}:∀ {n:Nat},(∀ i,i<n->0<=f i)->0<=Z25 n f
 | 0,_=>by simp[Y77]
 | n+1,h=>by
  rw[W33];have h1:=Q80 (n:=n) fun i hi=>h i O0
  have h2:=h n O0
  grind
theorem U94{f:Nat->Rat}:∀ {n:Nat} {r:Nat},r<n->(∀ i,i<n->0<=f i)->0<f r->0<Z25 n f
 | 0,_,h,_,_=>O0
 | n+1,r,hr,h,hp=>by
  rw[W33];have h2:=h n O0
  by_cases e:r=n
  .subst e
   have h1:=Q80 (n:=r) fun i hi=>h i O0
   grind
  .have h1:=U94 (n:=n) (r:=r) O0 (fun i hi=>h i O0) hp
   grind
theorem R71(hr:r<n)(h:∀ i,i<n->i≠r->f i=0):Z25 n f=f r:=by
 induction n with
 | zero=>omega
 | succ n ih=>
  rw[W33]
  by_cases e:r=n
  .subst e
   rw[D71 fun i hi=>h i O0 O0];grind
  .rw[ih O0 fun i hi hn=>h i O0 hn,h n O0 O0];grind
theorem G103{m:Nat}{f:Nat->Nat->Rat}:Z25 n (fun i=>Z25 m fun k=>f i k)=Z25 m fun k=>Z25 n fun i=>f i k:=by
 induction n with
 | zero=>simp only[Y77];exact(D71 fun _ _=>rfl).symm
 | succ n ih=>simp only[W33];rw[ih,K82]
structure Tab where
 a:Nat->Nat->Rat
 g:Nat->Rat
 B:Nat->Nat
section
variable (m C R:Nat)
def pivot(T:Tab)(r c:Nat):Tab where
 a i j:=if i=r then T.a r j/T.a r c else T.a i j-T.a i c*(T.a r j/T.a r c)
 g j:=T.g j-T.g c*(T.a r j/T.a r c)
 B i:=if i=r then c else T.B i
structure J44 (T:Tab):Prop where
 lt:∀ i,i<m->T.B i<C
 unit:∀ i k,i<m->k<m->T.a i (T.B k)=if i=k then 1 else 0
 goal:∀ k,k<m->T.g (T.B k)=0
 rhs:∀ i,i<m->0<=T.a i R
def Enters(T:Tab)(c:Nat):Prop:=c<C/\T.g c<0/\∀ j,j<c->0<=T.g j
def Leaves(T:Tab)(c r:Nat):Prop:=r<m/\0<T.a r c/\∀ i,i<m->0<T.a i c->T.a r R/T.a r c<T.a i R/T.a i c\/(T.a r R/T.a r c=T.a i R/T.a i c/\T.B r<=T.B i)
def U95(T T':Tab):Prop:=∃ c r,Enters C T c/\Leaves m R T c r/\T'=pivot T r c
variable {m C R}
theorem J44.inj{T:Tab}(h:J44 m C R T)(hi:i<m)(hk:k<m)(e:T.B i=T.B k):i=k:=by
 have h1:=h.unit i k hi hk;have h2:=h.unit i i hi hi;rw[e,h1] at h2
 by_cases g:i=k
 .exact g
 .simp[g] at h2
theorem J44.fresh{T:Tab}(h:J44 m C R T)(hc:T.g c<0)(hi:i<m):T.B i≠c:=by
 intro e;have:=h.goal i hi;rw[e] at this
 grind
theorem J44.pivot{T:Tab}(h:J44 m C R T){c r:Nat}(hc:Enters C T c)(hl:Leaves m R T c r):J44 m C R (pivot T r c):=by
 obtain⟨hr,hp,Q⟩:=hl;have W:T.a r c≠0:=by grind
 have J:T.a r c/T.a r c=1:=by grind
 have hz:∀ k,k<m->k≠r->T.a r (T.B k)/T.a r c=0:=fun k hk E=>by
  rw[h.unit r k hr hk,if_neg O0];grind
 refine⟨fun i hi => ?_,fun i k hi hk => ?_,fun k hk => ?_,fun i hi => ?_⟩
 .show(if i=r then c else T.B i)<C
  split
  .exact hc.1
  .exact h.lt i hi
 .show(if i=r then T.a r (if k=r then c else T.B k)/T.a r c else T.a i (if k=r then c else T.B k)-T.a i c*(T.a r (if k=r then c else T.B k)/T.a r c))=_
  by_cases E:k=r
  .simp only[E,if_true,J]
   split
   .rfl
   .grind
  .simp only[E,if_false,hz k hk E]
   split
   .rename_i e
    rw[if_neg O0]
   .rw[h.unit i k hi hk];grind
 .show T.g (if k=r then c else T.B k)-T.g c*(T.a r (if k=r then c else T.B k)/T.a r c)=0
  by_cases E:k=r
  .simp only[E,if_true,J];grind
  .simp only[E,if_false,hz k hk E,h.goal k hk];grind
 .show 0<=(if i=r then T.a r R/T.a r c else T.a i R-T.a i c*(T.a r R/T.a r c))
  have V:=h.rhs r hr;have hq:0<=T.a r R/T.a r c:=by
   have:=fY V (Rat.le_of_lt (Rat.inv_pos.2 hp));rwa [Rat.div_def]
  split
  .exact hq
  .have Z:=h.rhs i hi
   by_cases O:0<T.a i c
   .have U:T.a r R/T.a r c<=T.a i R/T.a i c:=by
     rcases Q i hi O with h1 | ⟨h1,_⟩
     .exact Rat.le_of_lt h1
     .rw[h1];exact Rat.le_refl
    have h2:=Rat.mul_le_mul_of_nonneg_left U (Rat.le_of_lt O);have h3:T.a i c*(T.a i R/T.a i c)=T.a i R:=by grind
    grind
   .have h2:T.a i c*(T.a r R/T.a r c)<=0:=by
     have h4:0 <= -T.a i c:=by grind
     have:=fY h4 hq
     grind
    grind
variable (m) in
def X23(T:Tab)(f:Nat->Rat):Prop:=∃ c:Nat->Rat,∀ j,f j=Z25 m fun r=>c r*T.a r j
theorem X23.add{T:Tab}(h:X23 m T f)(h':X23 m T g):X23 m T fun j=>f j+g j:=by
 obtain⟨c,hc⟩:=h;obtain⟨d,hd⟩:=h';refine⟨fun r=>c r+d r,fun j => ?_⟩;show f j+g j=_;rw[hc,hd,<- K82];exact Q35 fun i _=>by grind
theorem X23.smul{T:Tab}{f:Nat->Rat}(h:X23 m T f)(k:Rat):X23 m T fun j=>k*f j:=by
 obtain⟨c,hc⟩:=h;refine⟨fun r=>k*c r,fun j => ?_⟩;show k*f j=_;rw[hc,<- W74];exact Q35 fun i _=>by grind
theorem X23.of{T:Tab}(h:X23 m T f)(e:∀ j,g j=f j):X23 m T g:=by rw[show g=f from funext e];exact h
theorem X23.row{T:Tab}(hr:r<m):X23 m T (T.a r):=by
 refine⟨fun i=>if i=r then 1 else 0,fun j => ?_⟩;rw[R71 hr fun i _ hn=>by simp[hn]];simp
theorem X23.zero{T:Tab}:X23 m T fun _=>0:=⟨fun _=>0,fun j=>(D71 fun _ _=>O2).symm⟩
theorem X23.trans{T T':Tab}(hT:∀ r,r<m->X23 m T (T'.a r))(h:X23 m T' f):X23 m T f:=by
 obtain⟨c,hc⟩:=h;have:∀ n,n<=m->X23 m T fun j=>Z25 n fun r=>c r*T'.a r j:=by
  intro n
  induction n with
  | zero=>exact fun _=>X23.zero
  | succ n ih=>exact fun hn=>(ih O0).add ((hT n O0).smul (c n))
 obtain⟨d,hd⟩:=this m (aD m);exact⟨d,fun j=>by rw[hc];exact hd j⟩
theorem U88{T:Tab}(hr:r<m)(hi:i<m):X23 m T ((pivot T r c).a i):=by
 have h1:X23 m T fun j=>T.a r j/T.a r c:=by
  have:=(X23.row (T:=T) hr).smul (T.a r c)⁻¹;exact this.of fun j=>by rw[Rat.div_def];grind
 by_cases e:i=r
 .subst e
  exact h1.of fun j=>by simp[pivot]
 .exact((X23.row (T:=T) hi).add (h1.smul (-T.a i c))).of fun j=>by simp only[pivot,e,if_false];grind
theorem K91{T:Tab}(hr:r<m):X23 m T fun j=>(pivot T r c).g j-T.g j:=by
 have h1:X23 m T fun j=>T.a r j/T.a r c:=by
  have:=(X23.row (T:=T) hr).smul (T.a r c)⁻¹;exact this.of fun j=>by rw[Rat.div_def];grind
 exact(h1.smul (-T.g c)).of fun j=>by simp only[pivot];grind
theorem Y93{T T':Tab}(h:J44 m C R T)(h':J44 m C R T')(hB:∀ i,i<m->T.B i=T'.B i)(hs:∀ r,r<m->X23 m T (T'.a r))(hg:X23 m T fun j=>T'.g j-T.g j):(∀ i,i<m->∀ j,T'.a i j=T.a i j)/\∀ j,T'.g j=T.g j:=by
 constructor
 .intro i hi j
  obtain⟨c,hc⟩:=hs i hi;have hk:∀ k,k<m->c k=if i=k then 1 else 0:=by
   intro k hk;have h1:=hc (T.B k);rw[hB k hk,h'.unit i k hi hk,R71 hk fun r hr hn=>by rw[<- hB k hk,h.unit r k hr hk,if_neg hn];simp] at h1;rw[<- hB k hk,h.unit k k hk hk,if_pos rfl] at h1
   grind
  rw[hc j,R71 hi fun r hr hn=>by rw[hk r hr,if_neg O0];simp,hk i hi,if_pos rfl]
  grind
 .intro j
  obtain⟨c,hc⟩:=hg;have hk:∀ k,k<m->c k=0:=by
   intro k hk;have h1:T'.g (T.B k)-T.g (T.B k)=_:=hc (T.B k);rw[R71 hk fun r hr hn=>by rw[h.unit r k hr hk,if_neg hn];simp] at h1;rw[h.goal k hk,hB k hk,h'.goal k hk,<- hB k hk,h.unit k k hk hk,if_pos rfl] at h1
   grind
  have:=hc j;rw[D71 fun r hr=>by rw[hk r hr];simp] at this
  grind
end
section
variable {m C R:Nat} {T:Nat->Tab} {e l:Nat->Nat}
structure Run (m C R:Nat) (T:Nat->Tab) (e l:Nat->Nat):Prop where
 canon:J44 m C R (T 0)
 enters:∀ k,Enters C (T k) (e k)
 leaves:∀ k,Leaves m R (T k) (e k) (l k)
 next:∀ k,T (k+1)=pivot (T k) (l k) (e k)
theorem Run.can(h:Run m C R T e l):∀ k,J44 m C R (T k)
 | 0=>h.canon
 | k+1=>by rw[h.next];exact(h.can k).pivot (h.enters k) (h.leaves k)
theorem Run.span(h:Run m C R T e l):∀ {k:Nat},i<=k->(∀ r,r<m->X23 m (T i) ((T k).a r))/\X23 m (T i) fun j=>(T k).g j-(T i).g j:=by
 intro k
 induction k with
 | zero=>
  intro hk;obtain rfl:i=0:=O0;exact⟨fun r hr=>X23.row hr,X23.zero.of fun j=>by grind⟩
 | succ k ih=>
  intro hk
  by_cases e1:i=k+1
  .subst e1
   exact⟨fun r hr=>X23.row hr,X23.zero.of fun j=>by grind⟩
  .obtain⟨h1,h2⟩:=ih O0
   rw[h.next k];refine⟨fun r hr=>X23.trans h1 (U88 (h.leaves k).1 hr),?_⟩;have h3:=X23.trans h1 (K91 (T:=T k) (r:=l k) (c:=e k) (h.leaves k).1);exact(h2.add h3).of fun j=>by grind
theorem Run.value(h:Run m C R T e l)(k:Nat):(T k).g R<=(T (k+1)).g R/\((T (k+1)).g R=(T k).g R->(T k).a (l k) R=0):=by
 have h1:=(h.enters k).2.1;obtain⟨hr,hp,_⟩:=h.leaves k;have h3:=(h.can k).rhs (l k) hr;have hv:(T (k+1)).g R=(T k).g R-(T k).g (e k)*((T k).a (l k) R/(T k).a (l k) (e k)):=by rw[h.next];rfl
 have hq:0<=(T k).a (l k) R/(T k).a (l k) (e k):=by
  have:=fY h3 (Rat.le_of_lt (Rat.inv_pos.2 hp));rwa [Rat.div_def]
 have hm:=fY (a := -(T k).g (e k)) (by grind) hq;refine⟨by rw[hv];grind,fun e1 => ?_⟩;rw[hv] at e1;have h0:(T k).g (e k)*((T k).a (l k) R/(T k).a (l k) (e k))=0:=by grind
 rcases Rat.mul_eq_zero.1 h0 with h4 | h4
 .grind
 .rw[Rat.div_def] at h4
  rcases Rat.mul_eq_zero.1 h4 with h5 | h5
  .exact h5
  .have h6:(T k).a (l k) (e k)*((T k).a (l k) (e k))⁻¹=1:=Rat.mul_inv_cancel _ (by grind)
   rw[h5] at h6;grind
theorem Run.value_le(h:Run m C R T e l):∀ {k:Nat},i<=k->(T i).g R<=(T k).g R:=by
 intro k
 induction k with
 | zero=>intro hk;obtain rfl:i=0:=O0;exact Rat.le_refl
 | succ k ih=>
  intro hk
  by_cases e1:i=k+1
  .subst e1;exact Rat.le_refl
  .have:=ih O0
   have:=(h.value k).1
   grind
def InB(m:Nat)(T:Tab)(v:Nat):Prop:=∃ r,r<m/\T.B r=v
theorem Run.inB_next(h:Run m C R T e l)(hv:v≠e k)(hl:v≠(T k).B (l k)):InB m (T (k+1)) v<->InB m (T k) v:=by
 rw[h.next]
 constructor
 .rintro⟨r,hr,hB⟩
  have hB:(if r=l k then e k else(T k).B r)=v:=hB
  split at hB
  .exact absurd hB.symm hv
  .exact⟨r,hr,hB⟩
 .rintro⟨r,hr,hB⟩
  refine⟨r,hr,?_⟩;show(if r=l k then e k else(T k).B r)=v;rw[if_neg (fun e1=>hl (by rw[<- e1];exact hB.symm))];exact hB
theorem Run.inB_new(h:Run m C R T e l):InB m (T (k+1)) (e k):=by
 rw[h.next];exact⟨l k,(h.leaves k).1,by show(if l k=l k then e k else(T k).B (l k))=e k;rw[if_pos rfl]⟩
theorem Run.inB_old(h:Run m C R T e l):¬ InB m (T k) (e k):=by
 rintro⟨r,hr,hB⟩;exact(h.can k).fresh (h.enters k).2.1 hr hB
theorem Run.out(h:Run m C R T e l)(h0:¬ InB m (T i) v):∀ {k:Nat},i<=k->(∀ q,i<=q->q<k->e q≠v)->¬ InB m (T k) v:=by
 intro k
 induction k with
 | zero=>intro hk _;obtain rfl:i=0:=O0;exact h0
 | succ k ih=>
  intro hk hq
  by_cases e1:i=k+1
  .subst e1;exact h0
  .have h1:=ih O0 fun q a b=>hq q a O0
   intro h2
   by_cases e2:v=(T k).B (l k)
   .exact h1 ⟨l k,(h.leaves k).1,e2.symm⟩
   .exact h1 ((h.inB_next (hq k O0 O0).symm e2).1 h2)
theorem Run.stay(h:Run m C R T e l)(h0:InB m (T i) v):∀ {k:Nat},i<=k->(∀ q,i<=q->q<k->(T q).B (l q)≠v)->InB m (T k) v:=by
 intro k
 induction k with
 | zero=>intro hk _;obtain rfl:i=0:=O0;exact h0
 | succ k ih=>
  intro hk hq
  by_cases e1:i=k+1
  .subst e1;exact h0
  .have h1:=ih O0 fun q a b=>hq q a O0
   by_cases e2:v=e k
   .rw[e2];exact h.inB_new
   .exact(h.inB_next e2 (hq k O0 O0).symm).2 h1
def dir(m:Nat)(T:Tab)(s:Nat)(f:Nat->Rat):Rat:=f s-Z25 m fun r=>f (T.B r)*T.a r s
theorem D98{T:Tab}:dir m T s (fun j=>f j+g j)=dir m T s f+dir m T s g:=by
 unfold dir;rw[show(Z25 m fun r=>(f (T.B r)+g (T.B r))*T.a r s)=Z25 m (fun r=>f (T.B r)*T.a r s)+Z25 m fun r=>g (T.B r)*T.a r s by rw[<- K82];exact Q35 fun i _=>by grind]
 grind
theorem U104{T:Tab}{k:Rat}:dir m T s (fun j=>k*f j)=k*dir m T s f:=by
 unfold dir;rw[show(Z25 m fun r=>k*f (T.B r)*T.a r s)=k*Z25 m fun r=>f (T.B r)*T.a r s by rw[<- W74];exact Q35 fun i _=>by grind]
 grind
theorem W107{T:Tab}(h:J44 m C R T)(hr:r<m):dir m T s (T.a r)=0:=by
 unfold dir;rw[R71 hr fun i hi hn=>by rw[h.unit r i hr hi,if_neg (fun e=>hn e.symm)];simp,h.unit r r hr hr,if_pos rfl]
 grind
theorem D105{T:Tab}:dir m T s (fun _=>0)=0:=by
 unfold dir;rw[D71 fun _ _=>O2];grind
theorem X94{T:Tab}(h:J44 m C R T)(hf:X23 m T f):dir m T s f=0:=by
 obtain⟨c,hc⟩:=hf;have e1:f=fun j=>Z25 m fun r=>c r*T.a r j:=funext hc
 have:∀ n,n<=m->dir m T s (fun j=>Z25 n fun r=>c r*T.a r j)=0:=by
  intro n
  induction n with
  | zero=>exact fun _=>D105
  | succ n ih=>
   intro hn;have:=D98 (m:=m) (T:=T) (s:=s) (f:=fun j=>Z25 n fun r=>c r*T.a r j) (g:=fun j=>c n*T.a n j);rw[ih O0,U104,W107 h O0] at this;simp only[W33];rw[this];grind
 rw[e1];exact this m (aD m)
theorem E103{T:Tab}(h:J44 m C R T):dir m T s T.g=T.g s:=by
 unfold dir;rw[D71 fun r hr=>by rw[h.goal r hr];simp];grind
theorem Run.no_cycle(h:Run m C R T e l){j:Nat}(ap:i<j)(hB:∀ r,r<m->(T i).B r=(T j).B r):False:=by
 obtain⟨ax,aw⟩:=h.span (eG ap);obtain⟨sa,sg⟩:=Y93 (h.can i) (h.can j) hB ax aw;have a5:∀ k,i<=k->k<=j->(T k).g R=(T i).g R:=fun k h1 h2=>by
  have a1:=h.value_le h1;have a2:=h.value_le h2;rw[sg R] at a2
  grind
 have U:∀ k,i<=k->k<j->(T k).a (l k) R=0:=fun k h1 h2=>(h.value k).2 (by rw[a5 k h1 O0,a5 (k+1) O0 O0])
 have a6:∀ k,i<=k->k<=j->∀ r,r<m->(T k).a r R=(T i).a r R:=by
  intro k
  induction k with
  | zero=>intro h1 _ r _;obtain rfl:i=0:=O0;rfl
  | succ k ih=>
   intro h1 h2 r hr
   by_cases e1:i=k+1
   .rw[<- e1]
   .have hk:=ih O0 O0
    have hd:=U k O0 O0;rw[h.next];show(if r=l k then(T k).a (l k) R/(T k).a (l k) (e k) else(T k).a r R-(T k).a r (e k)*((T k).a (l k) R/(T k).a (l k) (e k)))=_;rw[hd,zdiv]
    split
    .rename_i e2
     rw[e2,<- hk _ (h.leaves k).1,hd]
    .rw[<- hk r hr];grind
 have ag:∀ r,r<m->(∃ k,i<=k/\k<j/\l k=r)->∀ q,i<=q->q<=j->(T q).a r R=0:=by
  rintro r hr ⟨k,h1,h2,rfl⟩ q h3 h4;rw[a6 q h3 h4 _ hr,<- a6 k h1 O0 _ hr];exact U k h1 h2
 have a7:∀ v,InB m (T i) v<->InB m (T j) v:=fun v=>⟨fun⟨r,hr,e1⟩=>⟨r,hr,by rw[<- hB r hr];exact e1⟩,fun⟨r,hr,e1⟩=>⟨r,hr,by rw[hB r hr];exact e1⟩⟩
 obtain⟨k1,ac,b3,V⟩:∃ k1,i<=k1/\k1<j/\∀ k,i<=k->k<j->e k<=e k1:=by
  have:∀ n,i+n+1<=j->∃ k1,i<=k1/\k1<=i+n/\∀ k,i<=k->k<=i+n->e k<=e k1:=by
   intro n
   induction n with
   | zero=>exact fun _=>⟨i,aD _,O0,fun k a b=>by obtain rfl:k=i:=O0;exact aD _⟩
   | succ n ih=>
    intro hn;obtain⟨k1,a,b,c⟩:=ih O0
    by_cases a3:e (i+n+1)<=e k1
    .refine⟨k1,a,O0,fun k p q => ?_⟩
     by_cases e1:k=i+n+1
     .rw[e1];exact a3
     .exact c k p O0
    .refine⟨i+n+1,O0,O0,fun k p q => ?_⟩
     by_cases e1:k=i+n+1
     .rw[e1];exact aD _
     .have:=c k p O0;omega
  obtain⟨k1,a,b,c⟩:=this (j-i-1) O0;exact⟨k1,a,O0,fun k p q=>c k p O0⟩
 generalize ht:e k1=t at V;obtain⟨k2,W,ah,E⟩:∃ k2,i<=k2/\k2<j/\(T k2).B (l k2)=t:=by
  refine aI fun J => ?_
  have J:∀ k,i<=k->k<j->(T k).B (l k)≠t:=fun k a b c=>J ⟨k,a,b,c⟩
  have h3:InB m (T j) t:=h.stay (i:=k1+1) (by rw[<- ht];exact h.inB_new) O0 fun q a b=>J q O0 b
  have h4:InB m (T k1) t:=h.stay (i:=i) ((a7 t).2 h3) ac fun q a b=>J q a O0
  rw[<- ht] at h4;exact h.inB_old h4
 have a4:∀ v,(∀ k,i<=k->k<j->e k≠v)->∀ k k',i<=k->k<=j->i<=k'->k'<=j->InB m (T k) v->InB m (T k') v:=by
  intro v hv k k' a b c d ab;have hi:InB m (T i) v:=aI fun hn=>h.out hn a (fun q x y=>hv q x O0) ab
  refine aI fun hn => ?_
  exact h.out hn d (fun q x y=>hv q O0 y) ((a7 v).1 hi)
 have aa:X23 m (T k2) fun q=>(T k1).g q-(T k2).g q:=by
  by_cases a3:k2<=k1
  .exact(h.span a3).2
  .have s1:=h.span (i:=i) (k:=k1) ac
   have s2:=h.span (i:=k2) (k:=j) O0;have s3:∀ r,r<m->X23 m (T k2) ((T i).a r):=fun r hr=>by
    have:=s2.1 r hr;rwa [show(T j).a r=(T i).a r from funext fun q=>sa r hr q] at this
   have s4:=X23.trans s3 s1.2;exact(s2.2.add s4).of fun q=>by rw[sg q];grind
 generalize a0:e k2=s at *
 have ai:dir m (T k2) s (T k1).g=(T k2).g s:=by
  have h1:=D98 (m:=m) (T:=T k2) (s:=s) (f:=fun q=>(T k1).g q-(T k2).g q) (g:=(T k2).g);rw[X94 (h.can k2) aa,E103 (h.can k2)] at h1;rw[show(fun q=>((T k1).g q-(T k2).g q)+(T k2).g q)=(T k1).g from funext fun q=>by grind] at h1;rw[h1];grind
 have ay:(T k2).g s<0:=by rw[<- a0];exact(h.enters k2).2.1
 have az:(T k1).g t<0:=by rw[<- ht];exact(h.enters k1).2.1
 have O:∀ v,v<t->0<=(T k1).g v:=fun v hv=>(h.enters k1).2.2 v (by rw[ht];exact hv)
 obtain⟨a9,a8,Z⟩:=h.leaves k2;rw[a0] at a8 Z;have au:s<t:=by
  have h1:s<=t:=by rw[<- a0];exact V k2 W ah
  have h2:s≠t:=fun e1=>h.inB_old (k:=k2) ⟨l k2,a9,by rw[a0,e1];exact E⟩
  omega
 have ad:∀ r,r<m->(T k1).g ((T k2).B r)*(T k2).a r s<=0:=by
  intro r hr
  by_cases ae:r=l k2
  .rw[ae,E]
   have:=fY (a := -(T k1).g t) (b:=(T k2).a (l k2) s) (by grind) (Rat.le_of_lt a8)
   grind
  .by_cases hE:∃ k,i<=k/\k<j/\e k=(T k2).B r
   .obtain⟨k,a,b,c⟩:=hE
    have aq:(T k2).B r<t:=by
     have h1:(T k2).B r<=t:=by rw[<- c];exact V k a b
     have h2:(T k2).B r≠t:=fun e1=>ae ((h.can k2).inj hr a9 (e1.trans E.symm))
     omega
    have aj:∃ q,i<=q/\q<j/\l q=r:=by
     refine aI fun J => ?_
     have J:∀ q,i<=q->q<j->l q≠r:=fun q x y z=>J ⟨q,x,y,z⟩
     have Q:∀ q,i<=q->q<=j->(T q).B r=(T i).B r:=by
      intro q
      induction q with
      | zero=>intro x _;obtain rfl:i=0:=O0;rfl
      | succ q ih=>
       intro x y
       by_cases e1:i=q+1
       .rw[<- e1]
       .rw[h.next]
        show(if r=l q then e q else(T q).B r)=_;rw[if_neg (fun e2=>J q O0 O0 e2.symm)];exact ih O0 O0
     exact h.inB_old (k:=k) ⟨r,hr,by rw[c,Q k a O0,Q k2 W O0]⟩
    have hz:=ag r hr aj k2 W O0;have av:=U k2 W ah;have a3:(T k2).a r s<=0:=by
     refine aI fun hn => ?_
     have ak:0<(T k2).a r s:=by grind
     rcases Z r hr ak with h1 | ⟨_,h1⟩
     .rw[hz,av,zdiv,zdiv] at h1;grind
     .rw[E] at h1;omega
    have:=fY (O _ aq) (b := -(T k2).a r s) (by grind)
    grind
   .have ab:InB m (T k1) ((T k2).B r):=a4 _ (fun k a b c=>hE ⟨k,a,b,c⟩) k2 k1 W O0 ac O0 ⟨r,hr,rfl⟩
    obtain⟨r1,an,e1⟩:=ab;rw[<- e1,(h.can k1).goal r1 an];simp
 have ao:(T k1).g ((T k2).B (l k2))*(T k2).a (l k2) s<0:=by
  rw[E];have:=Rat.mul_pos (a := -(T k1).g t) (b:=(T k2).a (l k2) s) (by grind) a8
  grind
 have al:0<Z25 m fun r=>(-1:Rat)*((T k1).g ((T k2).B r)*(T k2).a r s):=U94 a9 (fun r hr=>by have:=ad r hr;grind) (by grind)
 rw[W74] at al;unfold dir at ai;have h0:=O s au
 grind
def G6(C:Nat)(B:Nat->Nat)(n:Nat):Nat:=n.rec 0 fun k s=>s*C+B k
theorem Z98{C:Nat}{B:Nat->Nat}:∀ {n:Nat},(∀ i,i<n->B i<C)->G6 C B n<C^n
 | 0,_=>Nat.lt_succ_self 0
 | n+1,h=>by
  have h1:=Z98 (n:=n) fun i hi=>h i O0
  have h2:=h n O0;show G6 C B n*C+B n<C^(n+1);rw[dR];have h3:(G6 C B n+1)*C<=C^n*C:=dS C h1;rw[dM,Nat.one_mul] at h3;omega
theorem Q94{C:Nat}{B B':Nat->Nat}:∀ {n:Nat},(∀ i,i<n->B i<C)->(∀ i,i<n->B' i<C)->G6 C B n=G6 C B' n->∀ i,i<n->B i=B' i
 | 0,_,_,_,i,hi=>O0
 | n+1,h,h',e1,i,hi=>by
  have e1:G6 C B n*C+B n=G6 C B' n*C+B' n:=e1;have h1:=h n O0;have h2:=h' n O0;have hq:G6 C B n=G6 C B' n:=by
   have a:(G6 C B n*C+B n)/C=(G6 C B' n*C+B' n)/C:=by rw[e1]
   rw[cG,cG (G6 C B' n),Nat.mul_add_div O0,Nat.mul_add_div O0,Nat.div_eq_of_lt h1,Nat.div_eq_of_lt h2] at a;simpa using a
  have hr:B n=B' n:=by rw[hq] at e1;omega
  by_cases e2:i=n
  .rw[e2];exact hr
  .exact Q94 (n:=n) (fun i hi=>h i O0) (fun i hi=>h' i O0) hq i O0
theorem G109{N:Nat}{f:Nat->Nat}(h:∀ k,f k<N):∃ i j,i<j/\f i=f j:=by
 refine aI fun E => ?_
 have E:∀ i j,i<j->f i≠f j:=fun i j a b=>E ⟨i,j,a,b⟩
 have:∀ N,∀ s:Nat->Nat,(∀ i j,i<j->s i<s j)->(∀ k,f (s k)<N)->False:=by
  intro N
  induction N with
  | zero=>intro s _ h;exact absurd (h 0) O0
  | succ N ih=>
   intro s hs h
   by_cases hx:∃ k,f (s k)=N
   .obtain⟨k,hk⟩:=hx
    refine ih (fun i=>s (k+1+i)) (fun i j J=>hs _ _ O0) fun q => ?_
    have h1:=h (k+1+q);have h2:=E (s k) (s (k+1+q)) (hs _ _ O0);rw[hk] at h2;omega
   .exact ih s hs fun k=>by
     have h1:=h k;have h2:f (s k)≠N:=fun e1=>hx ⟨k,e1⟩
     omega
 exact this N id (fun i j J=>J) h
theorem Run.false(h:Run m C R T e l):False:=by
 obtain⟨i,j,E,e1⟩:=G109 (f:=fun k=>G6 C (T k).B m) fun k=>Z98 (h.can k).lt
 exact h.no_cycle E fun r hr=>Q94 (h.can i).lt (h.can j).lt e1 r hr
end
end
section
variable {A B M N:Nat} {T T':Tab} {x y:Rat}
def Sz(M:Nat)(x:Rat):Prop:=x.num.natAbs<=M/\x.den<=M
theorem Sz.mono{M':Nat}(h:Sz M x)(e:M<=M'):Sz M' x:=⟨bK h.1 e,bK h.2 e⟩
theorem Z102(a:Int)(b:Nat)(hb:b≠0):(mkRat a b).num.natAbs<=a.natAbs/\(mkRat a b).den<=b:=by
 rw[show mkRat a b=Rat.normalize a b hb from by unfold mkRat;rw[dif_neg hb]];rw[Rat.normalize_eq];refine⟨?_,Nat.div_le_self _ _⟩;show(a/_).natAbs<=_;exact Int.natAbs_ediv_le_natAbs _ _
theorem Sz.mul(hx:Sz A x)(hy:Sz B y):Sz (A*B) (x*y):=by
 have h:=Z102 (x.num*y.num) (x.den*y.den) (Nat.mul_ne_zero x.den_nz y.den_nz);have e:x*y=mkRat (x.num*y.num) (x.den*y.den):=Rat.mul_def' x y;rw[e];refine⟨bK h.1 ?_,bK h.2 (eL hx.2 hy.2)⟩;rw[Int.natAbs_mul];exact eL hx.1 hy.1
theorem Sz.inv(hA:1<=A)(hx:Sz A x):Sz A x⁻¹:=by
 by_cases h0:x=0
 .subst h0
  rw[Rat.inv_zero];exact⟨O2,by simpa using hA⟩
 .refine⟨?_,?_⟩
  .rw[Rat.num_inv,Int.natAbs_mul,Int.natAbs_sign,if_neg (by simpa using h0)]
   simpa using hx.2
  .rw[Rat.den_inv,if_neg (fun e=>h0 (Rat.num_eq_zero.1 e))];exact hx.1
theorem Sz.div(hB:1<=B)(hx:Sz A x)(hy:Sz B y):Sz (A*B) (x/y):=by
 rw[Rat.div_def];exact hx.mul (hy.inv hB)
theorem Sz.sub(hx:Sz A x)(hy:Sz B y):Sz (A*B+B*A) (x-y):=by
 have h:=Z102 (x.num*y.den-y.num*x.den) (x.den*y.den) (Nat.mul_ne_zero x.den_nz y.den_nz);have e:x-y=mkRat (x.num*y.den-y.num*x.den) (x.den*y.den):=Rat.sub_def' x y;rw[e];refine⟨bK h.1 ?_,bK h.2 (bK (eL hx.2 hy.2) (Nat.le_add_right _ _))⟩;have h1:(x.num*y.den-y.num*x.den:Int).natAbs<=(x.num*y.den:Int).natAbs+(y.num*x.den:Int).natAbs:=Int.natAbs_sub_le _ _;rw[Int.natAbs_mul,Int.natAbs_mul] at h1;refine bK h1 (Nat.add_le_add (eL hx.1 hy.2) (eL hy.1 hx.2))
variable {m C R:Nat}
def TSz(m N M:Nat)(T:Tab):Prop:=(∀ i j,i<m->j<N->Sz M (T.a i j))/\∀ j,j<N->Sz M (T.g j)
theorem TSz.mono{N M M':Nat}{T:Tab}(h:TSz m N M T)(e:M<=M'):TSz m N M' T:=⟨fun i j hi hj=>(h.1 i j hi hj).mono e,fun j hj=>(h.2 j hj).mono e⟩
def U44(M:Nat):Nat:=M*(M*(M*M))+M*(M*M)*M
def Z82(M:Nat):Nat->Nat
 | 0=>M
 | n+1=>U44 (Z82 M n)
def expN:Nat->Nat
 | 0=>0
 | n+1=>4*expN n+1
theorem N106(h:1<=M):M<=U44 M:=by
 unfold U44;have h1:1<=M*(M*M):=Nat.mul_pos h (Nat.mul_pos h h);have h2:M*1<=M*(M*(M*M)):=bG M h1;omega
theorem TSz.pivot{N M r c:Nat}{T:Tab}(hM:1<=M)(h:TSz m N M T)(hr:r<m)(hc:c<N):TSz m N (U44 M) (pivot T r c):=by
 have hq:∀ j,j<N->Sz (M*M) (T.a r j/T.a r c):=fun j hj=>(h.1 r j hr hj).div hM (h.1 r c hr hc)
 refine⟨fun i j hi hj => ?_,fun j hj => ?_⟩
 .show Sz _ (if i=r then T.a r j/T.a r c else T.a i j-T.a i c*(T.a r j/T.a r c))
  split
  .refine(hq j hj).mono ?_
   unfold U44;have h2:M*M*1<=M*M*(M*M):=bG _ (Nat.mul_pos hM hM);have e1:M*M*(M*M)=M*(M*(M*M)):=by rw[eE]
   omega
  .exact(h.1 i j hi hj).sub ((h.1 i c hi hc).mul (hq j hj))
 .exact(h.2 j hj).sub ((h.2 c hc).mul (hq j hj))
structure Uni (m C:Nat) (T:Tab):Prop where
 lt:∀ i,i<m->T.B i<C
 unit:∀ i k,i<m->k<m->T.a i (T.B k)=if i=k then 1 else 0
 goal:∀ k,k<m->T.g (T.B k)=0
theorem J44.uni(h:J44 m C R T):Uni m C T:=⟨h.lt,h.unit,h.goal⟩
theorem Uni.inj(h:Uni m C T){i k:Nat}(hi:i<m)(hk:k<m)(e:T.B i=T.B k):i=k:=by
 have h1:=h.unit i k hi hk;have h2:=h.unit i i hi hi;rw[e,h1] at h2
 by_cases g:i=k
 .exact g
 .simp[g] at h2
theorem Uni.pivot{T:Tab}(h:Uni m C T){c r:Nat}(hc:c<C)(hr:r<m)(O:T.a r c≠0):Uni m C (pivot T r c):=by
 have J:T.a r c/T.a r c=1:=by grind
 have hz:∀ k,k<m->k≠r->T.a r (T.B k)/T.a r c=0:=fun k hk E=>by
  rw[h.unit r k hr hk,if_neg O0];grind
 refine⟨fun i hi => ?_,fun i k hi hk => ?_,fun k hk => ?_⟩
 .show(if i=r then c else T.B i)<C
  split
  .exact hc
  .exact h.lt i hi
 .show(if i=r then T.a r (if k=r then c else T.B k)/T.a r c else T.a i (if k=r then c else T.B k)-T.a i c*(T.a r (if k=r then c else T.B k)/T.a r c))=_
  by_cases E:k=r
  .simp only[E,if_true,J]
   split
   .rfl
   .grind
  .simp only[E,if_false,hz k hk E]
   split
   .rename_i e
    rw[if_neg O0]
   .rw[h.unit i k hi hk];grind
 .show T.g (if k=r then c else T.B k)-T.g c*(T.a r (if k=r then c else T.B k)/T.a r c)=0
  by_cases E:k=r
  .simp only[E,if_true,J];grind
  .simp only[E,if_false,hz k hk E,h.goal k hk];grind
structure Eqv (m:Nat) (T T':Tab):Prop where
 to:∀ r,r<m->X23 m T (T'.a r)
 back:∀ r,r<m->X23 m T' (T.a r)
 goal:X23 m T fun j=>T'.g j-T.g j
theorem Eqv.refl(T:Tab):Eqv m T T:=⟨fun r hr=>X23.row hr,fun r hr=>X23.row hr,X23.zero.of fun j=>by grind⟩
theorem Eqv.symm(h:Eqv m T T'):Eqv m T' T:=⟨h.back,h.to,((X23.trans h.back h.goal).smul (-1)).of fun j=>by grind⟩
theorem Eqv.trans{T T' T2:Tab}(h:Eqv m T T')(h':Eqv m T' T2):Eqv m T T2:=
 ⟨fun r hr=>X23.trans h.to (h'.to r hr),fun r hr=>X23.trans h'.back (h.back r hr),(h.goal.add (X23.trans h.to h'.goal)).of fun j=>by grind⟩
theorem Eqv.pivot{T:Tab}{r c:Nat}(hr:r<m)(E:T.a r c≠0):Eqv m T (pivot T r c):=by
 refine⟨fun i hi=>U88 hr hi,fun i hi => ?_,K91 hr⟩;have h0:X23 m (Lp.pivot T r c) ((Lp.pivot T r c).a r):=X23.row hr
 by_cases e:i=r
 .subst e
  refine(h0.smul (T.a i c)).of fun j => ?_
  show T.a i j=T.a i c*(if i=i then T.a i j/T.a i c else _)
  rw[if_pos rfl];grind
 .refine((X23.row (T:=Lp.pivot T r c) hi).add (h0.smul (T.a i c))).of fun j => ?_
  show T.a i j=(if i=r then _ else T.a i j-T.a i c*(T.a r j/T.a r c))+T.a i c*(if r=r then T.a r j/T.a r c else _)
  rw[if_neg e,if_pos rfl];grind
theorem X82(h:Uni m C T){f:Nat->Rat}(hf:X23 m T f):∀ j,f j=Z25 m fun r=>f (T.B r)*T.a r j:=by
 obtain⟨c,hc⟩:=hf;have hk:∀ k,k<m->f (T.B k)=c k:=fun k hk=>by
  rw[hc (T.B k),R71 hk fun r hr hn=>by rw[h.unit r k hr hk,if_neg hn];simp,h.unit k k hk hk,if_pos rfl];grind
 intro j;rw[hc j];exact Q35 fun r hr=>by rw[hk r hr]
theorem R110(a4:C<=N)(Q:Uni m C T'):∀(n:Nat),n<=m->∀ {T:Tab} {M:Nat},1<=M->Uni m C T->Eqv m T T'->TSz m N M T ->
  ∃(T1:Tab) (M1:Nat),M1=Z82 M n/\1<=M1/\Uni m C T1/\Eqv m T1 T'/\TSz m N M1 T1/\∀ r,r<n->∃ i,i<m/\T1.B i=T'.B r:=by
 intro n
 induction n with
 | zero=>exact fun _ T M hM hu he hs=>⟨T,M,rfl,hM,hu,he,hs,fun r hr=>O0⟩
 | succ n ih=>
  intro hn T M hM hu he hs;obtain⟨T1,M1,e1,W,J,O,a0,U⟩:=ih O0 hM hu he hs;have eg:U44 M1=Z82 M (n+1):=by rw[e1];rfl
  have a2:=N106 W
  by_cases Z:∃ i,i<m/\T1.B i=T'.B n
  .refine⟨T1,U44 M1,eg,O0,J,O,a0.mono a2,fun r hr => ?_⟩
   by_cases e:r=n
   .rw[e];exact Z
   .exact U r O0
  ·
   have a3:∃ i,i<m/\(∀ s,s<m->T1.B i≠T'.B s)/\T1.a i (T'.B n)≠0:=by
    refine aI fun a1 => ?_
    have h1:=X82 J (O.to n O0) (T'.B n);rw[Q.unit n n O0 O0,if_pos rfl] at h1;rw[D71 fun i hi => ?_] at h1
    .grind
    .by_cases hw:∃ s,s<m/\T1.B i=T'.B s
     .obtain⟨s,hs,e⟩:=hw
      rw[e,Q.unit n s O0 hs]
      by_cases e2:n=s
      .subst e2;exact absurd ⟨i,hi,e⟩ Z
      .rw[if_neg e2];grind
     .by_cases h2:T1.a i (T'.B n)=0
      .rw[h2];grind
      .exact absurd ⟨i,hi,fun s hs e=>hw ⟨s,hs,e⟩,h2⟩ a1
   obtain⟨i,hi,E,V⟩:=a3;have hc:=Q.lt n O0;refine⟨pivot T1 i (T'.B n),U44 M1,eg,O0,J.pivot hc hi V,(Eqv.pivot hi V).symm.trans O,a0.pivot W hi O0,fun r hr => ?_⟩
   by_cases e:r=n
   .exact⟨i,hi,by rw[e];show(if i=i then _ else _)=_;rw[if_pos rfl]⟩
   .obtain⟨k,hk,e3⟩:=U r O0
    refine⟨k,hk,?_⟩;show(if k=i then _ else T1.B k)=_;rw[if_neg fun e4=>E r O0 (by rw[<- e4];exact e3)];exact e3
theorem U100(V:C<=N)(hM:1<=M)(hT:Uni m C T)(E:Uni m C T')(he:Eqv m T T')(hs:TSz m N M T):TSz m N (Z82 M m) T':=by
 obtain⟨T1,M1,e1,W,J,Q,U,O⟩:=R110 V E m (aD m) hM hT he hs;rw[<- e1];refine⟨fun r j hr hj => ?_,fun j hj => ?_⟩
 .obtain⟨i,hi,e⟩:=O r hr
  have h1:=X82 E (Q.back i hi) j;rw[R71 hr fun s hs hn => ?_,<- e,J.unit i i hi hi,if_pos rfl] at h1
  .have:=U.1 i j hi hj
   rwa [h1,Rat.one_mul] at this
  .obtain⟨k,hk,e2⟩:=O s hs
   rw[<- e2,J.unit i k hi hk,if_neg,Rat.zero_mul];intro e3;subst e3;exact hn (E.inj hs hr (e2.symm.trans e))
 .have h1:=X82 E Q.symm.goal j
  rw[D71 fun s hs => ?_] at h1
  .have:=U.2 j hj
   rwa [show T1.g j=T'.g j by grind] at this
  .obtain⟨k,hk,e2⟩:=O s hs
   rw[E.goal s hs,<- e2,J.goal k hk];grind
theorem N105(e:Nat):U44 (2^e)=2^(4*e+1):=by
 unfold U44;rw[<- Nat.pow_add,<- Nat.pow_add,<- Nat.pow_add,<- Nat.pow_add,show e+(e+(e+e))=4*e by omega,show e+(e+e)+e=4*e by omega,dR];omega
theorem X111{m:Nat}(h:m<=8):Z82 1 m<=2^expN 8:=by
 have E:∀ k,Z82 1 k=2^expN k:=by
  intro k
  induction k with
  | zero=>rfl
  | succ k ih=>
   show U44 (Z82 1 k)=2^(4*expN k+1);rw[ih,N105]
 rw[E];refine aK O0 ?_
 match m,h with
 | 0,_=>decide
 | 1,_=>decide
 | 2,_=>decide
 | 3,_=>decide
 | 4,_=>decide
 | 5,_=>decide
 | 6,_=>decide
 | 7,_=>decide
 | 8,_=>decide
end
end Go.Lp
namespace Go.Clo
section
variable {B:Nat->Nat} {H:Y0} {b i m n nx:Nat} {c l:List Value}
theorem D0.both{lo:Nat}{H1:Y0}{n1:Nat}{H2:Y0}{n2:Nat}(a:D0 H lo H1 n1)(b:D0 H1 lo H2 n2):D0 H lo H2 n2:=⟨b.le,fun i hi=>(b.get i hi).trans (a.get i hi)⟩
theorem RR.num{v:Value}{x:Rat}(h:RR H nx v x):∃ c,v = .agg ⟨c⟩/\V7 c:=by
 obtain⟨A0,l0,c0,C0,m0,d0,rfl,_,_⟩:=h.form;exact⟨_,rfl,_,_,_,_,_,_,_,rfl⟩
theorem X15(h:V7 c)(k:VP):B10 c 0 (some 3) k=k (.agg ⟨c⟩):=by
 have:=J22 (css:=[c]) (q:=0) (c:=c) (fun d hd=>by simp at hd;subst hd;exact h.three) rfl k;simpa using this
theorem V7.one{c:List Value}(h:V7 c):Z0 c=true:=by obtain⟨s,A,l,q,C,l',q',rfl⟩:=h;rfl
theorem W81(h:V7 c):∀(q:Nat) (z:Int),c[q]? ≠ some (cD .u32 z):=by
 obtain⟨s,A,l,k,C,l',k',rfl⟩:=h;exact E46 _ _ _ _ _ _ _
theorem NN.boxs{nx i n sl s':Nat}{v:Value}{row row':List Value}(h:NN H nx v n)(hg:J0 H i=some (.cells row sl))(hr:∀(q:Nat) (z:Int),row[q]? ≠ some (cD .u32 z))(hs':s'=0\/s'=1):NN (hs H i (some (.cells row' s'))) nx v n:=by
 obtain⟨A,c,rfl,hD⟩:=h;refine⟨A,c,rfl,?_,?_,hD.small,hD.le⟩
 .intro j x hx
  obtain⟨b,o,E,e1,e2,e3,e4⟩:=hD.sl j x hx
  by_cases hb:b=i
  .subst hb
   have e5:E=row:=by rw[Q5,hg] at e3;exact(fA e3).symm
   subst e5;have:∃ z,x=O9 z:=by
    simp only[K12,cP,bU] at hx;obtain⟨d,_,rfl⟩:=hx;exact⟨_,rfl⟩
   obtain⟨z,rfl⟩:=this;exact absurd e4 (hr _ z)
  .exact⟨b,o,E,e1,e2,by rw[Q5,Z1 _ hb];exact e3,e4⟩
 .rcases hD.sk with e | ⟨b,o,E,e1,e2,e3⟩
  .exact .inl e
  .by_cases hb:b=i
   .subst hb
    exact .inr ⟨b,o,row',e1,e2,.inr ⟨s',hs',Z11 _ _ _⟩⟩
   .exact .inr ⟨b,o,E,e1,e2,by rw[Z1 _ hb];exact e3⟩
theorem RR.boxs{H:Y0}{nx i sl s':Nat}{v:Value}{x:Rat}{row row':List Value}(h:RR H nx v x)(hg:J0 H i=some (.cells row sl))(hr:∀(q:Nat) (z:Int),row[q]? ≠ some (cD .u32 z))(hs':s'=0\/s'=1):RR (hs H i (some (.cells row' s'))) nx v x:=
 let ⟨a,b,h1,h2,h3⟩:=h;⟨a,b,h1,NN.boxs h2 hg hr hs',NN.boxs h3 hg hr hs'⟩
theorem RO.first{X:Nat->Rat}(h:RO H nx b n X)(hn:0<n):∃ css:List (List Value),J0 H b=O7 css.flatten/\∃ s,css.flatten[0]? = some (.bool s):=by
 obtain⟨css,hg,hb,hl,hx⟩:=h;refine⟨css,hg,?_⟩
 match css,hl with
 | [],hl=>simp at hl;omega
 | c :: css,_=>
  obtain⟨s,A,l,k,C,l',k',rfl⟩:=hx.tri c O2;exact⟨s,O2⟩
theorem RO.ne{q sl:Nat}{X:Nat->Rat}(h:RO H nx b n X)(hn:0<n)(hg:J0 H q=some (.cells l sl))(h0:∀ s,l[0]? ≠ some (.bool s)):b≠q:=by
 rintro rfl;obtain⟨css,E,s,hs⟩:=h.first hn;rw[hg] at E
 cases E
 exact h0 s hs
theorem RO.boxs{H:Y0}{nx b n q sl s':Nat}{X:Nat->Rat}{l l':List Value}(h:RO H nx b n X)(J:b≠q)(hg:J0 H q=some (.cells l sl))(hr:∀(q:Nat) (z:Int),l[q]? ≠ some (cD .u32 z))(hs':s'=0\/s'=1):
  RO (hs H q (some (.cells l' s'))) nx b n X:=by
 obtain⟨css,E,hb,hl,hx⟩:=h;exact⟨css,by rw[Z1 _ J];exact E,hb,hl,fun i c hc=>(hx i c hc).boxs hg hr hs'⟩
theorem RO.more{H:Y0}{nx nx' b n:Nat}{X:Nat->Rat}(h:RO H nx b n X)(e:nx<=nx'):RO H nx' b n X:=h.ext (D0.self e)
def slR(N:Nat)(bs:List Nat):List Value:=bs.map fun b => .slice (some ⟨b,0,none⟩) N N
theorem G75(N:Nat)(bs:List Nat):(slR N bs).length=bs.length:=by simp[slR]
theorem G71{N:Nat}{bs:List Nat}(h:bs[i]? = some b):(slR N bs)[i]? = some (.slice (some ⟨b,0,none⟩) N N):=by simp[slR,h]
theorem M97(N:Nat)(bs:List Nat)(i b:Nat):(slR N bs).set i (.slice (some ⟨b,0,none⟩) N N)=slR N (bs.set i b):=by unfold slR;rw[List.map_set]
theorem D88(N:Nat)(bs:List Nat):∀(q:Nat) (z:Int),(slR N bs)[q]? ≠ some (cD .u32 z):=by
 intro q z h;simp only[slR,cP,bU] at h;obtain⟨_,_,h⟩:=h
 cases h
theorem E85(N:Nat)(bs:List Nat):∀ s,(slR N bs)[0]? ≠ some (.bool s):=by
 intro s h;simp only[slR,cP,bU] at h;obtain⟨_,_,h⟩:=h
 cases h
def Z57(m:Nat)(B:Nat->Nat):List Value:=(aY m).map fun i => .int .i64 (B i:Int)
theorem B78(m:Nat)(B:Nat->Nat):(Z57 m B).length=m:=by simp[Z57]
theorem K73{B:Nat->Nat}{i:Nat}(h:i<m):(Z57 m B)[i]? = some (O8 (B i:Int)):=by simp[Z57,h]
theorem G104{c:Nat}:(Z57 m B).set i (O8 (c:Int))=Z57 m fun k=>if k=i then c else B k:=by
 apply dH;intro k;simp only[Z57,cQ,cP,gM,List.length_range]
 by_cases h:i=k
 .subst h
  by_cases h2:i<m
  .simp[h2]
  .simp[h2]
 .by_cases h2:k<m
  .simp[h,h2,show ¬ k=i by omega]
  .simp[h,h2]
theorem G98(m:Nat)(B:Nat->Nat):∀(q:Nat) (z:Int),(Z57 m B)[q]? ≠ some (cD .u32 z):=by
 intro q z h;simp only[Z57,cP,bU] at h;obtain⟨_,_,h⟩:=h
 cases h
theorem B95(m:Nat)(B:Nat->Nat):∀ s,(Z57 m B)[0]? ≠ some (.bool s):=by
 intro s h;simp only[Z57,cP,bU] at h;obtain⟨_,_,h⟩:=h
 cases h
def Q60(n m br cr gb bb cb:Nat):List Value:=[.int .i64 (n:Int),.int .i64 (m:Int),.slice (some ⟨br,0,none⟩) m cr,.slice (some ⟨gb,0,none⟩) (n+m+2) (n+m+2),.slice (some ⟨bb,0,none⟩) m cb]
theorem U90(n m br cr gb bb cb:Nat):∀(q:Nat) (z:Int),(Q60 n m br cr gb bb cb)[q]? ≠ some (cD .u32 z):=by
 intro q z h;unfold Q60 at h
 match q,h with
 | 0,h=>simp at h
 | 1,h=>simp at h
 | 2,h=>simp at h
 | 3,h=>simp at h
 | 4,h=>simp at h
theorem E87(n m br cr gb bb cb:Nat):∀ s,(Q60 n m br cr gb bb cb)[0]? ≠ some (.bool s):=by
 intro s h;simp[Q60] at h
theorem G78{b b' sl E:Nat}{l':List Value}(h:J0 H b=some (.cells l sl))(h':J0 H b'=some (.cells l' E))(i:Nat)(e:l[i]? ≠ l'[i]?):b≠b':=by
 rintro rfl;rw[h] at h'
 cases h'
 exact e rfl
structure TV (H:Y0) (nx lo p n m br cr gb bb cb sr sb:Nat) (bs:List Nat) (T:Lp.Tab):Prop where
 hp:J0 H p=some (.cells (Q60 n m br cr gb bb cb) 0)
 hr:J0 H br=some (.cells (slR (n+m+2) bs) sr)
 hb:J0 H bb=some (.cells (Z57 m T.B) sb)
 len:bs.length=m
 rows:∀ i b,bs[i]? = some b->RO H nx b (n+m+2) (T.a i)
 goal:RO H nx gb (n+m+2) T.g
 lop:lo<=p
 lor:lo<=br
 lob:lo<=bb
 pn:p<nx
 rn:br<nx
 bn:bb<nx
 sr1:sr=0\/sr=1
 sb1:sb=0\/sb=1
theorem TV.ext{H:Y0}{nx lo p n m br cr gb bb cb sr sb:Nat}{bs:List Nat}{T:Lp.Tab}{H':Y0}{nx':Nat}(h:TV H nx lo p n m br cr gb bb cb sr sb bs T)(e:D0 H nx H' nx'):TV H' nx' lo p n m br cr gb bb cb sr sb bs T:=by
 have:=e.le;have:=h.pn;have:=h.rn;have:=h.bn;exact⟨(e.get p h.pn).trans h.hp,(e.get br h.rn).trans h.hr,(e.get bb h.bn).trans h.hb,h.len,fun i b hb=>(h.rows i b hb).ext e,h.goal.ext e,h.lop,h.lor,h.lob,O0,O0,O0,h.sr1,h.sb1⟩
section
variable {H:Y0} {nx lo p n m br cr gb bb cb sr sb:Nat} {bs:List Nat} {T:Lp.Tab}
theorem TV.pr(h:TV H nx lo p n m br cr gb bb cb sr sb bs T)(hm:0<m):p≠br:=by
 refine G78 h.hp h.hr 0 ?_;obtain⟨b,hb⟩:∃ b,bs[0]? = some b:=⟨bs[0]'(by have:=h.len;omega),aE _⟩
 rw[G71 hb];simp[Q60]
theorem TV.pb(h:TV H nx lo p n m br cr gb bb cb sr sb bs T):p≠bb:=by
 refine G78 h.hp h.hb 2 ?_
 by_cases h2:2<m
 .rw[K73 h2];simp[Q60]
 .rw[aT (l:=Z57 m T.B) (by rw[B78];omega)];simp[Q60]
theorem TV.rb(h:TV H nx lo p n m br cr gb bb cb sr sb bs T)(hm:0<m):br≠bb:=by
 refine G78 h.hr h.hb 0 ?_;obtain⟨b,hb⟩:∃ b,bs[0]? = some b:=⟨bs[0]'(by have:=h.len;omega),aE _⟩
 rw[G71 hb,K73 hm];simp
theorem TV.row(h:TV H nx lo p n m br cr gb bb cb sr sb bs T)(hi:i<m):∃ b,bs[i]? = some b/\RO H nx b (n+m+2) (T.a i):=by
 have:=h.len;exact⟨bs[i],aE _,h.rows i _ (aE _)⟩
theorem TV.congr{T':Lp.Tab}(h:TV H nx lo p n m br cr gb bb cb sr sb bs T)(ha:∀ i q,i<m->q<n+m+2->T'.a i q=T.a i q)(hg:∀ q,q<n+m+2->T'.g q=T.g q)(hB:∀ i,i<m->T'.B i=T.B i):TV H nx lo p n m br cr gb bb cb sr sb bs T':=by
 refine⟨h.hp,h.hr,?_,h.len,fun i b hb => ?_,h.goal.congr hg,h.lop,h.lor,h.lob,h.pn,h.rn,h.bn,h.sr1,h.sb1⟩
 .have e:Z57 m T'.B=Z57 m T.B:=List.map_congr_left fun i hi=>by rw[hB i (cW.1 hi)]
  rw[e];exact h.hb
 .have hi:=(aJ.1 hb).1
  exact(h.rows i b hb).congr fun q hq=>ha i q (by have:=h.len;omega) hq
theorem TV.setRow{X:Nat->Rat}(h:TV H nx lo p n m br cr gb bb cb sr sb bs T)(hi:i<m)(hX:RO H nx b (n+m+2) X):
  TV (hs H br (some (.cells (slR (n+m+2) (bs.set i b)) sr))) nx lo p n m br cr gb bb cb sr sb (bs.set i b) ⟨fun k=>if k=i then X else T.a k,T.g,T.B⟩:=by
 have J:=h.pr O0;have E:=h.rb O0;refine⟨by rw[Z1 _ J];exact h.hp,Z11 _ _ _,by rw[Z1 _ (eT E)];exact h.hb,by rw[dO];exact h.len,fun k d hk => ?_,h.goal.boxs (h.goal.ne O0 h.hr (E85 _ _)) h.hr (D88 _ _) h.sr1,h.lop,h.lor,h.lob,h.pn,h.rn,h.bn,h.sr1,h.sb1⟩
 by_cases e:k=i
 .subst e
  rw[dG (by have:=h.len;omega)] at hk
  cases hk
  show RO _ _ _ _ (if k=k then X else T.a k);rw[if_pos rfl];exact hX.boxs (hX.ne O0 h.hr (E85 _ _)) h.hr (D88 _ _) h.sr1
 .rw[bL O0] at hk
  show RO _ _ _ _ (if k=i then X else T.a k);rw[if_neg e];have:=h.rows k d hk;exact this.boxs (this.ne O0 h.hr (E85 _ _)) h.hr (D88 _ _) h.sr1
theorem TV.setGoal{X:Nat->Rat}(h:TV H nx lo p n m br cr gb bb cb sr sb bs T)(hm:0<m)(hX:RO H nx b (n+m+2) X):
  TV (hs H p (O7 (Q60 n m br cr b bb cb))) nx lo p n m br cr b bb cb sr sb bs ⟨T.a,X,T.B⟩:=by
 have E:=h.pr hm;have J:=h.pb;refine⟨Z11 _ _ _,by rw[Z1 _ (eT E)];exact h.hr,by rw[Z1 _ (eT J)];exact h.hb,h.len,fun k d hk => ?_,hX.boxs (hX.ne O0 h.hp (E87 _ _ _ _ _ _ _)) h.hp (U90 _ _ _ _ _ _ _) (.inl rfl),h.lop,h.lor,h.lob,h.pn,h.rn,h.bn,h.sr1,h.sb1⟩;have:=h.rows k d hk;exact this.boxs (this.ne O0 h.hp (E87 _ _ _ _ _ _ _)) h.hp (U90 _ _ _ _ _ _ _) (.inl rfl)
theorem TV.setBas(h:TV H nx lo p n m br cr gb bb cb sr sb bs T)(hm:0<m):
  TV (hs H bb (some (.cells (Z57 m B) sb))) nx lo p n m br cr gb bb cb sr sb bs ⟨T.a,T.g,B⟩:=by
 have E:=h.rb hm;have J:=h.pb;refine⟨by rw[Z1 _ J];exact h.hp,by rw[Z1 _ E];exact h.hr,Z11 _ _ _,h.len,fun k d hk => ?_,h.goal.boxs (h.goal.ne O0 h.hb (B95 _ _)) h.hb (G98 _ _) h.sb1,h.lop,h.lor,h.lob,h.pn,h.rn,h.bn,h.sr1,h.sb1⟩;have:=h.rows k d hk;exact this.boxs (this.ne O0 h.hb (B95 _ _)) h.hb (G98 _ _) h.sb1
end
end
end Go.Clo
