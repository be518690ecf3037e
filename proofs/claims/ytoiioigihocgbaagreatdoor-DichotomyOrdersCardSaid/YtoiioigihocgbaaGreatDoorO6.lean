/-
  Plain: natural numbers as lists of digits to the base 2^32,least significant first.
  The executor as a claim: closed runs as claims;the way in,from arguments that stand in the world.
  The executor as a claim: slices that may be empty,their rows;arrays in memory.
  .
  The executor as a claim: contracts of the library,proved in the world itself,as claims on the abstract heap.
  Lemmas on claims that chapter 33 uses: append to a literal,the nil test,min,products.
  Marked code out of the program itself: where a sequence is a join and what a loop carries is given;the rest is computed.
  The walk's rules,in one.
  What the generated texts of this seat lean on.
  MADE BY PROGRAM (wip/gen/gen.py): functions 92 128 69 112 113 111 101 100 97 145 146 98 117 130 134 131 132 133 114 129 118 104 102 116 as marked code,and their claims written out.
  Digits on the abstract heap;contracts of nat.trim,Of,Norm.
  Arithmetic of 64 bits without sign;slices made by make;append to an empty slice.
  Contracts: cmp.Compare,nat.Cmp,nat.Uint64,bits.Len32,nat.Bits.
  Contracts: bits.Len32,nat.Bits,nat.Uint64.
  Contracts: nat.Add,nat.Sub,nat.Mul.
-/
import Derived.Test.YtoiioigihocgbaaGreatDoorO5
import Derived.Carry
import Derived.ChangeArms
import Derived.DataReads
import Derived.Below
import Derived.SizedLaws
import Derived.ChangeMaps5
import Derived.Laws.AppendOwn
import Derived.KernelRfl
import Derived.Test.YtoiioigihocgbaaGreatDoorProg
set_option maxHeartbeats 8000000
set_option maxRecDepth 100000
set_option linter.all false
noncomputable section
open Array renaming getElem?_eq_none->fK,getElem?_toList->cL
open Bool renaming and_eq_true->aG,false_eq_true->dQ,or_eq_true->cO
open Go.IntKind renaming bits->dW,signed->eK,u32->eW,wrap->eY
open Go.Value renaming int->cD
open List renaming all_eq_true->bW,cons_append->dL,drop_of_length_le->cM,ext_getElem?->dH,getD_cons_succ->gD,getD_cons_zero->fZ,getElem?_append_left->bQ,getElem?_append_right->bS,getElem?_cons_succ->dK,getElem?_drop->dB,getElem?_eq_getElem->aE,getElem?_eq_none->aT,getElem?_eq_some_iff->aJ,getElem?_set_ne->bL,getElem?_set_self->dG,getElem?_take->aX,getElem_of_mem->gL,length_append->bH,length_cons->cV,length_eq_zero_iff->dT,length_take->cK,mem_append_left->dX,mem_cons->aU,mem_cons_of_mem->eJ,mem_of_getElem?->aH,mem_of_mem_drop->fO,nil_append->eR,range->aY,replicate->aF,take_of_length_le->gJ
open Nat renaming add_assoc->eH,add_mul->dM,add_zero->eM,beq->bR,ble->dD,eq_of_beq_eq_true->bT,eq_zero_or_pos->cI,le_refl->aD,le_trans->bK,log2->bG,lt_of_le_of_lt->cE,lt_of_lt_of_le->aO,lt_or_ge->aW,mod_eq_of_lt->bV,mod_lt->eZ,mul_add->bJ,mul_assoc->eE,mul_comm->cG,mul_le_mul->eL,mul_le_mul_left->bP,mul_le_mul_right->dS,mul_one->eQ,pow_le_pow_right->aK,pow_succ->dR,shiftRight_eq_div_pow->eO,two_pow_pos->aQ,zero_add->cF,zero_testBit->cN
open Option renaming elim_some->aN
open Option.some renaming inj->fA,injEq->aZ
namespace Go.Clo
section
variable {d n:Nat} {ds:List Nat}
def val:List Nat->Nat
 | []=>0
 | d :: ds=>d+4294967296*val ds
def D11(n:Nat):List Nat:=if h:n=0 then [] else n%4294967296 :: D11 (n/4294967296)
termination_by n
decreasing_by exact Nat.div_lt_self (by omega) (by omega)
theorem D20:D11 0=[]:=by rw[D11];simp
theorem M74(h:0<n):D11 n=n%4294967296 :: D11 (n/4294967296):=by
 rw[D11,dif_neg (by omega)]
theorem V20(n:Nat):val (D11 n)=n:=by
 induction n using Nat.strongRecOn with
 | ind n ih=>
  by_cases h:n=0
  .subst h;rw[D20];rfl
  .rw[M74 (by omega),val,ih _ (Nat.div_lt_self (by omega) (by omega))]
   omega
theorem B25(n:Nat):U14 (D11 n):=by
 induction n using Nat.strongRecOn with
 | ind n ih=>
  by_cases h:n=0
  .subst h;rw[D20];intro e he;cases he
  .rw[M74 (by omega)]
   intro e he;rcases aU.1 he with rfl | he
   .omega
   .exact ih _ (Nat.div_lt_self (by omega) (by omega)) e he
theorem B77{d:Nat}:U14 (d :: ds)<->d<4294967296/\U14 ds:=by
 unfold U14;simp
theorem X84:U14 []:=fun e he=>by cases he
theorem G77(a b:List Nat):val (a++b)=val a+4294967296^a.length*val b:=by
 induction a with
 | nil=>simp[val]
 | cons d a ih=>simp only[dL,val,ih,cV,dR];rw[bJ,<- eH,<- eE,cG 4294967296 (4294967296^a.length)]
theorem J95(h:U14 ds):val ds<4294967296^ds.length:=by
 induction ds with
 | nil=>simp[val]
 | cons d ds ih=>
  have h1:=B77.1 h;have h2:=ih h1.2;simp only[val,cV,dR];have h3:(val ds+1)*4294967296<=4294967296^ds.length*4294967296:=dS _ h2;omega
theorem J101(k:Nat):val (aF k 0)=0:=by
 induction k with
 | zero=>rfl
 | succ k ih=>rw[List.replicate_succ,val,ih]
theorem R72(k:Nat):U14 (aF k 0):=fun e he=>by
 rw[List.mem_replicate] at he;omega
theorem Y83(h:U14 ds):∃ k,ds=D11 (val ds)++aF k 0:=by
 induction ds with
 | nil=>exact⟨0,by simp[val,D20]⟩
 | cons d ds ih=>
  have h1:=B77.1 h;obtain⟨k,hk⟩:=ih h1.2
  by_cases h0:val (d :: ds)=0
  .have hd:d=0:=by simp only[val] at h0;omega
   have hv:val ds=0:=by simp only[val] at h0;omega
   refine⟨k+1,?_⟩;rw[h0,D20,eR,List.replicate_succ,hd];rw[hv,D20,eR] at hk;rw[<- hk]
  .refine⟨k,?_⟩
   rw[M74 (by omega)];have e1:val (d :: ds)%4294967296=d:=by simp only[val];omega
   have e2:val (d :: ds)/4294967296=val ds:=by simp only[val];omega
   rw[e1,e2,dL,<- hk]
theorem Z86(h:U14 ds):ds.take (D11 (val ds)).length=D11 (val ds):=by
 obtain⟨k,hk⟩:=Y83 h;generalize hv:D11 (val ds)=q at *
 rw[hk];simp
theorem N92(h:U14 ds):(D11 (val ds)).length<=ds.length:=by
 obtain⟨k,hk⟩:=Y83 h;have:=congrArg List.length hk;simp at this;omega
theorem V96(h:U14 ds){i:Nat}(hi:(D11 (val ds)).length<=i)(hd:ds[i]? = some d):d=0:=by
 obtain⟨k,hk⟩:=Y83 h;rw[hk,bS hi,List.getElem?_replicate] at hd
 split at hd
 .cases hd;rfl
 .cases hd
theorem U76(h:0<n):∃ d,(D11 n)[(D11 n).length-1]? = some d/\0<d/\0<(D11 n).length:=by
 induction n using Nat.strongRecOn with
 | ind n ih=>
  rw[M74 h]
  by_cases h1:n/4294967296=0
  .rw[h1,D20]
   exact⟨n%4294967296,by simp,by omega,by simp⟩
  .obtain⟨d,hd,hp,hl⟩:=ih (n/4294967296) (Nat.div_lt_self (by omega) (by omega)) (by omega)
   refine⟨d,?_,hp,by simp⟩;rw[cV,show(D11 (n/4294967296)).length+1-1=((D11 (n/4294967296)).length-1)+1 by omega,dK];exact hd
theorem M65:(D11 n).length=0<->n=0:=by
 constructor
 .intro h
  have h1:=V20 n;rw[List.eq_nil_of_length_eq_zero h] at h1;exact h1.symm
 .rintro rfl;rw[D20];rfl
theorem Q68(n:Nat):n<4294967296^(D11 n).length:=by
 have:=J95 (B25 n);rwa [V20] at this
theorem E84(h:0<n):4294967296^((D11 n).length-1)<=n:=by
 obtain⟨d,hd,hp,hl⟩:=U76 h;have e:D11 n=(D11 n).take ((D11 n).length-1)++[d]:=by
  apply dH;intro i
  by_cases hi:i<(D11 n).length-1
  .rw[bQ (by simp;omega),aX,if_pos hi]
  .rw[bS (by simp;omega)]
   by_cases h2:i=(D11 n).length-1
   .rw[h2,hd];simp
   .rw[aT (by omega),aT (by simp;omega)]
 have hv:=V20 n;rw[e,G77] at hv;have E:((D11 n).take ((D11 n).length-1)).length=(D11 n).length-1:=by simp
 rw[E,val,val] at hv;have h3:4294967296^((D11 n).length-1)*1<=4294967296^((D11 n).length-1)*(d+4294967296*0):=bP _ (by omega);omega
theorem E29{k:Nat}(h:n<4294967296^k):(D11 n).length<=k:=by
 by_cases h0:n=0
 .subst h0;rw[D20];simp
 .have h1:=E84 (show 0<n by omega)
  rcases aW k (D11 n).length with g | g
  .have h2:4294967296^k<=4294967296^((D11 n).length-1):=aK (by omega) (by omega)
   omega
  .exact g
end
section
variable {F:FM} {H:Y0} {P:Program} {args:List Value} {c':Array Value} {e:TypeId} {f:FuncId} {m:Nat × Nat} {nx sz:Nat} {v:Value} {w:World}
theorem B55{n:Nat}{E:Orc}(hm:P.follows .mixedOrders=true)(J:J18 P)(ho:B42 P E)(hr:U46 P E n f args=some v)(ha:args.all M4=true)(hv:X7 v=true)(H:Y0)(nx:Nat):
  Q2 P f args H nx fun v' H' nx'=>v=v'/\H=H'/\nx=nx':=by
 have hE:Enters P f:=by
  unfold U46 at hr;rcases W22 (β:=Option Value) hm J ho n f args .leaf 0 none (fun v _ _=>some v) with h | ⟨v',H',nx',h,hcs⟩
  .rw[h] at hr;cases hr
  .exact hcs.1
 refine⟨v,H,nx,⟨hE,fun F O w hh hl => ?_⟩,rfl,rfl,rfl⟩;have e:=J19 hl ha;subst e;refine(B56 hm J ho hr ha hv w hh.gl.1).mono fun e w' ⟨he,hb⟩=>⟨v,F,he,C6 F v hv,?_⟩
 exact { le:=aD _,ext:=fun _ _=>rfl,os:=hb.os,tape:=hb.tape,output:=hb.output,size:=hb.size,frame:=fun b h _=>hb.block b h,own:=fun _ h => .inl h,keep:=fun _ _ h=>h,rom:=fun i b h _=>⟨hh.low h,h⟩,hr:=⟨fun i b hi hg=>let ⟨t,h1,h2⟩:=hh.blk i b hi hg;⟨t,h1,h2.mono (fun _ _ h=>h) (hb.block _ h2.lt)⟩,hh.inj,hh.fresh,hh.top,hh.gl.step (fun b h _=>hb.block b h) (fun _ h => .inl h)⟩ }
structure In (w:World) (F:FM) (H:Y0) (nx:Nat):Prop where
 hr:HR F H nx w
 rom:∀ i b,J0 H i=some b->b.isRom=true
theorem In.start(w:World)(E:GlW w):In w (fun _=>none) .leaf 0:=
 ⟨⟨fun i b hi=>by omega,fun i j bi bj ti tj hi=>by omega,fun _ _=>rfl,fun _ _=>rfl,⟨E,fun x hx ⟨i,_,_,hi,_⟩=>by omega⟩⟩,fun i b h=>by rw[C40] at h;cases h⟩
theorem Y46{E:List Value}{Q:Value->Y0->Nat->Prop}(h:Q2 P f args H nx Q)(hQ:∀ v H' nx',Q v H' nx'->v = .bool true)(hi:In w F H nx)(hl:VL F args E):
  Calls P f E.toArray w fun e w'=>e = .returned (.bool true)/\RowKit.Below w.heap.size w w':=by
 obtain⟨v,H',nx',U,hq⟩:=h;have:=hQ _ _ _ hq;subst this;refine(U.2 F E w hi.hr hl).mono fun e w' ⟨v',F',he,O,J⟩ => ?_
 cases O
 refine⟨he,J.os,J.tape,J.output,J.size,fun b hb=>J.frame b hb ?_⟩;rintro⟨i,k,t,_,hg,hk,_⟩;rw[hi.rom i k hg] at hk;cases hk
def N26(F:FM)(i:Nat)(t:J7):FM:=fun j=>if j=i then some t else F j
theorem M36(h:In w F H nx)(t:J7):F.le (N26 F nx t):=by
 intro i u hu;have:i≠nx:=by
  intro e;subst e;rw[h.hr.fresh i (aD _)] at hu;cases hu
 simp[N26,this,hu]
theorem In.name(h:In w F H nx)(t:J7):In w (N26 F nx t) H (nx+1):=by
 have E:=M36 h t;refine⟨⟨fun i b hi hg => ?_,fun i j bi bj ti tj hi hj O J _ _ _ => .inr ⟨h.rom _ _ O,h.rom _ _ J⟩,fun i hi => ?_,fun i hi=>h.hr.top i (by omega),⟨h.hr.gl.1,fun x hx ⟨i,k,u,_,hg,hk,_⟩=>by rw[h.rom i k hg] at hk;cases hk⟩⟩,h.rom⟩
 .obtain⟨u,h1,h2⟩:=h.hr.blk i b (h.hr.low hg) hg
  exact⟨u,E _ _ h1,h2.mono E rfl⟩
 .have:i≠nx:=by omega
  simp[N26,this];exact h.hr.fresh i (by omega)
theorem In.row(h:In w F H nx){a:Nat}{off:Nat}{c:List Value}(hb:w.heap[a]? = some (.cells c' e m))(V:off+c.length<=c'.size)
  (hv:VL F c ((c'.toList.drop off).take c.length)):In w (N26 F nx ⟨a,off,c.length,0,c'.size⟩) (hs H nx (some (.rom c))) (nx+1):=by
 have h1:=h.name ⟨a,off,c.length,0,c'.size⟩;have J:=M36 h ⟨a,off,c.length,0,c'.size⟩;have E:∀ i b,J0 (hs H nx (some (.rom c))) i=some b->b.isRom=true:=by
  intro i b hg;rw[N7] at hg
  split at hg
  .cases hg;rfl
  .exact h.rom i b hg
 refine⟨⟨fun i b hi hg => ?_,fun i j bi bj ti tj hi hj U O _ _ _ => .inr ⟨E _ _ U,E _ _ O⟩,h1.hr.fresh,fun i hi => ?_,⟨h.hr.gl.1,fun x hx ⟨i,k,u,_,hg,hk,_⟩=>by rw[E i k hg] at hk;cases hk⟩⟩,E⟩
 .rw[N7] at hg
  split at hg
  .rename_i Q
   subst Q
   cases hg
   refine⟨_,by simp[N26];rfl,?_⟩;exact⟨c',e,m,hb,rfl,rfl,rfl,V,VL.mono J hv⟩
  .exact h1.hr.blk i b hi hg
 .rw[N7,if_neg (by omega)];exact h.hr.top i (by omega)
theorem M28{α:Type}{p:Nat->α->Prop}:∀ {n:Nat},(∀ i,i<n->∃ a,p i a)->∃ xs:List α,xs.length=n/\∀ i a,xs[i]? = some a->p i a
 | 0,_=>⟨[],rfl,fun i a h=>by simp at h⟩
 | n+1,h=>by
  obtain⟨xs,h1,h2⟩:=M28 (n:=n) (p:=p) fun i hi=>h i (by omega)
  obtain⟨a,ha⟩:=h n (by omega);refine⟨xs++[a],by simp[h1],fun i b hb => ?_⟩
  by_cases hi:i<n
  .rw[bQ (by omega)] at hb;exact h2 i b hb
  .have:i=n:=by
    have:=(aJ.mp hb).1;simp at this;omega
   subst this;rw[bS (by omega),h1,Nat.sub_self] at hb;simp at hb;subst hb;exact ha
theorem J40{α:Type}{f:α->List Value}{sz:Nat}(hf:∀ a,(f a).length=sz):∀(xs:List α) (l:List Value),(∀ i a,xs[i]? = some a->(l.drop (i*sz)).take sz=f a)->l.take (xs.length*sz)=xs.flatMap f
 | [],l,_=>by simp
 | a :: xs,l,h=>by
  have h0:l.take sz=f a:=by simpa using h 0 a rfl
  have ih:=J40 hf xs (l.drop sz) fun i b hb=>by
   have:=h (i+1) b (by simpa using hb);rw[List.drop_drop];rw[dM,Nat.one_mul,Nat.add_comm] at this;exact this
  rw[cV,dM,Nat.one_mul,Nat.add_comm,List.take_add,h0,ih];rfl
theorem Z49{α:Type}{f:α->List Value}(hf:∀ a,(f a).length=sz)(xs:List α):(xs.flatMap f).length=xs.length*sz:=by
 induction xs with
 | nil=>simp
 | cons a xs ih=>simp[hf,ih,dM];omega
section
variable {X:Type} {enc:TypeId × Value->X} {P:Program} {w:World} {base:Nat} {spare:Nat->Bool} {held:Bool}
theorem N61{a:Addr}(hb:w.heap[a.block]? = some (.cells c' e m))(hs:a.spot=none){k:Nat}{cs:List Value}(h:w.cells? base (a.add k) sz=some cs):
  (c'.toList.drop (a.off+k)).take sz=cs:=by
 obtain⟨_,hl,hc⟩:=World.cells?_some h;apply dH;intro i;rw[aX]
 split
 .rename_i hi
  rw[<- hc i hi,dB];have E:∀(b:Addr) (n:Nat),b.spot=none->b.add n=⟨b.block,b.off+n,none⟩:=by
   intro b n hn;unfold Addr.add
   split
   .rename_i h0
    subst h0
    cases b;simp at hn;subst hn;rfl
   .rfl
  rw[E a k hs,E _ i rfl];simp[World.cell?,hb,eH]
 .rw[aT (by omega)]
theorem N24(hl:laidOutB P=true){W W':World}(hb:RowKit.Below W.heap.size W W'):∀(ts:List TypeId) (vs:List Value) (ds:List (DataW X)) (ps:List MemPlace),(∀ t ∈ ts,P.readableRec t=true/\t<P.types.size) ->
  DataW.TrodAll enc P W 0 (fun _=>true) true ts vs ds ps->(∀ x ∈ ps,x.block<W.heap.size)->DataW.TrodAll enc P W' 0 (fun b=>decide (b<W.heap.size)) true ts vs ds ps
 | [],[],[],ps,_,h,_=>h
 | t :: ts,v :: vs,d :: ds,ps,ht,⟨p,q,h1,h2,e⟩,hlt=>by
  subst e;refine⟨p,q,?_,N24 hl hb ts vs ds q (fun u hu=>ht u (eJ _ hu)) h2 fun x hx=>hlt x (List.mem_append_right _ hx),rfl⟩;obtain⟨h3,h4⟩:=ht t List.mem_cons_self;exact RowKit.Below.trod hl h3 h4 h1 hb fun x hx=>hlt x (dX _ hx)
theorem J41 {f:Func} {s:ChangeSpec} {apart fresh handsOn:Bool} {W W':World} {args:Array Value} {ds gs:List (DataW X)} {before pa pv:List MemPlace}
  (hW:DataW.Whole enc P f.params.toList s.vars apart W args.toList ds gs before) (hb:RowKit.Below W.heap.size W W')
  (hres:∀ (b:Nat) (sp:Nat->Bool) (hd:Bool),DataW.TrodAll enc P W' b sp hd f.resultTypes.toList (v.resultList f.resultTypes.size) (s.fn X (ds++gs)).results [])
  (hargs:DataW.TrodAll enc P W' 0 (fun b=>decide (b<W.heap.size)) true f.params.toList args.toList (s.fn X (ds++gs)).args pa)
  (hvars:DataW.TrodVars enc P W' (fun b=>decide (b<W.heap.size)) s.vars (s.fn X (ds++gs)).vars pv):s.post enc P f apart fresh handsOn false W args v W':=
 ⟨ds,gs,before,[],pa,pv,hW,hres _ _ _,hargs,hvars,hb.frame _,fun h=>by cases h⟩
end
end
section
variable {A:Option Addr} {H:Y0} {cap i m n nx size:Nat} {e:TypeId} {l:List Value} {x:Value}
theorem E56{p:Program}{Q14:TypeId->Bool}{d:Nat}{E off:Nat}(h:rowAt p Q14 d e E off n=true):off<=E*p.cellsOf e:=by
 cases d with
 | zero=>simp[rowAt] at h
 | succ d=>
  unfold rowAt at h;simp only at h
  split at h
  .cases h
  .rename_i hs
   have h1:=Nat.div_add_mod off (p.cellsOf e);have h3:off%p.cellsOf e<p.cellsOf e:=eZ _ (by omega);rw[cO] at h;rcases h with h | h
   .simp only[aG,beq_iff_eq,decide_eq_true_eq] at h
    obtain⟨⟨hr,hi⟩,_⟩:=h;rw[hr,eM,cG] at h1;rw[<- h1];exact dS _ (by omega)
   .simp only[aG,decide_eq_true_eq] at h
    have h2:(off/p.cellsOf e+1)*p.cellsOf e<=E*p.cellsOf e:=dS _ (by omega);rw[dM,Nat.one_mul,cG] at h2;omega
theorem C32{p:Program}{e:TypeId}{E off:Nat}:∀ {d:Nat} {u:TypeId} {n:Nat},liesAt p d e E off u n=true->off<=E*p.cellsOf e
 | 0,_,_,h=>by simp[liesAt] at h
 | d+1,u,n,h=>by
  unfold liesAt at h;rw[cO] at h;rcases h with h | h
  .exact E56 h
  .split at h
   .exact C32 h
   .cases h
def Has(H:Y0)(nx:Nat)(A:Option Addr):Prop:=A=none\/∃ b o row,A=some ⟨b,o,none⟩/\b<nx/\Q5 H b=some row
theorem Has.ext{H':Y0}{nx':Nat}(h:Has H nx A)(e:D0 H nx H' nx'):Has H' nx' A:=by
 rcases h with h | ⟨b,o,row,h1,h2,h3⟩
 .exact .inl h
 .exact .inr ⟨b,o,row,h1,aO h2 e.le,by rw[e.row h2];exact h3⟩
section
variable {X:Type} {enc:TypeId × Value->X} {P:Program} {w:World} {base:Nat} {spare:Nat->Bool} {held:Bool}
theorem In.sliceH{α:Type}{f:α->List Value}{Pr:α->Prop}{sz:Nat}{F:FM}(hi:In w F H nx){t:TypeId}{len b0 a6:Nat}{r:Reach}{x:DataW X × List MemPlace}
  (ht:P.underlying t=some (.slice e))(aa:P.cellsOf e=sz)(hf:∀ a,(f a).length=sz)(O:Cell.ok P w r b0 t (.slice A len cap))(a9:DataW.trod enc P w base spare held a6 t [.slice A len cap]=some x)
  (a3:∀ n cs y,DataW.trod enc P w base spare held n e cs=some y->∃ a,f a=cs/\Pr a)(W:∀ a,(f a).all M4=true):
  ∃(F':FM) (H':Y0) (nx':Nat) (A':Option Addr) (xs:List α),In w F' H' nx'/\F.le F'/\VR F' (.slice A' len cap) (.slice A len cap)/\xs.length=len/\(∀ a ∈ xs,Pr a)/\Sl H' nx' A' (xs.flatMap f)/\D0 H nx H' nx'/\len<=maxLen/\Has H' nx' A':=by
 rcases DataW.trod_slice ht a9 with ⟨h0,_⟩ | ⟨a,ag,cap',ab,rest,n,_,h0,_,_,hl,hm,ah,a8,_,_⟩
 .simp at h0
  obtain⟨rfl,rfl,rfl⟩:=h0;exact⟨F,H,nx,none,[],hi,fun _ _ h=>h,.sliceN _ _,rfl,by simp,fun i v h=>by simp at h,D0.refl _ _,Nat.zero_le _,.inl rfl⟩
 .simp at h0
  obtain⟨rfl,rfl,rfl⟩:=h0;have E:a.spot=none:=by
   simp only[Cell.ok,ht] at O;exact O.2.2.2.1
  obtain⟨c',a4,m,hb,ae⟩:∃ c' a4 m,w.heap[a.block]? = some (.cells c' a4 m)/\a.off<=c'.size:=by
   simp only[Cell.ok,ht] at O;obtain⟨_,_,_,_,row,cells,Q,a1⟩:=O;unfold World.shape? at Q
   split at Q
   .rename_i cc ee mm Z
    cases Q
    refine⟨_,_,_,Z,?_⟩;have h1:=C32 a1;exact bK h1 (Nat.div_mul_le_self _ _)
   .cases Q
  obtain⟨xs,V,a5⟩:∃ xs:List α,xs.length=len/\∀ i y,xs[i]? = some y->(c'.toList.drop (a.off+i*sz)).take sz=f y/\Pr y:=by
   refine M28 fun i a2 => ?_
   have h1:=a8 i a2;rw[aE (by omega)] at h1;obtain⟨cs,h2,h3⟩:=Option.bind_eq_some_iff.mp h1;obtain⟨y,rfl,hy⟩:=a3 _ _ _ h3;rw[aa] at h2;exact⟨y,N61 hb E h2,hy⟩
  have ac:∀ y ∈ xs,Pr y:=fun y hy=>by
   obtain⟨i,a2,rfl⟩:=gL hy;exact(a5 i _ (aE a2)).2
  have J:(c'.toList.drop a.off).take (len*sz)=xs.flatMap f:=by
   rw[<- V];exact J40 hf xs _ fun i y hy=>by rw[List.drop_drop];exact(a5 i y hy).1
  have a0:=Z49 hf xs;have ad:a.off+(xs.flatMap f).length<=c'.size:=by
   have h1:=congrArg List.length J;simp only[cK,List.length_drop,Array.length_toList] at h1;omega
  have a7:VL F (xs.flatMap f) ((c'.toList.drop a.off).take (xs.flatMap f).length):=by
   rw[a0,V,J];refine J10 F _ ?_;rw[bW];intro v hv;obtain⟨y,_,hy⟩:=List.mem_flatMap.mp hv;exact bW.mp (W y) v hy
  have U:Q5 (hs H nx (some (.rom (xs.flatMap f)))) nx=some (xs.flatMap f):=by rw[Q5,Z11];rfl
  refine⟨_,_,_,some ⟨nx,0,none⟩,xs,hi.row hb ad a7,M36 hi _,?_,V,ac,fun i v h=>⟨nx,0,xs.flatMap f,rfl,by omega,U,by rw[cF];exact h⟩,(D0.refl H nx).new _ (aD _) (by omega),by omega,.inr ⟨nx,0,_,rfl,by omega,U⟩⟩;have:=VR.slice (F:=N26 F nx ⟨a.block,a.off,(xs.flatMap f).length,0,c'.size⟩) (b:=nx) (o:=0) (n:=len) (c:=cap) (c':=cap) (t:=⟨a.block,a.off,(xs.flatMap f).length,0,c'.size⟩) (by simp[N26]) (.inl rfl);have ha:a=⟨a.block,a.off+0,none⟩:=by cases a;simp at E;subst E;rfl
  rw[ha];exact this
end
theorem Y62(h:Has H nx A):Src H size (.slice A 0 cap) 0 []:=by
 refine⟨rfl,fun k => ?_,by simp⟩;rcases h with rfl | ⟨b,o,row,rfl,_,hrow⟩
 .rfl
 .unfold Q5 at hrow
  cases hg:J0 H b with
  | none=>rw[hg] at hrow;cases hrow
  | some blk=>
   rw[hg] at hrow;show B19 H ⟨b,o,none⟩ (0*size) False k=k [];unfold B19;simp only;rw[Y4,hg,Nat.zero_mul]
   cases blk with
   | cells c sl=>rfl
   | map es c=>simp[V3.row] at hrow
   | rom c=>rfl
theorem C27(h:Sl H nx A l)(h0:Has H nx A)(hl:l.length=m*size)(E:0<size):Src H size (.slice A m cap) m l:=by
 cases m with
 | zero=>
  have:l=[]:=by simpa using hl
  subst this;exact Y62 h0
 | succ m=>exact B68 h hl (Nat.mul_pos (by omega) E)
theorem J79{b m sl:Nat}{row:List Value}(hg:J0 H b=some (.cells row sl))(hx:Src H size x m l)(hm:m<=n)(ho:Z0 l=true)(hl:l.length<=row.length)(k:EP):
  M82 (.slice (some ⟨b,0,none⟩) n cap) x size H nx k=k (.int .i64 (m:Int)) (hs H b (some (.cells (B12 row 0 l) sl))) nx:=by
 unfold M82;rw[hx.len];dsimp only;have e:Nat.min m n=m:=Nat.min_eq_left hm;rw[G1,e,hx.first,ho];simp only[cond_true];rw[J30,hg];simp only[stP,cF,hl,true_and]
 rfl
theorem N31{c:List Value}{o:Nat}(h:o<c.length):B12 c o [x]=c.set o x:=by
 unfold B12;rw[List.set_eq_take_append_cons_drop,if_pos h];simp
theorem X62{l:List Nat}{x:Nat}:(K12 l).set i (.int .u32 (x:Int))=K12 (l.set i x):=by simp[K12,List.map_set]
theorem J105{l:List Int}{x:Int}:(U4 l).set i (.int .i64 x)=U4 (l.set i x):=by simp[U4,List.map_set]
theorem V10{l:List Nat}{x:Nat}(h:i<l.length):B12 (K12 l) i [.int .u32 (x:Int)]=K12 (l.set i x):=by rw[N31 (by rw[E1];exact h),X62]
theorem J92{l:List Int}{x:Int}(h:i<l.length):B12 (U4 l) i [.int .i64 x]=U4 (l.set i x):=by rw[N31 (by rw[X9];exact h),J105]
end
section
variable {F:FM} {H:Y0} {b nx o:Nat} {t:J7} {w:World} {xs:List Value}
theorem U23(hh:HR F H nx w)(hF:F b=some t)(hS:Sl H nx (some ⟨b,o,none⟩) xs){i:Nat}{v:Value}(hi:xs[i]? = some v):
  ∃ v',w.cell? ⟨t.blk,t.base+o+i,none⟩=some v'/\VR F v v':=by
 obtain⟨b',o',row,e,hb,E,hv⟩:=hS i v hi
 cases e
 unfold Q5 at E
 cases hg:J0 H b with
 | none=>rw[hg] at E;cases E
 | some blk=>
  rw[hg] at E;have Q:=hh.hb.get hF hg;have O:∀(c:List Value) (c':Array Value),row=c->VL F c ((c'.toList.drop t.base).take c.length)->∃ v',c'[t.base+o+i]? = some v'/\VR F v v':=by
   intro c c' e J;subst e;obtain⟨v',h1,h2⟩:=J.some hv;refine⟨v',?_,h2⟩;rw[aX] at h1
   split at h1
   .rw[dB,cL] at h1
    rw[<- h1];congr 1;omega
   .cases h1
  cases blk with
  | map es q=>cases E
  | cells c sl=>
   obtain⟨c',e,hw,_,_,_,_,J⟩:=Q;simp only[Option.bind_some,V3.row,aZ] at E;obtain⟨v',h1,h2⟩:=O c c' E.symm J;exact⟨v',by simp[World.cell?,hw,h1],h2⟩
  | rom c=>
   obtain⟨c',e,m,hw,_,_,_,_,J⟩:=Q;simp only[Option.bind_some,V3.row,aZ] at E;obtain⟨v',h1,h2⟩:=O c c' E.symm J;exact⟨v',by simp[World.cell?,hw,h1],h2⟩
theorem W40(hh:HR F H nx w)(hF:F b=some t)(hS:Sl H nx (some ⟨b,o,none⟩) xs)(h0:0<xs.length):t.blk<w.heap.size:=by
 obtain⟨v',h1,_⟩:=U23 hh hF hS (aE h0);unfold World.cell? at h1;rcases aW t.blk w.heap.size with g | g
 .exact g
 .rw[fK g] at h1;cases h1
theorem N2.row{w':World}(hh:HR F H nx w)(hb:RowKit.Below w.heap.size w w'){g cap:Nat}{E:Array Value}{e:TypeId}(hg:w.heap.size<=g)(hc:w'.heap[g]? = some (.cells E e (0,0)))
  (h1:xs.length<=cap)(h2:E.size=cap)(h3:E.toList.take xs.length=xs)(J:cap<=9223372036854775807)(O:xs.all M4=true):
  ∃ F',VR F' (.slice (some ⟨nx,0,none⟩) xs.length xs.length) (.slice (some ⟨g,0,none⟩) xs.length cap)/\N2 F H nx w F' (hs H nx (some (.cells xs 1))) (nx+1) w':=by
 refine⟨upd F nx ⟨g,0,xs.length,1,cap⟩,?_,N2.name hh rfl hb.os hb.tape hb.output hb.size (fun k hk=>hb.block k hk) ?_ hg⟩
 .have:=VR.slice (F:=upd F nx ⟨g,0,xs.length,1,cap⟩) (b:=nx) (o:=0) (n:=xs.length) (c:=xs.length) (c':=cap) (t:=⟨g,0,xs.length,1,cap⟩) (Y6 _ _ _) (.inr ⟨Nat.one_pos,h1,by simp,by simp,J⟩)
  exact this
 .refine⟨E,e,hc,h2,rfl,rfl,by simpa using h1,?_⟩
  simp only[List.drop_zero];rw[h3];exact J10 _ _ O
end
section
variable {H:Y0} {b bytes m n nx size:Nat} {c l:List Value} {k:EP} {x:Value}
theorem U21(z:List Value)(k:List Value->Prop):K6 0 1 z [] k=k []:=by
 rw[Q66];show(if Z0 []=true then k [] else False)=_;exact if_pos (show Z0 []=true from rfl)
theorem B52{cap sl:Nat}{c:List Value}(E:0<size)(hg:J0 H b=some (.cells c sl))(hl:c.length=n*size)(k:List Value->Prop):Z5 H size n (.slice (some ⟨b,0,none⟩) n cap) False k=k c:=by
 rcases cI n with h0 | h0
 .subst h0
  simp at hl;subst hl;unfold Z5 B19;dsimp only;rw[Y4,hg];simp only[aN,Nat.zero_mul,G5];exact V14 _ _
 .exact(J9 hg hl (Nat.mul_pos h0 E)).first k
theorem K44(Q:0<size)(hg:J0 H b=some (.cells c 0))(hl:c.length=n*size)(hx:Src H size x m l)(hm:0<m)(ho:Z0 l=true)
  (J:(2*(n+m)+1000)*bytes<=281474976710656)(U:n+m<=1000000000):B5 (.slice (some ⟨b,0,none⟩) n n) x size bytes H nx k=k (.slice (some ⟨nx,0,none⟩) (n+m) (n+m)) (hs H nx (some (.cells (c++l) size))) (nx+1):=by
 have E:(c++l).length=(n+m)*size:=by rw[bH,hl,hx.size,dM]
 unfold B5 Z22;rw[hx.len];dsimp only;rw[G1,V6 J,V6 U];simp only[Bool.and_self,cond_true];rw[hx.first,ho,E27 (show n<n+m by omega)];simp only[cond_true,cond_false];rw[B52 Q hg hl,V14,E,D13];simp only[cond_true,D22];rw[Y4,hg];simp only[aN];have O:N8 (.cells c 0) 0 n size=some false:=rfl;rw[O];dsimp only;simp only[K11];rw[G1,G1,G4]
theorem Y58(hg:J0 H b=some (.cells c 0))(hl:c.length=n*size)(hx:Src H size x 0 [])
  (J:(2*n+1000)*bytes<=281474976710656)(E:n<=1000000000):B5 (.slice (some ⟨b,0,none⟩) n n) x size bytes H nx k=k (.slice (some ⟨b,0,none⟩) n n) (hs H b (some (.cells c 0))) nx:=by
 unfold B5 Z22;rw[hx.len];dsimp only;rw[G1,V6 (show(2*(n+0)+1000)*bytes<=281474976710656 from J),V6 (show n+0<=1000000000 from E)];simp only[Bool.and_self,cond_true];rw[hx.first];simp only[Z0,cond_true,eM,V6 (aD n),C42,G1];rw[J30,hg];simp only[U20,List.length_nil,eM,cF,B12,List.append_nil,List.take_append_drop,hl,aD,true_and]
theorem G21(t:TypeId)(A:Option Addr)(n c:Nat)(k:VP):D9 (.eqn false (.slice t)) [.slice A n c,.slice none 0 0] k=k (.bool A.isNone):=by
 have e:VF.ev (.eqn false (.slice t)) [.slice A n c,.slice none 0 0]=some (.bool A.isNone):=by cases A<;>rfl
 unfold D9;rw[e,J8];rfl
theorem K13:∀ l:List Int,Z0 (U4 l)=true
 | []=>rfl
 | x :: l=>K13 l
def E23(lo:Nat)(H:Y0)(nx:Nat)(v:Value)(c:List Value):Prop:=
 Acc lo H nx 1 v c.length c\/(c=[]/\∃ b,lo<=b/\b<nx/\v = .slice (some ⟨b,0,none⟩) 0 0/\J0 H b=some (.cells [] 0))
theorem E23.sl{lo:Nat}{H:Y0}{nx:Nat}{v:Value}{c:List Value}(h:E23 lo H nx v c):∃ A,v = .slice A c.length c.length/\Sl H nx A c/\Has H nx A:=by
 rcases h with h | ⟨rfl,b,h1,h2,rfl,h4⟩
 .obtain⟨A,rfl,hS⟩:=h.sl
  refine⟨A,rfl,hS,?_⟩;rcases h.2 with ⟨_,e⟩ | ⟨b,_,h2,e,h4⟩
  .injection e with e1
   exact .inl e1
  .injection e with e1
   subst e1;exact .inr ⟨b,0,c,rfl,h2,by simp[Q5,h4,V3.row]⟩
 .exact⟨_,rfl,Sl.nil _ _ _,.inr ⟨b,0,[],rfl,h2,by simp[Q5,h4,V3.row]⟩⟩
theorem V22{P:Program}{g:FuncId}{first cap args:List Value}{Q:EP}(h:Q2 P g (first++args++cap) H nx Q)(hk:∀ v H' nx',Q v H' nx'->k v H' nx'):
  M33 P (.func (.func g) ⟨first⟩ ⟨cap⟩) args H nx k:=by
 show spine (first++args++cap) (fun vs=>M8 P g vs H nx False k);rw[V14];exact .inr (h.mono hk)
theorem R20{lo:Nat}{H0:Y0}(hg:J0 H b=some (.cells [] 0))(E:lo<=b)(hb:b<nx)(hx:Src H 1 x m l)(ho:Z0 l=true)(hm:m<=1000000)(O:bytes<=16)(hE:D0 H0 lo H nx)
  (hk:∀ v' H' nx',nx<=nx'->E23 lo H' nx' v' l->D0 H0 lo H' nx'->k v' H' nx'):B5 (.slice (some ⟨b,0,none⟩) 0 0) x 1 bytes H nx k:=by
 have J:(2*(0+m)+1000)*bytes<=281474976710656:=by
  have:=eL (show 2*(0+m)+1000<=2*1000000+1000 by omega) O;omega
 have hl:=hx.size;rcases cI m with h0 | h0
 .subst h0
  have:l=[]:=dT.1 (by omega);subst this;rw[Y58 (n:=0) hg (by rfl) hx (by omega) (by omega)];exact hk _ _ _ (aD _) (.inr ⟨rfl,b,E,hb,rfl,Z11 _ _ _⟩) (hE.hs E)
 .rw[K44 (n:=0) (by omega) hg (by simp) hx h0 ho J (by omega)]
  refine hk _ _ _ (by omega) (.inl ⟨by omega,.inr ⟨nx,by omega,by omega,?_,?_⟩⟩) (hE.new _ (by omega) (by omega))
  .rw[cF,hl,eQ]
  .rw[Z11];rfl
end
def K70:Option (Nat × Bool)->Option (Nat × Bool)->Bool
 | none,none=>true
 | some (a,x),some (b,y)=>Nat.beq a b&&(cond x y (!y))
 | _,_=>false
def W71:Option (Nat × Bool)->Option Nat->Bool
 | some (a,_),some b=>Nat.beq a b
 | _,_=>false
def K63 (g:Option (Nat × Bool)) (cur:List S):List S->List G
 | []=>[(g,cur.reverse)]
 | s :: l=>cond (K70 g s.guard && !(W71 g s.dst)) (K63 g (⟨none,s.dst,s.i⟩ :: cur) l) ((g,cur.reverse) :: K63 s.guard [⟨none,s.dst,s.i⟩] l)
def grp:List S->List G
 | []=>[]
 | s :: l=>K63 s.guard [⟨none,s.dst,s.i⟩] l
def G61(x:Nat):List Nat->Bool
 | []=>false
 | y :: l=>bR x y || G61 x l
def W52(ws:List Nat):List Nat->List Nat->List Nat
 | acc,[]=>acc
 | acc,x :: l=>cond (G61 x ws || G61 x acc) (W52 ws acc l) (W52 ws (x :: acc) l)
def V12{β:Type}:C->Nat->List (Nat × List Nat)->List (List Nat)->List HT->(D->Nat->List (Nat × List Nat)->List (List Nat)->List HT->β)->β
 | .skip,n,js,ls,hs,k=>k .skip n js ls hs
 | .ops l,n,js,ls,hs,k=>match grp l with
  | []=>k (.ops [] .nil) n js ls hs
  | [(none,m)]=>k (.ops [(none,m)] (.one .nil)) n js ls hs
  | gs=>match hs with
   | h :: hs=>k (.ops gs h) n js ls hs
   | []=>k (.ops gs .nil) n js ls hs
 | .draw ms l,n,js,ls,hs,k=>match grp l with
  | []=>k (.draw ms [] .nil) n js ls hs
  | [(none,m)]=>k (.draw ms [(none,m)] (.one .nil)) n js ls hs
  | gs=>match hs with
   | h :: hs=>k (.draw ms gs h) n js ls hs
   | []=>k (.draw ms gs .nil) n js ls hs
 | .seq a b,n,js,ls,hs,k=>match js with
  | []=>V12 a (n+1) [] ls hs fun a n js ls hs=>V12 b n js ls hs fun b n js ls hs=>k (.seq a b) n js ls hs
  | (i,ws) :: r=>cond (bR i n)
    (V12 a (n+1) r ls hs fun a n js ls hs=>V12 b n js ls hs fun b n js ls hs=>k (.join ws (W52 ws [] a.writes) a b) n js ls hs)
    (V12 a (n+1) js ls hs fun a n js ls hs=>V12 b n js ls hs fun b n js ls hs=>k (.seq a b) n js ls hs)
 | .cond x t e,n,js,ls,hs,k=>V12 t n js ls hs fun t n js ls hs=>V12 e n js ls hs fun e n js ls hs=>k (.cond x t e) n js ls hs
 | .block id c,n,js,ls,hs,k=>V12 c n js ls hs fun c n js ls hs=>k (.block id c) n js ls hs
 | .loop c,n,js,ls,hs,k=>match ls with
  | ws :: ls=>V12 c n js ls hs fun c n js ls hs=>k (.loop ws (W52 ws [] c.writes) c) n js ls hs
  | []=>V12 c n js [] hs fun c n js ls hs=>k (.loop [] c.writes c) n js ls hs
 | .exit id,n,js,ls,hs,k=>k (.exit id) n js ls hs
 | .ret,n,js,ls,hs,k=>k .ret n js ls hs
def X5(P:Program)(f:FuncId)(js:List (Nat × List Nat))(ls:List (List Nat))(hs:List HT):D:=match cfn P f with
 | some c=>V12 c.body 0 js ls hs fun d _ _ _ _=>d
 | none => .skip
def cN(P:Program)(f:FuncId):Nat:=match cfn P f with
 | some c=>c.n
 | none=>0
def cR(P:Program)(f:FuncId):List (X × Option (Option Nat)):=match cfn P f with
 | some c=>c.res
 | none=>[]
theorem D114 {P:Program} (hm:P.follows .mixedOrders=true) (hNG:J18 P) {f:FuncId} {args:List Value} {H:Y0} {nx:Nat} {Q:Value->Y0->Nat->Prop} {F:Prop} {js:List (Nat × List Nat)} {ls:List (List Nat)} {hs:List HT}
  (hc:cfn P f=some ⟨cN P f,Nat.log2 (cN P f)+1,(X5 P f js ls hs).erase,cR P f⟩) (hok:(X5 P f js ls hs).ok (cN P f) (Nat.log2 (cN P f)+1)=true) (hl:Nat.ble args.length (cN P f)=true)
  (he:X55 P (cN P f) (Nat.log2 (cN P f)+1) (X5 P f js ls hs) (cR P f) args H nx Q=F) (h:F):Q2 P f args H nx Q:=
 X44 hm hNG hc hok (Nat.le_of_ble_eq_true hl) (he.symm ▸ h)
def wFl(v:Value)(o:Nat)(H:Y0)(k:Value->VP):Prop:=B4 v o fun a=>J1 a none H (k a)
theorem N111(v:Value)(o:Nat)(H:Y0)(k:Value->VP):wFl v o H k=B4 v o fun a=>J1 a none H (k a):=rfl
def C81(v:Value)(o s:Nat)(H:Y0)(k:Value->VP):Prop:=B4 v o fun a=>J1 a (some s) H (k a)
theorem J109(v:Value)(o s:Nat)(H:Y0)(k:Value->VP):C81 v o s H k=B4 v o fun a=>J1 a (some s) H (k a):=rfl
def U6(v i:Value)(H:Y0)(k:Value->VP):Prop:=M3 v i none 1 fun a=>J1 a none H (k a)
theorem C112(v i:Value)(H:Y0)(k:Value->VP):U6 v i H k=M3 v i none 1 fun a=>J1 a none H (k a):=rfl
def B15(v i:Value)(s:Nat)(H:Y0)(k:Value->VP):Prop:=M3 v i none s fun a=>J1 a (some s) H (k a)
theorem D111(v i:Value)(s:Nat)(H:Y0)(k:Value->VP):B15 v i s H k=M3 v i none s fun a=>J1 a (some s) H (k a):=rfl
def M12(v:Value)(H:Y0)(nx:Nat)(k:EP):Prop:=E5 v fun c=>J3 (.cells c 0) .ptr H nx k
theorem C111(v:Value)(H:Y0)(nx:Nat)(k:EP):M12 v H nx k=E5 v fun c=>J3 (.cells c 0) .ptr H nx k:=rfl
def D24(n s:Nat)(z:List Value)(vs:List (Nat × Value))(H:Y0)(nx:Nat)(k:EP):Prop:=K6 n s z vs fun c=>J3 (.cells c 0) (.slice n n) H nx k
theorem B111(n s:Nat)(z:List Value)(vs:List (Nat × Value))(H:Y0)(nx:Nat)(k:EP):D24 n s z vs H nx k=K6 n s z vs fun c=>J3 (.cells c 0) (.slice n n) H nx k:=rfl
def G29(a b:Value)(z:List Value)(H:Y0)(nx:Nat)(k:EP):Prop:=D30 a b z fun c l m=>J3 (.cells c 0) (.slice l m) H nx k
theorem G111(a b:Value)(z:List Value)(H:Y0)(nx:Nat)(k:EP):G29 a b z H nx k=D30 a b z fun c l m=>J3 (.cells c 0) (.slice l m) H nx k:=rfl
def wAl(z:List Value)(H:Y0)(nx:Nat)(k:EP):Prop:=J3 (.cells z 0) .ptr H nx k
theorem R111(z:List Value)(H:Y0)(nx:Nat)(k:EP):wAl z H nx k=J3 (.cells z 0) .ptr H nx k:=rfl
def Rt(v:Value)(H:Y0)(nx:Nat)(k:EP):Prop:=M0 v fun u=>k u H nx
theorem J80(v:Value)(H:Y0)(nx:Nat)(k:EP):Rt v H nx k=M0 v fun u=>k u H nx:=rfl
def cE(t:Value)(m:Option Nat)(H:Y0)(v:Value):Prop:=J1 t m H fun q=>q=v
theorem Z113(t:Value)(m:Option Nat)(H:Y0)(v:Value):cE t m H v=J1 t m H fun q=>q=v:=rfl
def z32:List Value:=[.int .u32 0,.int .u32 0,.int .u32 0,.int .u32 0,.int .u32 0,.int .u32 0,.int .u32 0,.int .u32 0,.int .u32 0,.int .u32 0,.int .u32 0,.int .u32 0,.int .u32 0,.int .u32 0,.int .u32 0,.int .u32 0,.int .u32 0,.int .u32 0,.int .u32 0,.int .u32 0,.int .u32 0,.int .u32 0,.int .u32 0,.int .u32 0,.int .u32 0,.int .u32 0,.int .u32 0,.int .u32 0,.int .u32 0,.int .u32 0,.int .u32 0,.int .u32 0]
theorem R112:z32=([.int .u32 0,.int .u32 0,.int .u32 0,.int .u32 0,.int .u32 0,.int .u32 0,.int .u32 0,.int .u32 0,.int .u32 0,.int .u32 0,.int .u32 0,.int .u32 0,.int .u32 0,.int .u32 0,.int .u32 0,.int .u32 0,.int .u32 0,.int .u32 0,.int .u32 0,.int .u32 0,.int .u32 0,.int .u32 0,.int .u32 0,.int .u32 0,.int .u32 0,.int .u32 0,.int .u32 0,.int .u32 0,.int .u32 0,.int .u32 0,.int .u32 0,.int .u32 0]:List Value):=rfl
def zR:List Value:=[.bool false,.slice none 0 0,.slice none 0 0]
theorem D113:zR=([.bool false,.slice none 0 0,.slice none 0 0]:List Value):=rfl
def i0:Value := .int .i64 0
theorem G114:i0=(.int .i64 0:Value):=rfl
def i1:Value := .int .i64 1
theorem U114:i1=(.int .i64 1:Value):=rfl
def u0:Value := .int .u32 0
theorem N113:u0=(.int .u32 0:Value):=rfl
def u1:Value := .int .u32 1
theorem W114:u1=(.int .u32 1:Value):=rfl
def bT:Value := .bool true
theorem X113:bT=(.bool true:Value):=rfl
def bF:Value := .bool false
theorem B114:bF=(.bool false:Value):=rfl
def _root_.List.a(l:List Value):Value:=l.getD 0 undef
theorem E113(l:List Value):l.a=l.getD 0 undef:=rfl
def _root_.List.b(l:List Value):Value:=l.getD 1 undef
theorem Q114(l:List Value):l.b=l.getD 1 undef:=rfl
def _root_.List.c(l:List Value):Value:=l.getD 2 undef
theorem N112(l:List Value):l.c=l.getD 2 undef:=rfl
def _root_.List.d(l:List Value):Value:=l.getD 3 undef
theorem M113(l:List Value):l.d=l.getD 3 undef:=rfl
def _root_.List.e(l:List Value):Value:=l.getD 4 undef
theorem C113(l:List Value):l.e=l.getD 4 undef:=rfl
def _root_.List.f(l:List Value):Value:=l.getD 5 undef
theorem E114(l:List Value):l.f=l.getD 5 undef:=rfl
def tA(x:Prop):Prop:=True/\x
theorem R113(x:Prop):tA x=(True/\x):=rfl
def tB(x:Prop):Prop:=x/\True
theorem V113(x:Prop):tB x=(x/\True):=rfl
def wK(a b:Prop):Prop:=(a/\b)\/False
theorem X114(a b:Prop):wK a b=((a/\b)\/False):=rfl
theorem W1:(type_of% @N111)/\(type_of% @J109)/\(type_of% @C112)/\(type_of% @D111)/\(type_of% @C111)/\(type_of% @B111)/\(type_of% @G111)/\(type_of% @R111)/\(type_of% @J80)/\(type_of% @Z113)/\(type_of% @R112)/\(type_of% @D113)/\(type_of% @G114)/\(type_of% @U114)/\(type_of% @N113)/\(type_of% @W114)/\(type_of% @X113)/\(type_of% @B114)/\(type_of% @E113)/\(type_of% @Q114)/\(type_of% @N112)/\(type_of% @M113)/\(type_of% @C113)/\(type_of% @E114)/\(type_of% @R113)/\(type_of% @V113)/\(type_of% @X114):=⟨@N111,@J109,@C112,@D111,@C111,@B111,@G111,@R111,@J80,@Z113,@R112,@D113,@G114,@U114,@N113,@W114,@X113,@B114,@E113,@Q114,@N112,@M113,@C113,@E114,@R113,@V113,@X114⟩
theorem W0:(type_of% @W1)/\(type_of% @fZ.{0})/\(type_of% @gD.{0})/\(type_of% @E45)/\(type_of% @Q43)/\(type_of% @G48)/\(type_of% @M42)/\(type_of% @V44)/\(type_of% @Z47)/\(type_of% @C46)/\(type_of% @M29)/\(type_of% @Z27)/\(type_of% @Y35)/\(type_of% @X29)/\(type_of% @Z50)/\(type_of% @G51)/\(type_of% @M50)/\(type_of% @W38)/\(type_of% @K40)/\(type_of% @J35)/\(type_of% @R28)/\(type_of% @Q37)/\(type_of% @W59)/\(type_of% @Y31)/\(type_of% @D45)/\(type_of% @N35)/\(type_of% @Y30)/\(type_of% @W41)/\(type_of% @Q45)/\(type_of% @W44)/\(type_of% @J48)/\(type_of% @V65)/\(type_of% @G65)/\(type_of% @X57)/\(type_of% @Y40)/\(type_of% @Y50)/\(type_of% @Q40)/\(type_of% @Z11)/\(type_of% @Z1)/\(type_of% @Y5)/\(type_of% @G1)/\(type_of% @G4)/\(type_of% @aN.{1,0})/\(type_of% @List.getElem?_cons_zero.{0})/\(type_of% @dK.{0})/\(type_of% @decide_true)/\(type_of% @decide_false)/\(type_of% @if_true.{1})/\(type_of% @if_false.{1})/\(type_of% @dQ)/\(type_of% @cF)/\(type_of% @eM)/\(type_of% @and_true)/\(type_of% @true_and)/\(type_of% @or_false)/\(type_of% @Bool.not_true)/\(type_of% @Bool.not_false)/\(type_of% @and_self)/\(type_of% @N32)/\(type_of% @N33)/\(type_of% @U33)/\(type_of% @K32)/\(type_of% @W47)/\(type_of% @Int.toNat_natCast)/\(type_of% @eQ)/\(type_of% @Nat.zero_mul)/\(type_of% @C49)/\(type_of% @D50)/\(type_of% @M47)/\(type_of% @R32)/\(type_of% @Z41)/\(type_of% @U51)/\(type_of% @C50)/\(type_of% @G47)/\(type_of% @U20)/\(type_of% @C36)/\(type_of% @V31)/\(type_of% @B44)/\(type_of% @V38)/\(type_of% @V15)/\(type_of% @R40)/\(type_of% @R39)/\(type_of% @V17)/\(type_of% @D39)/\(type_of% @D17)/\(type_of% @M35)/\(type_of% @E28)/\(type_of% @J28)/\(type_of% @cV.{0})/\(type_of% @List.length_nil.{0})/\(type_of% @aD)/\(type_of% @Int.toNat_zero)/\(type_of% @Int.toNat_one):=
 ⟨@W1,@fZ.{0},@gD.{0},@E45,@Q43,@G48,@M42,@V44,@Z47,@C46,@M29,@Z27,@Y35,@X29,@Z50,@G51,@M50,@W38,@K40,@J35,@R28,@Q37,@W59,@Y31,@D45,@N35,@Y30,@W41,@Q45,@W44,@J48,@V65,@G65,@X57,@Y40,@Y50,@Q40,@Z11,@Z1,@Y5,@G1,@G4,@aN.{1,0},@List.getElem?_cons_zero.{0},@dK.{0},@decide_true,@decide_false,@if_true.{1},@if_false.{1},@dQ,@cF,@eM,@and_true,@true_and,@or_false,@Bool.not_true,@Bool.not_false,@and_self,@N32,@N33,@U33,@K32,@W47,@Int.toNat_natCast,@eQ,@Nat.zero_mul,@C49,@D50,@M47,@R32,@Z41,@U51,@C50,@G47,@U20,@C36,@V31,@B44,@V38,@V15,@R40,@R39,@V17,@D39,@D17,@M35,@E28,@J28,@cV.{0},@List.length_nil.{0},@aD,@Int.toNat_zero,@Int.toNat_one⟩
end Go.Clo
namespace Go.Proofs.YtoiioigihocgbaaGreatDoor
open Go.Clo
theorem mixed:Tryz.prog.follows .mixedOrders=true:=by kernel_rfl
theorem D63 : (Tryz.prog.funcs.toList.all fun f => !(f.name == "runtime.NumGoroutine")) = true := by kernel_rfl
theorem J2:J18 Tryz.prog:=by
 intro f fn hf;have h1:=bW.1 D63 fn (aH (by simpa using hf))
 cases hx : (fn.name == "runtime.NumGoroutine") with
 | false=>rfl
 | true=>rw[hx] at h1;cases h1
theorem Q12 {f:FuncId} {args:List Value} {H:Y0} {nx:Nat} {Q:Value->Y0->Nat->Prop} {F:Prop} (js:List (Nat × List Nat)) (ls:List (List Nat)) (hs:List HT)
  (hc:cfn Tryz.prog f=some ⟨cN Tryz.prog f,Nat.log2 (cN Tryz.prog f)+1,(X5 Tryz.prog f js ls hs).erase,cR Tryz.prog f⟩:=by kernel_rfl) (hok:(X5 Tryz.prog f js ls hs).ok (cN Tryz.prog f) (Nat.log2 (cN Tryz.prog f)+1)=true:=by kernel_rfl) (hl:Nat.ble args.length (cN Tryz.prog f)=true:=by kernel_rfl)
  (he:X55 Tryz.prog (cN Tryz.prog f) (Nat.log2 (cN Tryz.prog f)+1) (X5 Tryz.prog f js ls hs) (cR Tryz.prog f) args H nx Q=F:=by kernel_rfl) (h:F):Q2 Tryz.prog f args H nx Q:=
 D114 mixed J2 hc hok hl he h
section
variable (a0 a1 a2:Value) (H:Y0) (nx:Nat) (k:EP)
def F92:Prop:=
 D10 .neq a0 a0 fun b=>
 Rt b H nx k
def F128:Prop:=
 D10 .neq a0 a0 fun b=>
 Rt b H nx k
def F69:Prop:=
 Y2 Tryz.prog 92 [a0] H nx fun b c d=>
 Y2 Tryz.prog 92 [a1] c d fun c d e=>
 K2 b (
 K2 c (
 Rt i0 d e k) (
 Rt (.int .i64 (-1)) d e k)) (
 K2 c (
 Rt i1 d e k) (
 D10 .lss a0 a1 fun b=>
 K2 b (
 Rt (.int .i64 (-1)) d e k) (
 D10 .gtr a0 a1 fun b=>
 K2 b (
 Rt i1 d e k) (
 Rt i0 d e k))))
def F112:Prop:=
 Y2 Tryz.prog 128 [a0] H nx fun b c d=>
 Y2 Tryz.prog 128 [a1] c d fun c d e=>
 K2 b (
 K2 c (
 Rt i0 d e k) (
 Rt (.int .i64 (-1)) d e k)) (
 K2 c (
 Rt i1 d e k) (
 D10 .lss a0 a1 fun b=>
 K2 b (
 Rt (.int .i64 (-1)) d e k) (
 D10 .gtr a0 a1 fun b=>
 K2 b (
 Rt i1 d e k) (
 Rt i0 d e k))))
def F113:Prop:=
 D9 (.eqn false (.slice 56)) [a0,(.slice none 0 0)] fun b=>
 K2 b (
 Rt (.slice none 0 0) H nx k) (
 D24 0 1 [.int .u32 0] [] H nx fun b c d=>
 B5 b a0 1 4 c d fun b c d=>
 Rt b c d k)
def F111:Prop:=
 R4 a0 0 H fun b=>
 G3 (fun b c d e=>
 V4 (fun b=>
 D10 .gtr c.a i0 fun f=>
 K3 true f (
 D10 .sub c.a i1 fun c=>
 U6 a0 c d fun _ c=>
 D10 .eql c u0 fun c=>
 b [c] d e) (
 b [bF] d e)) (fun d e f=>
 K2 d.a (
 D10 .sub c.a i1 fun c=>
 b [c] e f) (
 wSl a0 1 none (some c.a) (some c.a) e fun b=>
 Rt b e f k))) [b] H nx
def F101:Prop:=
 W8 .u32 a0 fun b=>
 D10 .shr a0 (.int .u64 32) fun c=>
 W8 .u32 c fun c=>
 D24 2 1 [.int .u32 0] [(0,b),(1,c)] H nx fun b c d=>
 Y2 Tryz.prog 111 [b] c d fun b c d=>
 Rt b c d k
def F100:Prop:=
 Y2 Tryz.prog 111 [a0] H nx fun b c d=>
 Y2 Tryz.prog 113 [b] c d fun b c d=>
 Rt b c d k
def F97:Prop:=
 Y2 Tryz.prog 111 [a0] H nx fun b c d=>
 Y2 Tryz.prog 111 [a1] c d fun c d e=>
 R4 b 0 d fun f=>
 R4 c 0 d fun g=>
 D10 .neq f g fun f=>
 K2 f (
 R4 b 0 d fun b=>
 R4 c 0 d fun c=>
 Y2 Tryz.prog 69 [b,c] d e fun b c d=>
 Rt b c d k) (
 R4 b 0 d fun f=>
 D10 .sub f i1 fun f=>
 G3 (fun d e f g=>
 D10 .geq e.a i0 fun h=>
 K2 h (
 M2 (g+9) fun g=>
 U6 b e.a f fun h i=>
 U6 c e.a f fun j l=>
 D10 .neq i l fun m=>
 wK ((tB (cE j none f l))/\(tB (tB (cE h none f i)))) (
 K2 m (
 M2 (g+10) fun d=>
 U6 b e.a f fun b g=>
 U6 c e.a f fun c e=>
 Y2 Tryz.prog 112 [g,e] f d fun d h i=>
 wK ((tA (tB (cE c none f e)))/\(tB (tA (tB (cE b none f g))))) (
 Rt d h i k)) (
 D10 .sub e.a i1 fun b=>
 d [b] f g))) (
 Rt i0 f g k)) [f] d e)
def F145:Prop:=
 Y2 Tryz.prog 111 [a0] H nx fun b c d=>
 Y2 Tryz.prog 111 [a1] c d fun c d e=>
 V4 (fun f=>
 R4 b 0 d fun g=>
 R4 c 0 d fun h=>
 D10 .lss g h fun g=>
 K2 g (
 f [c,b] d e) (
 f [b,c] d e)) (fun b c d=>
 R4 b.a 0 c fun e=>
 D10 .add e i1 fun e=>
 G29 e e [.int .u32 0] c d fun c d e=>
 R4 b.a 0 d fun f=>
 G3 (fun d e g h=>
 D10 .lss e.b f fun f=>
 K2 f (
 U6 b.a e.b g fun _ f=>
 W8 .u64 f fun f=>
 D10 .add e.a f fun f=>
 V4 (fun c=>
 R4 b.b 0 g fun d=>
 D10 .lss e.b d fun d=>
 K2 d (
 U6 b.b e.b g fun _ b=>
 W8 .u64 b fun b=>
 D10 .add f b fun b=>
 c [b] g h) (
 c [f] g h)) (fun b f g=>
 W8 .u32 b.a fun h=>
 M3 c e.b none 1 fun c=>
 D5 c h 1 f fun c=>
 D10 .shr b.a (.int .u64 32) fun b=>
 D10 .add e.b i1 fun e=>
 d [b,e] c g)) (
 R4 b.a 0 g fun b=>
 W8 .u32 e.a fun d=>
 M3 c b none 1 fun b=>
 D5 b d 1 g fun b=>
 Y2 Tryz.prog 111 [c] b h fun b c d=>
 Rt b c d k)) [(.int .u64 0),i0] d e)
def F146:Prop:=
 Y2 Tryz.prog 111 [a0] H nx fun b c d=>
 Y2 Tryz.prog 111 [a1] c d fun c d e=>
 Y2 Tryz.prog 97 [b,c] d e fun d e f=>
 D10 .lss d i0 fun d=>
 K2 d (
 Rt (.tuple ⟨[(.slice none 0 0),(.int .i64 19)]⟩) e f k) (
 R4 b 0 e fun d=>
 G29 d d [.int .u32 0] e f fun d e f=>
 R4 b 0 e fun g=>
 G3 (fun e f h i=>
 D10 .lss f.b g fun g=>
 K2 g (
 U6 b f.b h fun _ b=>
 W8 .u64 b fun b=>
 D10 .sub b f.a fun b=>
 V4 (fun d=>
 R4 c 0 h fun e=>
 D10 .lss f.b e fun e=>
 K2 e (
 U6 c f.b h fun _ c=>
 W8 .u64 c fun c=>
 D10 .sub b c fun b=>
 d [b] h i) (
 d [b] h i)) (fun b c g=>
 W8 .u32 b.a fun h=>
 M3 d f.b none 1 fun d=>
 D5 d h 1 c fun c=>
 D10 .shr b.a (.int .u64 63) fun b=>
 D10 .add f.b i1 fun d=>
 e [b,d] c g)) (
 Y2 Tryz.prog 111 [d] h i fun b c d=>
 Rt (.tuple ⟨[b,i0]⟩) c d k)) [(.int .u64 0),i0] e f)
def F98:Prop:=
 Y2 Tryz.prog 111 [a0] H nx fun b c d=>
 Y2 Tryz.prog 111 [a1] c d fun c d e=>
 R4 b 0 d fun f=>
 R4 c 0 d fun g=>
 D10 .add f g fun f=>
 G29 f f [.int .u32 0] d e fun d e f=>
 R4 b 0 e fun g=>
 G3 (fun e f h i=>
 D10 .lss f.a g fun g=>
 K2 g (
 R4 c 0 h fun g=>
 G3 (fun h i j l=>
 D10 .lss i.b g fun g=>
 K2 g (
 M2 (l+22) fun e=>
 U6 b f.a j fun b g=>
 W8 .u64 g fun l=>
 U6 c i.b j fun c m=>
 W8 .u64 m fun n=>
 D10 .mul l n fun o=>
 D10 .add f.a i.b fun p=>
 U6 d p j fun p q=>
 W8 .u64 q fun r=>
 D10 .add o r fun o=>
 D10 .add i.a o fun o=>
 wK ((tB (W8 .u64 q fun b=>b=r))/\((tB (cE p none j q))/\((tB (W8 .u64 m fun b=>b=n))/\((tB (cE c none j m))/\((tB (W8 .u64 g fun b=>b=l))/\(tB (tB (cE b none j g)))))))) (
 D10 .add f.a i.b fun b=>
 W8 .u32 o fun c=>
 M3 d b none 1 fun b=>
 D5 b c 1 j fun b=>
 D10 .shr o (.int .u64 32) fun c=>
 D10 .add i.b i1 fun d=>
 h [c,d] b e)) (
 R4 c 0 j fun b=>
 D10 .add f.a b fun b=>
 W8 .u32 i.a fun c=>
 M3 d b none 1 fun b=>
 D5 b c 1 j fun b=>
 D10 .add f.a i1 fun c=>
 e [c] b l)) [(.int .u64 0),i0] h i) (
 Y2 Tryz.prog 111 [d] h i fun b c d=>
 Rt b c d k)) [i0] e f
def F117:Prop:=
 R4 a0 0 H fun b=>
 D10 .sub b i1 fun b=>
 G3 (fun b c d e=>
 D10 .geq c.b i0 fun f=>
 K2 f (
 D10 .shl c.a (.int .u64 32) fun f=>
 U6 a0 c.b d fun _ g=>
 W8 .u64 g fun g=>
 D10 .or f g fun f=>
 W8 .u64 a1 fun g=>
 D10 .quo f g fun g=>
 W8 .u32 g fun g=>
 M3 a0 c.b none 1 fun h=>
 D5 h g 1 d fun d=>
 W8 .u64 a1 fun g=>
 D10 .rem f g fun f=>
 D10 .sub c.b i1 fun c=>
 b [f,c] d e) (
 W8 .u32 c.a fun b=>
 Rt b d e k)) [(.int .u64 0),b] H nx
def F130:Prop:=
 R4 a0 0 H fun b=>
 D10 .add b i1 fun b=>
 G29 b b [.int .u32 0] H nx fun b c d=>
 R4 a0 0 c fun e=>
 G3 (fun c d f g=>
 D10 .lss d.b e fun e=>
 K2 e (
 U6 a0 d.b f fun _ e=>
 W8 .u64 e fun e=>
 D10 .shl e a1 fun e=>
 D10 .or d.a e fun e=>
 W8 .u32 e fun h=>
 M3 b d.b none 1 fun b=>
 D5 b h 1 f fun b=>
 D10 .shr e (.int .u64 32) fun e=>
 D10 .add d.b i1 fun d=>
 c [e,d] b g) (
 R4 a0 0 f fun c=>
 W8 .u32 d.a fun d=>
 M3 b c none 1 fun c=>
 D5 c d 1 f fun c=>
 Rt b c g k)) [(.int .u64 0),i0] c d
def F134:Prop:=
 R4 a0 0 H fun b=>
 G29 b b [.int .u32 0] H nx fun b c d=>
 R4 a0 0 c fun e=>
 D10 .sub e i1 fun e=>
 G3 (fun c d e f=>
 D10 .geq d.b i0 fun g=>
 K2 g (
 D10 .shl d.a (.int .u64 32) fun g=>
 U6 a0 d.b e fun _ h=>
 W8 .u64 h fun h=>
 D10 .or g h fun g=>
 D10 .shr g a1 fun h=>
 W8 .u32 h fun h=>
 M3 b d.b none 1 fun b=>
 D5 b h 1 e fun b=>
 D10 .sub d.b i1 fun d=>
 c [g,d] b f) (
 Rt b e f k)) [(.int .u64 0),e] c d
def F131:Prop:=
 R4 a1 0 H fun b=>
 M2 (nx+14) fun c=>
 U6 a0 b H fun d e=>
 W8 .u64 e fun f=>
 D10 .shl f (.int .u64 32) fun g=>
 D10 .sub b i1 fun h=>
 U6 a0 h H fun h i=>
 W8 .u64 i fun j=>
 D10 .or g j fun g=>
 wK ((tB (W8 .u64 i fun b=>b=j))/\((tB (cE h none H i))/\((tB (W8 .u64 e fun b=>b=f))/\(tB (tB (cE d none H e)))))) (
 D10 .sub b i1 fun d=>
 U6 a1 d H fun _ d=>
 W8 .u64 d fun d=>
 D10 .quo g d fun d=>
 D10 .sub b i1 fun e=>
 U6 a1 e H fun _ e=>
 W8 .u64 e fun e=>
 D10 .rem g e fun e=>
 G3 (fun c d e f=>
 V4 (fun c=>
 M2 (f+22) fun f=>
 D10 .gtr d.a (.int .u64 4294967295) fun g=>
 K3 false g (
 D10 .sub b (.int .i64 2) fun g=>
 U6 a1 g e fun g h=>
 W8 .u64 h fun i=>
 D10 .mul d.a i fun j=>
 D10 .shl d.b (.int .u64 32) fun d=>
 D10 .sub b (.int .i64 2) fun b=>
 U6 a0 b e fun b l=>
 W8 .u64 l fun m=>
 D10 .or d m fun d=>
 D10 .gtr j d fun d=>
 wK ((tB (W8 .u64 l fun b=>b=m))/\((tB (cE b none e l))/\((tB (W8 .u64 h fun b=>b=i))/\(tB (tB (cE g none e h)))))) (
 c [d] e f)) (
 wK True (
 c [bT] e f))) (fun e f g=>
 K2 e.a (
 D10 .sub d.a (.int .u64 1) fun e=>
 D10 .sub b i1 fun b=>
 U6 a1 b f fun _ b=>
 W8 .u64 b fun b=>
 D10 .add d.b b fun b=>
 D10 .gtr b (.int .u64 4294967295) fun d=>
 K2 d (
 Rt e f g k) (
 c [e,b] f g)) (
 Rt d.a f g k))) [d,e] H c)
def F132:Prop:=
 R4 a1 0 H fun b=>
 G3 (fun c d e f=>
 D10 .lss d.c b fun b=>
 K2 b (
 U6 a1 d.c e fun _ b=>
 W8 .u64 b fun b=>
 D10 .mul a2 b fun b=>
 D10 .add d.a b fun b=>
 U6 a0 d.c e fun _ g=>
 W8 .u64 g fun g=>
 D10 .and b (.int .u64 4294967295) fun h=>
 D10 .sub g h fun g=>
 D10 .sub g d.b fun g=>
 W8 .u32 g fun h=>
 M3 a0 d.c none 1 fun i=>
 D5 i h 1 e fun e=>
 D10 .shr g (.int .u64 63) fun g=>
 D10 .shr b (.int .u64 32) fun b=>
 D10 .add d.c i1 fun d=>
 c [b,g,d] e f) (
 R4 a1 0 e fun b=>
 U6 a0 b e fun _ b=>
 W8 .u64 b fun b=>
 D10 .sub b d.a fun b=>
 D10 .sub b d.b fun b=>
 R4 a1 0 e fun c=>
 W8 .u32 b fun d=>
 M3 a0 c none 1 fun c=>
 D5 c d 1 e fun c=>
 D10 .shr b (.int .u64 63) fun b=>
 D10 .neq b (.int .u64 0) fun b=>
 Rt b c f k)) [(.int .u64 0),(.int .u64 0),i0] H nx
def F133:Prop:=
 R4 a1 0 H fun b=>
 G3 (fun c d e f=>
 D10 .lss d.b b fun b=>
 K2 b (
 M2 (f+14) fun b=>
 U6 a0 d.b e fun f g=>
 W8 .u64 g fun h=>
 U6 a1 d.b e fun i j=>
 W8 .u64 j fun l=>
 D10 .add h l fun m=>
 D10 .add d.a m fun m=>
 wK ((tB (W8 .u64 j fun b=>b=l))/\((tB (cE i none e j))/\((tB (W8 .u64 g fun b=>b=h))/\(tB (tB (cE f none e g)))))) (
 W8 .u32 m fun f=>
 M3 a0 d.b none 1 fun g=>
 D5 g f 1 e fun e=>
 D10 .shr m (.int .u64 32) fun f=>
 D10 .add d.b i1 fun d=>
 c [f,d] e b)) (
 R4 a1 0 e fun b=>
 U6 a0 b e fun _ c=>
 W8 .u32 d.a fun d=>
 D10 .add c d fun c=>
 M3 a0 b none 1 fun b=>
 D5 b c 1 e fun b=>
 Rt (.tuple ⟨[]⟩) b f k)) [(.int .u64 0),i0] H nx
def F114:Prop:=
 V4 (fun b=>
 D10 .geq a0 (.int .u32 65536) fun c=>
 K2 c (
 D10 .shr a0 (.int .u64 16) fun c=>
 b [c,(.int .i64 16)] H nx) (
 b [a0,i0] H nx)) (fun b c d=>
 V4 (fun e=>
 D10 .geq b.a (.int .u32 256) fun f=>
 K2 f (
 D10 .shr b.a (.int .u64 8) fun f=>
 D10 .add b.b (.int .i64 8) fun b=>
 e [f,b] c d) (
 e [b.a,b.b] c d)) (fun b c d=>
 W8 .u8 b.a fun e=>
 D9 .sidx [(.string ⟨#[0,1,2,2,3,3,3,3,4,4,4,4,4,4,4,4,5,5,5,5,5,5,5,5,5,5,5,5,5,5,5,5,6,6,6,6,6,6,6,6,6,6,6,6,6,6,6,6,6,6,6,6,6,6,6,6,6,6,6,6,6,6,6,6,7,7,7,7,7,7,7,7,7,7,7,7,7,7,7,7,7,7,7,7,7,7,7,7,7,7,7,7,7,7,7,7,7,7,7,7,7,7,7,7,7,7,7,7,7,7,7,7,7,7,7,7,7,7,7,7,7,7,7,7,7,7,7,7,8,8,8,8,8,8,8,8,8,8,8,8,8,8,8,8,8,8,8,8,8,8,8,8,8,8,8,8,8,8,8,8,8,8,8,8,8,8,8,8,8,8,8,8,8,8,8,8,8,8,8,8,8,8,8,8,8,8,8,8,8,8,8,8,8,8,8,8,8,8,8,8,8,8,8,8,8,8,8,8,8,8,8,8,8,8,8,8,8,8,8,8,8,8,8,8,8,8,8,8,8,8,8,8,8,8,8,8,8,8,8,8,8,8,8,8,8,8,8,8,8,8,8,8,8,8,8,8]⟩),e] fun e=>
 W8 .i64 e fun e=>
 D10 .add b.b e fun b=>
 Rt b c d k))
def F129:Prop:=
 Y2 Tryz.prog 114 [a0] H nx fun b c d=>
 D10 .sub (.int .i64 32) b fun b=>
 Rt b c d k
def F118:Prop:=
 R4 a1 0 H fun b=>
 D10 .sub b i1 fun c=>
 U6 a1 c H fun _ c=>
 Y2 Tryz.prog 129 [c] H nx fun c d e=>
 W8 .u64 c fun c=>
 Y2 Tryz.prog 130 [a1,c] d e fun d e f=>
 wSl d 1 none (some b) none e fun d=>
 Y2 Tryz.prog 130 [a0,c] e f fun e f g=>
 R4 a0 0 f fun h=>
 D10 .sub h b fun h=>
 D10 .add h i1 fun h=>
 G29 h h [.int .u32 0] f g fun f g h=>
 R4 a0 0 g fun i=>
 D10 .sub i b fun i=>
 G3 (fun g h i j=>
 D10 .geq h.a i0 fun l=>
 K2 l (
 D10 .add h.a b fun b=>
 D10 .add b i1 fun b=>
 wSl e 1 (some h.a) (some b) none i fun b=>
 Y2 Tryz.prog 131 [b,d] i j fun c e i=>
 V4 (fun f=>
 Y2 Tryz.prog 132 [b,d,c] e i fun e g h=>
 K2 e (
 D10 .sub c (.int .u64 1) fun c=>
 Y2 Tryz.prog 133 [b,d] g h fun _ b d=>
 f [c] b d) (
 f [c] g h)) (fun b c d=>
 W8 .u32 b.a fun b=>
 M3 f h.a none 1 fun e=>
 D5 e b 1 c fun b=>
 D10 .sub h.a i1 fun c=>
 g [c] b d)) (
 wSl e 1 none (some b) none i fun b=>
 Y2 Tryz.prog 134 [b,c] i j fun b c d=>
 Rt (.tuple ⟨[f,b]⟩) c d k)) [i] g h
def F104:Prop:=
 Y2 Tryz.prog 111 [a0] H nx fun b c d=>
 Y2 Tryz.prog 111 [a1] c d fun c d e=>
 R4 c 0 d fun f=>
 D10 .eql f i0 fun f=>
 K2 f (
 Rt (.tuple ⟨[(.slice none 0 0),(.slice none 0 0),(.int .i64 18)]⟩) d e k) (
 Y2 Tryz.prog 97 [b,c] d e fun d e f=>
 D10 .lss d i0 fun d=>
 K2 d (
 Y2 Tryz.prog 113 [b] e f fun b c d=>
 Rt (.tuple ⟨[(.slice none 0 0),b,i0]⟩) c d k) (
 R4 c 0 e fun d=>
 D10 .eql d i1 fun d=>
 K2 d (
 Y2 Tryz.prog 113 [b] e f fun b d e=>
 U6 c i0 d fun _ c=>
 Y2 Tryz.prog 117 [b,c] d e fun c d e=>
 Y2 Tryz.prog 111 [b] d e fun b d e=>
 W8 .u64 c fun c=>
 Y2 Tryz.prog 101 [c] d e fun c d e=>
 Rt (.tuple ⟨[b,c,i0]⟩) d e k) (
 Y2 Tryz.prog 118 [b,c] e f fun b c d=>
 G9 b 0 fun e=>
 G9 b 1 fun b=>
 Y2 Tryz.prog 111 [e] c d fun c d e=>
 Y2 Tryz.prog 111 [b] d e fun b d e=>
 Rt (.tuple ⟨[c,b,i0]⟩) d e k)))
def F102:Prop:=
 Y2 Tryz.prog 111 [a0] H nx fun b c d=>
 R4 b 0 c fun e=>
 D10 .eql e i0 fun e=>
 K2 e (
 Rt i0 c d k) (
 R4 b 0 c fun e=>
 D10 .sub e i1 fun e=>
 D10 .mul (.int .i64 32) e fun e=>
 R4 b 0 c fun f=>
 D10 .sub f i1 fun f=>
 U6 b f c fun _ b=>
 Y2 Tryz.prog 114 [b] c d fun b c d=>
 D10 .add e b fun b=>
 Rt b c d k)
def F116:Prop:=
 Y2 Tryz.prog 111 [a0] H nx fun b c d=>
 R4 b 0 c fun e=>
 D10 .gtr e (.int .i64 2) fun e=>
 K2 e (
 Rt (.tuple ⟨[(.int .u64 0),bF]⟩) c d k) (
 R4 b 0 c fun e=>
 G3 (fun c d f g=>
 D10 .lss d.b e fun e=>
 K2 e (
 U6 b d.b f fun _ b=>
 W8 .u64 b fun b=>
 D10 .mul (.int .i64 32) d.b fun e=>
 D10 .shl b e fun b=>
 D10 .or d.a b fun b=>
 D10 .add d.b i1 fun d=>
 c [b,d] f g) (
 Rt (.tuple ⟨[d.a,bT]⟩) f g k)) [(.int .u64 0),i0] c d)
variable {a0 a1 a2 H nx k}
theorem spec92:F92 a0 H nx k->Q2 Tryz.prog 92 [a0] H nx k:=Q12 [] [] []
theorem spec128:F128 a0 H nx k->Q2 Tryz.prog 128 [a0] H nx k:=Q12 [] [] []
theorem spec69:F69 a0 a1 H nx k->Q2 Tryz.prog 69 [a0,a1] H nx k:=Q12 [] [] []
theorem spec112:F112 a0 a1 H nx k->Q2 Tryz.prog 112 [a0,a1] H nx k:=Q12 [] [] []
theorem spec113:F113 a0 H nx k->Q2 Tryz.prog 113 [a0] H nx k:=Q12 [] [] []
theorem spec111:F111 a0 H nx k->Q2 Tryz.prog 111 [a0] H nx k:=Q12 [(4,[15])] [[3]] [.one (.tst (.one .nil) (.one .nil))]
theorem spec101:F101 a0 H nx k->Q2 Tryz.prog 101 [a0] H nx k:=Q12 [] [] []
theorem spec100:F100 a0 H nx k->Q2 Tryz.prog 100 [a0] H nx k:=Q12 [] [] []
theorem spec97:F97 a0 a1 H nx k->Q2 Tryz.prog 97 [a0,a1] H nx k:=Q12 [] [[5]] []
theorem spec145:F145 a0 a1 H nx k->Q2 Tryz.prog 145 [a0,a1] H nx k:=Q12 [(2,[0,1]),(13,[6])] [[6,25]] []
theorem spec146:F146 a0 a1 H nx k->Q2 Tryz.prog 146 [a0,a1] H nx k:=Q12 [(14,[9])] [[7,23]] []
theorem spec98:F98 a0 a1 H nx k->Q2 Tryz.prog 98 [a0,a1] H nx k:=Q12 [] [[21],[7,26]] []
theorem spec117:F117 a0 a1 H nx k->Q2 Tryz.prog 117 [a0,a1] H nx k:=Q12 [] [[5,6]] []
theorem spec130:F130 a0 a1 H nx k->Q2 Tryz.prog 130 [a0,a1] H nx k:=Q12 [] [[6,14]] []
theorem spec134:F134 a0 a1 H nx k->Q2 Tryz.prog 134 [a0,a1] H nx k:=Q12 [] [[6,7]] []
theorem spec131:F131 a0 a1 H nx k->Q2 Tryz.prog 131 [a0,a1] H nx k:=Q12 [(7,[61])] [[7,8]] [.one (.tst (.one .nil) (.one .nil))]
theorem spec132:F132 a0 a1 a2 H nx k->Q2 Tryz.prog 132 [a0,a1,a2] H nx k:=Q12 [] [[7,8,14]] []
theorem spec133:F133 a0 a1 H nx k->Q2 Tryz.prog 133 [a0,a1] H nx k:=Q12 [] [[4,8]] []
theorem spec114:F114 a0 H nx k->Q2 Tryz.prog 114 [a0] H nx k:=Q12 [(1,[0,2]),(4,[0,2])] [] []
theorem spec129:F129 a0 H nx k->Q2 Tryz.prog 129 [a0] H nx k:=Q12 [] [] []
theorem spec118:F118 a0 a1 H nx k->Q2 Tryz.prog 118 [a0,a1] H nx k:=Q12 [(13,[13])] [[11]] []
theorem spec104:F104 a0 a1 H nx k->Q2 Tryz.prog 104 [a0,a1] H nx k:=Q12 [] [] []
theorem spec102:F102 a0 H nx k->Q2 Tryz.prog 102 [a0] H nx k:=Q12 [] [] []
theorem spec116:F116 a0 H nx k->Q2 Tryz.prog 116 [a0] H nx k:=Q12 [] [[4,13]] []
end
end Go.Proofs.YtoiioigihocgbaaGreatDoor
namespace Go.Clo
def SK(H:Y0)(nx:Nat)(A:Option Addr):Prop:=A=none\/∃ b o row,A=some ⟨b,o,none⟩/\b<nx/\(J0 H b=some (.rom row)\/∃ sl,(sl=0\/sl=1)/\J0 H b=some (.cells row sl))
theorem SK.ext{H:Y0}{nx:Nat}{A:Option Addr}{H':Y0}{nx':Nat}(h:SK H nx A)(e:D0 H nx H' nx'):SK H' nx' A:=by
 rcases h with h | ⟨b,o,row,h1,h2,h3⟩
 .exact .inl h
 .exact .inr ⟨b,o,row,h1,aO h2 e.le,by rw[e.get b h2];exact h3⟩
theorem SK.has{H:Y0}{nx:Nat}{A:Option Addr}(h:SK H nx A):Has H nx A:=by
 rcases h with h | ⟨b,o,row,h1,h2,h3 | ⟨sl,_,h3⟩⟩
 .exact .inl h
 .exact .inr ⟨b,o,row,h1,h2,by rw[Q5,h3];rfl⟩
 .exact .inr ⟨b,o,row,h1,h2,by rw[Q5,h3];rfl⟩
theorem SK.new{H:Y0}{nx b o:Nat}{row:List Value}(hb:b<nx)(hg:J0 H b=some (.cells row 0)):SK H nx (some ⟨b,o,none⟩) := .inr ⟨b,o,row,rfl,hb,.inr ⟨0,.inl rfl,hg⟩⟩
theorem SK.app{H:Y0}{nx b o:Nat}{row:List Value}(hb:b<nx)(hg:J0 H b=some (.cells row 1)):SK H nx (some ⟨b,o,none⟩) := .inr ⟨b,o,row,rfl,hb,.inr ⟨1,.inr rfl,hg⟩⟩
theorem X92{A:Option Addr}{n c h:Nat}(hh:h<=c)(E:Bool):B26 A n c 1 none (some (.int .i64 (h:Int))) (some (.int .i64 (h:Int))) E=some (.slice A h h):=by
 have hb:Y13 (some (.int .i64 (h:Int))) c=some h:=by
  show(match (cD .i64 (Int.ofNat h)) with | .int _ (.ofNat i)=>cond (dD i c) (some i) none | _=>none)=_;simp[V6 hh]
 have J:hiA (some (.int .i64 (h:Int))) (some (.int .i64 (h:Int))) n h=some h:=by
  show Y13 (some (.int .i64 (h:Int))) h=some h;show(match (cD .i64 (Int.ofNat h)) with | .int _ (.ofNat i)=>cond (dD i h) (some i) none | _=>none)=_;simp[V6 (aD h)]
 simp only[B26,hb,J]
 cases A with
 | none=>simp[loA]
 | some a=>
  obtain⟨b,o,s⟩:=a;simp[loA,V6 (Nat.zero_le h)]
theorem Z103{H:Y0}{nx:Nat}{A:Option Addr}{n c h:Nat}(hk:SK H nx A)(hh:h<=c)(k:VP):wSl (.slice A n c) 1 none (some (.int .i64 (h:Int))) (some (.int .i64 (h:Int))) H k=k (.slice A h h):=by
 unfold wSl;rcases hk with rfl | ⟨b,o,row,rfl,_,hg⟩
 .dsimp only
  rw[X92 hh];exact E7 _ _
 .dsimp only
  rw[Y4];have hl:∃ blk l,J0 H b=some blk/\N8 blk o c 1=some l:=by
   rcases hg with hg | ⟨sl,hsl | hsl,hg⟩
   .exact⟨_,false,hg,rfl⟩
   .subst hsl;exact⟨_,false,hg,rfl⟩
   .subst hsl
    exact⟨_,bR (o+c*1) row.length,hg,rfl⟩
  obtain⟨blk,l,hg,hl⟩:=hl;rw[hg];simp only[aN,slB];rw[hl];simp only[X92 hh];exact E7 _ _
structure Dg (H:Y0) (nx:Nat) (A:Option Addr) (c:Nat) (ds:List Nat):Prop where
 sl:Sl H nx A (K12 ds)
 sk:SK H nx A
 small:U14 ds
 le:ds.length<=c
theorem Dg.ext{H:Y0}{nx:Nat}{A:Option Addr}{c:Nat}{ds:List Nat}{H':Y0}{nx':Nat}(h:Dg H nx A c ds)(e:D0 H nx H' nx'):Dg H' nx' A c ds:=⟨h.sl.ext e,h.sk.ext e,h.small,h.le⟩
theorem Sl.pre{H:Y0}{nx:Nat}{A:Option Addr}{l:List Value}(h:Sl H nx A l)(n:Nat):Sl H nx A (l.take n):=fun i v hv=>h i v (by
 rw[aX] at hv
 split at hv
 .exact hv
 .cases hv)
theorem Q91(ds:List Nat)(n:Nat):K12 (ds.take n)=(K12 ds).take n:=by simp[K12,List.map_take]
theorem Dg.trim {H : Y0} {nx : Nat} {A : Option Addr} {c : Nat} {ds : List Nat} (h : Dg H nx A c ds) : Dg H nx A (D11 (val ds)).length (D11 (val ds)) :=
  ⟨by have := h.sl.pre (D11 (val ds)).length
      rwa [<- Q91, Z86 h.small] at this, h.sk, B25 _, Nat.le_refl _⟩
def NN(H:Y0)(nx:Nat)(v:Value)(n:Nat):Prop:=∃ A c,v = .slice A (D11 n).length c/\Dg H nx A c (D11 n)
theorem NN.ext{H:Y0}{nx:Nat}{v:Value}{n:Nat}{H':Y0}{nx':Nat}(h:NN H nx v n)(e:D0 H nx H' nx'):NN H' nx' v n:=let ⟨A,c,h1,h2⟩:=h;⟨A,c,h1,h2.ext e⟩
theorem Y90(H:Y0)(nx:Nat):NN H nx (.slice none 0 0) 0:=⟨none,0,by rw[D20];rfl,by rw[D20];exact⟨Sl.nil _ _ _,.inl rfl,X84,aD _⟩⟩
end Go.Clo
namespace Go.Proofs.YtoiioigihocgbaaGreatDoor
open Go.Clo
theorem R86{A:Option Addr}{c:Nat}{ds:List Nat}{H:Y0}{nx:Nat}(h:Dg H nx A c ds)(hl:ds.length<1152921504606846976):
  Q2 Tryz.prog 111 [.slice A ds.length c] H nx fun v H' nx' => .slice A (D11 (val ds)).length (D11 (val ds)).length=v/\H=H'/\nx=nx':=by
 refine spec111 ?_;unfold F111;have a0:=N92 h.small;simp(disch:=first|omega|assumption)only[W0];refine B1 (m:=ds.length) (fun m L H' nx'=>∃ i:Nat,m=i/\L=[.int .i64 (i:Int)]/\i<=ds.length/\(D11 (val ds)).length<=i/\H=H'/\nx=nx') ?_ ⟨ds.length,rfl,rfl,aD _,a0,rfl,rfl⟩;rintro m ih L _ _ ⟨i,hm,rfl,hi,hd,rfl,rfl⟩ a2;simp only[N13]
 by_cases h0:0<i
 .have O:(0:Int)<(i:Int):=by omega
  obtain⟨d,E⟩:∃ d,ds[i-1]? = some d:=⟨_,aE (by omega)⟩
  obtain⟨b,o,row,rfl,hb,Q,hg⟩:=h.sl.open (i:=i-1) (by rw[E1];omega);have g0:=hg _ _ (Q3 E);have e1:((i:Int)-1).toNat=i-1:=by omega
  simp(disch:=first|omega|assumption)only[W0,O,e1,X3 Q,g0]
  by_cases hz:d=0
  .subst hz
   simp(disch:=first|omega|assumption)only[W0];refine a2 (i-1) _ _ _ (by omega) ⟨i-1,rfl,by congr 2;omega,by omega,?_,rfl,rfl⟩;rcases aW (i-1) (D11 (val ds)).length with g | g
   .exfalso
    have U:0<val ds:=by
     rcases cI (val ds) with e | e
     .rw[e,D20] at g;simp at g
     .exact e
    obtain⟨d,Z,hp,_⟩:=U76 U;have e3:(D11 (val ds)).length-1=i-1:=by omega
    rw[e3] at Z;have V:(ds.take (D11 (val ds)).length)[i-1]? = some d:=by rw[Z86 h.small];exact Z
    rw[aX,if_pos g,E] at V;have:=fA V;omega
   .exact g
  .have a1:¬ (d:Int)=0:=by omega
   have J:i=(D11 (val ds)).length:=by
    rcases aW (i-1) (D11 (val ds)).length with g | g
    .omega
    .exact absurd (V96 h.small g E) hz
   simp(disch:=first|omega|assumption)only[W0,hz,J,Z103 h.sk (show(D11 (val ds)).length<=c by have:=h.le;omega)]
 .have O:¬ (0:Int)<(i:Int):=by omega
  have J:i=(D11 (val ds)).length:=by omega
  have W:¬ (0:Int)<((D11 (val ds)).length:Int):=by omega
  simp(disch:=first|omega|assumption)only[W0,W,J,Z103 h.sk (show(D11 (val ds)).length<=c by have:=h.le;omega)]
end Go.Proofs.YtoiioigihocgbaaGreatDoor
namespace Go.Clo
theorem Q75{a:Nat}(h:a<18446744073709551616):IntKind.u64.wrap (a:Int)=(a:Int):=by
 simp only[eY,eK,dW];simp;omega
theorem K108(a:Nat):IntKind.u64.wrap (a:Int)=((a%18446744073709551616:Nat):Int):=by
 simp only[eY,eK,dW];simp
theorem N96(a:Nat):eW.wrap (a:Int)=((a%4294967296:Nat):Int):=by
 simp only[eY,eK,dW];simp
section
variable {a b:Nat} (k:VP)
theorem B74(h:a+b<18446744073709551616):D10 .add (.int .u64 (a:Int)) (.int .u64 (b:Int)) k=k (.int .u64 ((a+b:Nat):Int)):=by
 rw[Z63,<- Int.natCast_add,Q75 h]
theorem U85(h:a*b<18446744073709551616):D10 .mul (.int .u64 (a:Int)) (.int .u64 (b:Int)) k=k (.int .u64 ((a*b:Nat):Int)):=by
 rw[B82,<- Int.natCast_mul,Q75 h]
theorem Z76(ha:a<18446744073709551616)(hb:b<18446744073709551616):D10 .sub (.int .u64 (a:Int)) (.int .u64 (b:Int)) k=k (.int .u64 (((a+18446744073709551616-b)%18446744073709551616:Nat):Int)):=by
 rw[R11];congr 2;simp only[eY,eK,dW];simp;omega
theorem G34(n:Nat)(K:IntKind):W8 .u32 (.int K (n:Int)) k=k (.int .u32 ((n%4294967296:Nat):Int)):=by rw[Z32,N96]
theorem U22{n:Nat}(h:n<18446744073709551616)(K:IntKind):W8 .u64 (.int K (n:Int)) k=k (.int .u64 (n:Int)):=by rw[Z32,Q75 h]
theorem R90{n:Nat}{K:IntKind}(ha:a<18446744073709551616):D10 .shr (.int .u64 (a:Int)) (.int K (n:Int)) k=k (.int .u64 ((a/2^n:Nat):Int)):=by
 rw[X6];have hn:¬ (n:Int)<0:=by omega
 simp only[R9,N4,C18,cond_true,hn,if_false,aN,dW];congr 2;have e:((2:Int)^min ((n:Int)).toNat 64)=((2^min n 64:Nat):Int):=by simp
 rw[e,Int.fdiv_eq_ediv_of_nonneg _ (Int.natCast_nonneg _),<- Int.natCast_ediv];congr 1
 by_cases h:n<=64
 .rw[Nat.min_eq_left h]
 .rw[Nat.min_eq_right (by omega),Nat.div_eq_of_lt (by simpa using ha),Nat.div_eq_of_lt (aO ha (by
   have:=aK (n:=2) (by omega) (show 64<=n by omega);simpa using this))]
theorem D74(ha:a<18446744073709551616):D10 .shr (.int .u64 (a:Int)) (.int .u64 32) k=k (.int .u64 ((a/4294967296:Nat):Int)):=R90 (n:=32) k ha
theorem X85(ha:a<18446744073709551616):D10 .shr (.int .u64 (a:Int)) (.int .u64 63) k=k (.int .u64 ((a/9223372036854775808:Nat):Int)):=R90 (n:=63) k ha
end
theorem M27{n:Nat}(h:n<=1000000)(z:List Value)(k:List Value->Nat->Nat->Prop):D30 (.int .i64 (n:Int)) (.int .i64 (n:Int)) z k=k (Q19 z n) n n:=by
 show cond (dD n n&&dD n 1000000) (spine (Q19 z n) fun cs=>k cs n n) False=_;rw[V6 (aD n),V6 h];exact V14 _ _
theorem C23(n:Nat):Q19 [cD .u32 0] n=K12 (aF n 0):=by
 induction n with
 | zero=>rfl
 | succ n ih=>rw[Q19,ih,List.replicate_succ];rfl
theorem D78:∀ l:List Nat,Z0 (K12 l)=true
 | []=>rfl
 | x :: l=>D78 l
theorem R89{H:Y0}{nx b size bytes m:Nat}{x:Value}{l:List Value}(hg:J0 H b=some (.cells [] 0))(hx:Src H size x m l)(hm:0<m)(ho:Z0 l=true)(J:(2*m+1000)*bytes<=281474976710656)(Q:m<=1000000000)(k:EP):
  B5 (.slice (some ⟨b,0,none⟩) 0 0) x size bytes H nx k=k (.slice (some ⟨nx,0,none⟩) m m) (hs H nx (some (.cells l size))) (nx+1):=by
 unfold B5 Z22;rw[hx.len];dsimp only;rw[cF,G1,V6 J,V6 Q];simp only[Bool.and_self,cond_true];rw[hx.first,ho,E27 hm];simp only[cond_true,cond_false];have E:∀ k:List Value->Prop,Z5 H size 0 (.slice (some ⟨b,0,none⟩) 0 0) False k=k []:=by
  intro k;unfold Z5 B19;dsimp only;rw[Y4,hg];simp only[aN,Nat.zero_mul,G5];exact V14 _ _
 rw[E,V14,eR,hx.size,D13];simp only[cond_true,D22];rw[Y4,hg];have O:N8 (.cells [] 0) 0 0 size=some false:=rfl;simp only[aN,O,K11];rw[G1,G1,G4]
theorem U96{H:Y0}{nx b size bytes:Nat}{x:Value}(hg:J0 H b=some (.cells [] 0))(hx:Src H size x 0 [])(E:(2*0+1000)*bytes<=281474976710656)(k:EP):
  B5 (.slice (some ⟨b,0,none⟩) 0 0) x size bytes H nx k=k (.slice (some ⟨b,0,none⟩) 0 0) (hs H b (some (.cells [] 0))) nx:=by
 unfold B5 Z22;rw[hx.len];dsimp only;rw[cF,G1,V6 E,V6 (show 0<=1000000000 by omega)];simp only[Bool.and_self,cond_true];rw[hx.first];simp only[Z0,cond_true,V6 (aD 0),C42];rw[G1,J30,hg];simp[stP,B12]
theorem N83(e:TypeId)(a:Addr)(n c:Nat)(k:VP):D9 (.eqn false (.slice e)) [.slice (some a) n c,.slice none 0 0] k=k (.bool false):=by
 have h:VF.ev (.eqn false (.slice e)) [.slice (some a) n c,.slice none 0 0]=some (.bool false):=rfl;unfold D9;rw[h,J8];rfl
theorem W94(e:TypeId)(n c:Nat)(k:VP):D9 (.eqn false (.slice e)) [.slice none n c,.slice none 0 0] k=k (.bool true):=by
 have h:VF.ev (.eqn false (.slice e)) [.slice none n c,.slice none 0 0]=some (.bool true):=rfl;unfold D9;rw[h,J8];rfl
theorem Dg.self{A:Option Addr}{c n:Nat}{H:Y0}{nx:Nat}(h:Dg H nx A c (D11 n)):Dg H nx A (D11 n).length (D11 n):=⟨h.sl,h.sk,h.small,aD _⟩
theorem Z88(k:List Value->Prop)(z:List Value):K6 0 1 z [] k=k []:=rfl
end Go.Clo
namespace Go.Proofs.YtoiioigihocgbaaGreatDoor
open Go.Clo
theorem Y69{A:Option Addr}{c n:Nat}{H:Y0}{nx:Nat}(h:Dg H nx A c (D11 n))(hl:(D11 n).length<1000000):
  Q2 Tryz.prog 111 [.slice A (D11 n).length c] H nx fun v H' nx' => .slice A (D11 n).length (D11 n).length=v/\H=H'/\nx=nx':=by
 have:=R86 h (by omega);rwa [V20] at this
theorem D95{b c:Nat}{ds:List Nat}{H:Y0}{nx:Nat}(hb:b<nx)(hg:J0 H b=some (.cells (K12 ds) 0))(hs:U14 ds)(hl:ds.length<10000000)(hc:ds.length<=c):
  Q2 Tryz.prog 111 [.slice (some ⟨b,0,none⟩) ds.length c] H nx fun v H' nx'=>NN H' nx' v (val ds)/\H=H'/\nx=nx':=by
 have hD:Dg H nx (some ⟨b,0,none⟩) c ds:=⟨fun i v h=>⟨b,0,_,rfl,hb,by rw[Q5,hg];rfl,by rw[cF];exact h⟩,SK.new hb hg,hs,hc⟩
 refine(R86 hD (by omega)).mono ?_;rintro _ _ _ ⟨rfl,rfl,rfl⟩;exact⟨⟨_,_,rfl,hD.trim⟩,rfl,rfl⟩
theorem U84{b c L:Nat}{ds:List Nat}{H:Y0}{nx:Nat}(hb:b<nx)(hg:J0 H b=some (.cells (K12 ds) 0))(hs:U14 ds)(hL:ds.length=L)(hl:L<10000000)(hc:L<=c){n:Nat}(hn:val ds=n):
  Q2 Tryz.prog 111 [.slice (some ⟨b,0,none⟩) L c] H nx fun v H' nx'=>NN H' nx' v n/\H=H'/\nx=nx':=by
 subst hL;subst hn;exact D95 hb hg hs hl hc
theorem R81{n:Nat}(hn:n<18446744073709551616)(H:Y0)(nx:Nat):Q2 Tryz.prog 101 [.int .u64 (n:Int)] H nx fun v H' nx'=>NN H' nx' v n/\D0 H nx H' nx':=by
 refine spec101 ?_;unfold F101;simp only[W1];rw[G34,D74 _ hn,G34];have e1:n/4294967296%4294967296=n/4294967296:=bV (by omega);rw[e1];have e2:∀ k,K6 2 1 [cD .u32 0] [(0,.int .u32 ((n%4294967296:Nat):Int)),(1,.int .u32 ((n/4294967296:Nat):Int))] k=k (K12 [n%4294967296,n/4294967296]):=fun k=>rfl
 rw[e2,Q37];have hE:D0 H nx (hs H nx (some (.cells (K12 [n%4294967296,n/4294967296]) 0))) (nx+1):=(D0.refl H nx).new _ (aD _) (by omega);refine R0 (D95 (c:=2) (ds:=[n%4294967296,n/4294967296]) (Nat.lt_succ_self nx) (Z11 _ _ _) (B77.2 ⟨by omega,B77.2 ⟨by omega,X84⟩⟩) (by simp) (by simp)) ?_;rintro v _ _ ⟨hv,rfl,rfl⟩;simp only[Y5];refine⟨?_,hE⟩;have:val [n%4294967296,n/4294967296]=n:=by simp only[val];omega
 rwa [this] at hv
theorem Y95{A:Option Addr}{n:Nat}{H:Y0}{nx:Nat}(h:Dg H nx A (D11 n).length (D11 n))(hl:(D11 n).length<1000000):
  Q2 Tryz.prog 113 [.slice A (D11 n).length (D11 n).length] H nx fun v H' nx'=>NN H' nx' v n/\D0 H nx H' nx':=by
 refine spec113 ?_;unfold F113
 cases A with
 | none=>
  have h0:(D11 n).length=0:=by
   rcases cI (D11 n).length with e | e
   .exact e
   .obtain⟨b,o,row,e1,_⟩:=h.sl.open (i:=0) (by rw[E1];exact e)
    cases e1
  have hn:=M65.1 h0;subst hn;rw[W94];simp(disch:=first|omega|assumption)only[W0,Q0.val];exact⟨Y90 _ _,D0.refl _ _⟩
 | some a=>
  obtain⟨b,o,row,ha,hb,_⟩:∃ b o row,some a=some ⟨b,o,none⟩/\b<nx/\Q5 H b=some row:=by
   rcases h.sk.has with e | e
   .cases e
   .exact e
  cases ha
  rw[N83];simp(disch:=first|omega|assumption)only[W0,Q0.val,Z88];have hE:D0 H nx (hs H nx (some (.cells [] 0))) (nx+1):=(D0.refl H nx).new _ (aD _) (by omega);have E:Src (hs H nx (some (.cells [] 0))) 1 (.slice (some ⟨b,o,none⟩) (D11 n).length (D11 n).length) (D11 n).length (K12 (D11 n)):=C27 (h.sl.ext hE) (h.sk.has.ext hE) (by rw[E1,eQ]) (by omega)
  by_cases h0:(D11 n).length=0
  .have hn:=M65.1 h0
   subst hn;rw[D20] at E;rw[D20];rw[List.length_nil] at *
   rw[U96 (Z11 _ _ _) E (by omega)];refine⟨⟨some ⟨nx,0,none⟩,0,by rw[D20];rfl,by rw[D20];exact⟨Sl.nil _ _ _,SK.new (by omega) (Z11 _ _ _),X84,aD _⟩⟩,hE.hs (aD _)⟩
  .rw[R89 (Z11 _ _ _) E (by omega) (D78 _) (by omega) (by omega)]
   have J:=hE.new (some (.cells (K12 (D11 n)) 1)) (i:=nx+1) (m:=nx+1+1) (by omega) (by omega);exact⟨⟨_,_,rfl,⟨fun i v hv=>⟨nx+1,0,_,rfl,by omega,by rw[Q5,Z11];rfl,by rw[cF];exact hv⟩,SK.app (by omega) (Z11 _ _ _),B25 _,aD _⟩⟩,J⟩
theorem U97{v:Value}{n:Nat}{H:Y0}{nx:Nat}(h:NN H nx v n)(hl:(D11 n).length<1000000):Q2 Tryz.prog 100 [v] H nx fun v H' nx'=>NN H' nx' v n/\D0 H nx H' nx':=by
 obtain⟨A,c,rfl,hD⟩:=h;refine spec100 ?_;unfold F100;refine R0 (Y69 hD hl) ?_;rintro _ _ _ ⟨rfl,rfl,rfl⟩;refine R0 (Y95 hD.self hl) ?_;rintro v H' nx' h;simp only[J80,Y5];exact h
end Go.Proofs.YtoiioigihocgbaaGreatDoor
namespace Go.Clo
theorem V73{ds:List Nat}{i d:Nat}(h:ds[i]? = some d):val ds=val (ds.take i)+4294967296^i*(d+4294967296*val (ds.drop (i+1))):=by
 have hi:i<ds.length:=(aJ.1 h).1;have hd:ds[i]=d:=(aJ.1 h).2;have e:ds=ds.take i++d :: ds.drop (i+1):=by
  rw[<- hd];exact(List.take_append_drop i ds).symm.trans (by rw[List.drop_eq_getElem_cons hi])
 have h1:=G77 (ds.take i) (d :: ds.drop (i+1));rw[<- e] at h1;rw[h1,val,cK,Nat.min_eq_left (by omega)]
theorem K76{ds:List Nat}(h:U14 ds)(i:Nat):U14 (ds.take i):=fun e he=>h e (List.mem_of_mem_take he)
theorem N80{ds:List Nat}(h:U14 ds)(i:Nat):U14 (ds.drop i):=fun e he=>h e (fO he)
theorem Z48{ds:List Nat}(h:U14 ds)(i:Nat):val (ds.take i)<4294967296^i:=by
 have h1:=J95 (K76 h i);exact aO h1 (aK (by omega) (by simp;omega))
theorem C79{ds es:List Nat}{i x y:Nat}(hs:U14 ds)(hx:ds[i]? = some x)(hy:es[i]? = some y)(hd:ds.drop (i+1)=es.drop (i+1))(h:x<y):val ds<val es:=by
 rw[V73 hx,V73 hy,hd];have h1:=Z48 hs i;have h2:4294967296^i*(x+4294967296*val (es.drop (i+1))+1)<=4294967296^i*(y+4294967296*val (es.drop (i+1))):=bP _ (by omega);rw[bJ,eQ] at h2;omega
def X72(a b:Nat):Int:=if a<b then -1 else if b<a then 1 else 0
theorem X70{a b:Nat}(h:(D11 a).length<(D11 b).length):a<b:=by
 have h1:=Q68 a;have hb:0<b:=by
  rcases cI b with e | e
  .subst e;rw[D20] at h;simp at h
  .exact e
 have h2:=E84 hb;have h3:4294967296^(D11 a).length<=4294967296^((D11 b).length-1):=aK (by omega) (by omega);omega
theorem W100{a b:Nat}(h:D11 a=D11 b):a=b:=by rw[<- V20 a,h,V20]
end Go.Clo
namespace Go.Proofs.YtoiioigihocgbaaGreatDoor
open Go.Clo
theorem Y81(a b:Int)(H:Y0)(nx:Nat):Q2 Tryz.prog 69 [.int .i64 a,.int .i64 b] H nx fun v H' nx' => .int .i64 (if a<b then -1 else if b<a then 1 else 0)=v/\H=H'/\nx=nx':=by
 have hn:∀(x:Int) (H:Y0) (nx:Nat),Q2 Tryz.prog 92 [.int .i64 x] H nx fun v H' nx' => .bool false=v/\H=H'/\nx=nx':=by
  intro x H nx;refine spec92 ?_;unfold F92;have e:decide (x≠x)=false:=by simp
  simp(disch:=first|omega|assumption)only[W0,e]
 refine spec69 ?_;unfold F69;refine R0 (hn a H nx) ?_;rintro _ _ _ ⟨rfl,rfl,rfl⟩;refine R0 (hn b H nx) ?_;rintro _ _ _ ⟨rfl,rfl,rfl⟩
 by_cases h1:a<b
 .simp(disch:=first|omega|assumption)only[W0,h1]
 .by_cases h2:b<a
  .simp(disch:=first|omega|assumption)only[W0,h1,h2]
  .simp(disch:=first|omega|assumption)only[W0,h1,h2]
theorem W96(a b:Nat)(H:Y0)(nx:Nat):Q2 Tryz.prog 112 [.int .u32 (a:Int),.int .u32 (b:Int)] H nx fun v H' nx' => .int .i64 (X72 a b)=v/\H=H'/\nx=nx':=by
 have hn:∀(x:Int) (H:Y0) (nx:Nat),Q2 Tryz.prog 128 [.int .u32 x] H nx fun v H' nx' => .bool false=v/\H=H'/\nx=nx':=by
  intro x H nx;refine spec128 ?_;unfold F128;have e:decide (x≠x)=false:=by simp
  simp(disch:=first|omega|assumption)only[W0,e]
 refine spec112 ?_;unfold F112;refine R0 (hn a H nx) ?_;rintro _ _ _ ⟨rfl,rfl,rfl⟩;refine R0 (hn b H nx) ?_;rintro _ _ _ ⟨rfl,rfl,rfl⟩
 by_cases h1:a<b
 .have E:(a:Int)<(b:Int):=by omega
  simp(disch:=first|omega|assumption)only[W0,E,X72,h1]
 .have E:¬ (a:Int)<(b:Int):=by omega
  by_cases h2:b<a
  .have J:(b:Int)<(a:Int):=by omega
   simp(disch:=first|omega|assumption)only[W0,E,J,X72,h1,h2]
  .have J:¬ (b:Int)<(a:Int):=by omega
   simp(disch:=first|omega|assumption)only[W0,E,J,X72,h1,h2]
theorem M95{v w:Value}{a b:Nat}{H:Y0}{nx:Nat}(hv:NN H nx v a)(hw:NN H nx w b)(hl:(D11 a).length<1000000)(Q:(D11 b).length<1000000):
  Q2 Tryz.prog 97 [v,w] H nx fun r H' nx' => .int .i64 (X72 a b)=r/\D0 H nx H' nx':=by
 obtain⟨A,c,rfl,hA⟩:=hv;obtain⟨C,d,rfl,hC⟩:=hw;refine spec97 ?_;unfold F97;refine R0 (Y69 hA hl) ?_;rintro _ _ _ ⟨rfl,rfl,rfl⟩;refine R0 (Y69 hC Q) ?_;rintro _ _ _ ⟨rfl,rfl,rfl⟩
 by_cases a1:(D11 a).length=(D11 b).length
 case neg=>
  have e1:decide (((D11 a).length:Int)≠((D11 b).length:Int))=true:=decide_eq_true (by omega);simp(disch:=first|omega|assumption)only[W0,e1];refine R0 (Y81 _ _ _ _) ?_;rintro _ _ _ ⟨rfl,rfl,rfl⟩;refine⟨?_,D0.refl _ _⟩;unfold X72;rcases aW (D11 a).length (D11 b).length with g | g
  .rw[if_pos (X70 g),if_pos (by omega)]
  .have g2:=X70 (show(D11 b).length<(D11 a).length by omega)
   rw[if_neg (by omega),if_pos g2,if_neg (by omega),if_pos (by omega)]
 have e1:decide (((D11 a).length:Int)≠((D11 b).length:Int))=false:=decide_eq_false (by omega);simp(disch:=first|omega|assumption)only[W0,e1];refine B1 (m:=(D11 a).length) (fun m L H' nx'=>L=[.int .i64 ((m:Int)-1)]/\m<=(D11 a).length/\(D11 a).drop m=(D11 b).drop m/\D0 H nx H' nx') ?_ ⟨rfl,aD _,by rw[cM (aD _),cM (by omega)],D0.refl _ _⟩;rintro m ih L H2 nx2 ⟨rfl,hm,hd,hE⟩ Z
 by_cases h0:m=0
 .subst h0
  have e2:¬ (0:Int)<=((0:Nat):Int)-1:=by omega
  have e3:X72 a b=0:=by
   have:=W100 (a:=a) (b:=b) (by simpa using hd);subst this;unfold X72;simp
  simp(disch:=first|omega|assumption)only[W0,e2,e3];exact hE
 .have e2:(0:Int)<=(m:Int)-1:=by omega
  have e4:((m:Int)-1).toNat=m-1:=by omega
  obtain⟨x,hx⟩:∃ x,(D11 a)[m-1]? = some x:=⟨_,aE (by omega)⟩
  obtain⟨y,hy⟩:∃ y,(D11 b)[m-1]? = some y:=⟨_,aE (by omega)⟩
  obtain⟨bA,oA,V63,rfl,_,J,V⟩:=(hA.sl.ext hE).open (i:=m-1) (by rw[E1];omega);obtain⟨bC,oC,a0,rfl,_,E,U⟩:=(hC.sl.ext hE).open (i:=m-1) (by rw[E1];omega);have gA:=V _ _ (Q3 hx);have gC:=U _ _ (Q3 hy)
  by_cases W:x=y
  .subst W
   have e5:decide ((x:Int)≠(x:Int))=false:=by simp
   simp(disch:=first|omega|assumption)only[W0,e2,e4,X3 J,X3 E,gA,gC,e5];refine Z (m-1) _ _ _ (by omega) ⟨by congr 3;omega,by omega,?_,hE.more (by omega)⟩;rw[List.drop_eq_getElem_cons (by omega:m-1<(D11 a).length),List.drop_eq_getElem_cons (by omega:m-1<(D11 b).length),show m-1+1=m by omega,hd];congr 1;rw[aE (by omega)] at hx hy;exact(fA hx).trans (fA hy).symm
  .have e5:decide ((x:Int)≠(y:Int))=true:=decide_eq_true (by omega)
   simp(disch:=first|omega|assumption)only[W0,e2,e4,X3 J,X3 E,gA,gC,e5];refine R0 (W96 x y _ _) ?_;rintro _ _ _ ⟨rfl,rfl,rfl⟩;refine⟨?_,hE.more (by omega)⟩;have O:(D11 a).drop (m-1+1)=(D11 b).drop (m-1+1):=by rw[show m-1+1=m by omega];exact hd
   unfold X72;rcases aW x y with g | g
   .have:=C79 (B25 a) hx hy O g
    rw[V20,V20] at this;rw[if_pos this,if_pos g]
   .have:=C79 (B25 b) hy hx O.symm (show y<x by omega)
    rw[V20,V20] at this;rw[if_neg (by omega),if_pos this,if_neg (by omega),if_pos (by omega)]
end Go.Proofs.YtoiioigihocgbaaGreatDoor
namespace Go.Clo
def C14(n:Nat):Nat:=if n=0 then 0 else n.log2+1
theorem B80:C14 0=0:=rfl
theorem C76(n:Nat):n<2^C14 n:=by
 unfold C14
 split
 .rename_i h;subst h;simp
 .exact Nat.lt_log2_self
theorem E76{n:Nat}(h:0<n):2^(C14 n-1)<=n:=by
 unfold C14;rw[if_neg (by omega)];exact Nat.log2_self_le (by omega)
theorem C65{n:Nat}(h:0<n):0<C14 n:=by unfold C14;rw[if_neg (by omega)];omega
theorem Q85{a b:Nat}(h:2^a<2^b):a<b:=(Nat.pow_lt_pow_iff_right (by omega)).1 h
theorem M92 {n b:Nat} (h1:2^b<=n) (h2:n<2^(b+1)):C14 n=b+1:=by
 have h0:0<n:=Nat.lt_of_lt_of_le (Nat.two_pow_pos b) h1
 have a1:=C76 n
 have a2:=E76 h0
 have a3:=C65 h0
 have b1:b<C14 n:=Q85 (Nat.lt_of_le_of_lt h1 a1)
 have b2:C14 n-1<b+1:=Q85 (Nat.lt_of_le_of_lt a2 h2)
 omega
theorem E89{n:Nat}:C14 n=1<->n=1:=by
 constructor
 .intro h
  have h1:=C76 n;rw[h] at h1;have:n≠0:=fun e=>by rw[e] at h;cases h
  omega
 .rintro rfl;rfl
theorem N78{n k:Nat}(h:2^k<=n):C14 n=k+C14 (n/2^k):=by
 have hp:0<n/2^k:=Nat.div_pos h (aQ k);have a1:=C76 (n/2^k);have a2:=E76 hp;have a3:=C65 hp;have e:k+C14 (n/2^k)=(k+(C14 (n/2^k)-1))+1:=by omega
 rw[e];refine M92 ?_ ?_
 .rw[Nat.pow_add]
  exact bK (bP _ a2) (Nat.mul_div_le _ _)
 .rw[show k+(C14 (n/2^k)-1)+1=k+C14 (n/2^k) by omega,Nat.pow_add]
  rw[cG];exact(Nat.div_lt_iff_lt_mul (aQ k)).1 a1
def Y78:List UInt8:=[0,1,2,2,3,3,3,3,4,4,4,4,4,4,4,4,5,5,5,5,5,5,5,5,5,5,5,5,5,5,5,5,6,6,6,6,6,6,6,6,6,6,6,6,6,6,6,6,6,6,6,6,6,6,6,6,6,6,6,6,6,6,6,6]++aF 64 7++aF 128 8
theorem V105:∀ i,i<256->Y78[i]? = some (UInt8.ofNat (C14 i)):=by
 have h:((aY 256).all fun i=>decide (Y78[i]? = some (UInt8.ofNat (C14 i))))=true:=by decide +kernel
 intro i hi;have:=bW.1 h i (by simpa using hi);simpa using this
theorem X104 {s:ByteArray} (hs:s.data.toList=Y78) {i:Nat} (hi:i<256) (k:VP):D9 .sidx [.string s,.int .u8 (i:Int)] k=k (.int .u8 (C14 i:Int)):=by
 have hb:C14 i<256:=by
  have h1:=C76 i
  rcases Nat.eq_zero_or_pos i with e | e
  .subst e;simp[C14]
  .have h2:=E76 e
   have:C14 i-1<8:=Q85 (Nat.lt_of_le_of_lt h2 hi)
   omega
 have hg:s.data[i]? = some (UInt8.ofNat (C14 i)):=by
  rw[<- Array.getElem?_toList,hs];exact V105 i hi
 have h:VF.ev .sidx [.string s,.int .u8 (i:Int)]=some (.int .u8 (C14 i:Int)):=by
  show J52 s (i:Int)=_
  unfold J52
  have e:s[((i:Int)).toNat]? = some (UInt8.ofNat (C14 i)):=by
   rw[Int.toNat_natCast,<- hg];rfl
  rw[if_pos (by omega),e]
  simp only[Option.map_some]
  congr 2
  show ((UInt8.ofNat (C14 i)).toNat:Int)=_
  have:(UInt8.ofNat (C14 i)).toNat=C14 i%256:=UInt8.toNat_ofNat'
  rw[this,Nat.mod_eq_of_lt (by omega)]
 unfold D9
 rw[h,J8];rfl
theorem G68{a:Nat}(h:a<256):IntKind.u8.wrap (a:Int)=(a:Int):=by
 simp only[eY,eK,dW];simp;omega
theorem D110{n:Nat}(h:n<256)(K:IntKind)(k:VP):W8 .u8 (.int K (n:Int)) k=k (.int .u8 (n:Int)):=by rw[Z32,G68 h]
theorem K69{n:Nat}(h:n<9223372036854775808)(K:IntKind)(k:VP):W8 .i64 (.int K (n:Int)) k=k (.int .i64 (n:Int)):=by rw[Z32,Y23 (by omega) (by omega)]
theorem V80 {n b:Nat} (h:n<2^b):C14 n<=b:=by
 rcases Nat.eq_zero_or_pos n with e | e
 .subst e;simp[C14]
 .have h2:=E76 e
  have h3:=C65 e
  have:C14 n-1<b:=Q85 (Nat.lt_of_le_of_lt h2 h)
  omega
end Go.Clo
namespace Go.Proofs.YtoiioigihocgbaaGreatDoor
open Go.Clo
theorem Z109{x:Nat}(hx:x<4294967296)(H:Y0)(nx:Nat)(k:EP)(hk:k (.int .i64 (C14 x:Int)) H nx):F114 (.int .u32 (x:Int)) H nx k:=by
 unfold F114;have c2:∀(y n:Nat),y<256->n+C14 y=C14 x->n<100->(W8 .u8 (.int .u32 (y:Int)) fun O=>D9 .sidx [(.string ⟨⟨Y78⟩⟩),O] fun E=>W8 .i64 E fun Q=>D10 .add (.int .i64 (n:Int)) Q fun J=>
   M0 J fun v=>k v H nx):=by
  intro y n hy hn W;have hb:=V80 (n:=y) (b:=8) (by omega);rw[D110 hy,X104 (s:=⟨⟨Y78⟩⟩) rfl hy,K69 (by omega),N32 _ _ _ (by omega) (by omega),Y5];rw[<- hn] at hk;exact hk
 have c1:∀(y n:Nat),y<65536->n+C14 y=C14 x->n<50->V4 (fun tj=>D10 .geq (.int .u32 (y:Int)) (.int .u32 256) fun t8=>K2 t8 (
    D10 .shr (.int .u32 (y:Int)) (.int .u64 8) fun V=>D10 .add (.int .i64 (n:Int)) (.int .i64 8) fun U=>tj [V,U] H nx) (tj [.int .u32 (y:Int),.int .i64 (n:Int)] H nx)) (fun tL H2 nx2=>
   W8 .u8 (tL.getD 0 undef) fun O=>D9 .sidx [(.string ⟨⟨Y78⟩⟩),O] fun E=>W8 .i64 E fun Q=>D10 .add (tL.getD 1 undef) Q fun J=>
   M0 J fun v=>k v H2 nx2):=by
  intro y n hy hn W;rw[N13]
  by_cases h:256<=y
  .have h':decide ((256:Int)<=(y:Int))=true:=decide_eq_true (by omega)
   have e:y >>> 8=y/2^8:=eO y 8;have s1:=fun k=>V15 (a:=y) (n:=8) (K := .u64) k (by omega)
   rw[M42,h',C46,if_pos rfl,show(.int .u64 8:Value) = .int .u64 ((8:Nat):Int) from rfl,s1,e,N32 _ _ _ (by omega) (by omega)];exact c2 (y/2^8) (n+8) (by omega) (by have:=N78 (n:=y) (k:=8) (by omega);omega) (by omega)
  .have h':decide ((256:Int)<=(y:Int))=false:=decide_eq_false (by omega)
   rw[M42,h',C46,if_neg (by simp)];exact c2 y n (by omega) hn (by omega)
 rw[N13]
 by_cases h:65536<=x
 .have h':decide ((65536:Int)<=(x:Int))=true:=decide_eq_true (by omega)
  have e:x >>> 16=x/2^16:=eO x 16;have s1:=fun k=>V15 (a:=x) (n:=16) (K := .u64) k hx
  rw[M42,h',C46,if_pos rfl,show(.int .u64 16:Value) = .int .u64 ((16:Nat):Int) from rfl,s1,e];exact c1 (x/2^16) 16 (by omega) (by have:=N78 (n:=x) (k:=16) (by omega);omega) (by omega)
 .have h':decide ((65536:Int)<=(x:Int))=false:=decide_eq_false (by omega)
  rw[M42,h',C46,if_neg (by simp)];exact c1 x 0 (by omega) (by omega) (by omega)
theorem K106{x:Nat}(hx:x<4294967296)(H:Y0)(nx:Nat):Q2 Tryz.prog 114 [.int .u32 (x:Int)] H nx fun v H' nx' => .int .i64 (C14 x:Int)=v/\H=H'/\nx=nx':=
 spec114 (Z109 hx H nx _ ⟨rfl,rfl,rfl⟩)
theorem M77{v:Value}{n:Nat}{H:Y0}{nx:Nat}(h:NN H nx v n)(hl:(D11 n).length<1000000):Q2 Tryz.prog 102 [v] H nx fun r H' nx' => .int .i64 (C14 n:Int)=r/\H=H'/\nx=nx':=by
 obtain⟨A,c,rfl,hD⟩:=h;refine spec102 ?_;unfold F102;refine R0 (Y69 hD hl) ?_;rintro _ _ _ ⟨rfl,rfl,rfl⟩
 by_cases h0:n=0
 .subst h0
  have e:decide (((D11 0).length:Int)=0)=true:=decide_eq_true (by rw[D20];rfl);simp(disch:=first|omega|assumption)only[W0,e,B80]
  rfl
 .have hp:0<n:=by omega
  obtain⟨d,hd,U,hL⟩:=U76 hp;have e:decide (((D11 n).length:Int)=0)=false:=decide_eq_false (by omega);have e2:(((D11 n).length:Int)-1).toNat=(D11 n).length-1:=by omega
  have E:=(B25 n).get hd;obtain⟨b,o,row,rfl,_,O,hg⟩:=hD.sl.open (i:=(D11 n).length-1) (by rw[E1];omega);have g0:=hg _ _ (Q3 hd);have hb:=V80 (n:=d) (b:=32) E;have em:∀ k:VP,D10 .mul (.int .i64 32) (.int .i64 (((D11 n).length:Int)-1)) k=k (.int .i64 (32*(((D11 n).length:Int)-1))):=fun k=>by rw[B82,Y23 (by omega) (by omega)]
  simp(disch:=first|omega|assumption)only[W0,e,e2,X3 O,g0,em];refine R0 (K106 E _ _) ?_;rintro _ _ _ ⟨rfl,rfl,rfl⟩;simp(disch:=first|omega|assumption)only[W0];have hs:=V73 hd;rw[V20] at hs;have Q:(D11 n).drop ((D11 n).length-1+1)=[]:=cM (by omega);rw[Q,val] at hs;have ht:=Z48 (B25 n) ((D11 n).length-1);have J:4294967296^((D11 n).length-1)=2^(32*((D11 n).length-1)):=by rw[Nat.pow_mul]
  have hn:C14 n=32*((D11 n).length-1)+C14 d:=by
   have h1:2^(32*((D11 n).length-1))<=n:=by
    have:=bP (4294967296^((D11 n).length-1)) (show 1<=d+4294967296*0 by omega);rw[J] at this hs;omega
   have h2:=N78 h1;have h3:n/2^(32*((D11 n).length-1))=d:=by
    rw[J] at ht hs;rw[Nat.mul_zero,eM] at hs;refine Nat.div_eq_of_lt_le ?_ ?_
    .rw[cG];omega
    .rw[dM,Nat.one_mul,cG d];omega
   rw[h3] at h2;exact h2
  rw[hn]
  push_cast
  congr 1;omega
end Go.Proofs.YtoiioigihocgbaaGreatDoor
namespace Go.Clo
theorem X99{ds:List Nat}{i d:Nat}(h:ds[i]? = some d):ds.take (i+1)=ds.take i++[d]:=by
 rw[List.take_add_one,h];rfl
theorem G20{ds:List Nat}{i d:Nat}(h:ds[i]? = some d):val (ds.take (i+1))=val (ds.take i)+4294967296^i*d:=by
 have hi:i<ds.length:=(aJ.1 h).1;rw[X99 h,G77,cK,Nat.min_eq_left (by omega),val,val];simp
theorem take_set{out:List Nat}{i x:Nat}:(out.set i x).take i=out.take i:=by
 apply dH;intro j;rw[aX,aX]
 split
 .rw[bL (by omega)]
 .rfl
theorem U72{out:List Nat}{i x:Nat}(h:i<out.length):val ((out.set i x).take (i+1))=val (out.take i)+4294967296^i*x:=by
 have hs:(out.set i x)[i]? = some x:=by rw[dG (by simpa using h)]
 rw[G20 hs,take_set]
theorem U39{out:List Nat}{i x:Nat}(h:U14 out)(hx:x<4294967296):U14 (out.set i x):=fun e he=>by
 rcases List.mem_or_eq_of_mem_set he with h1 | h1
 .exact h e h1
 .omega
theorem X25{ds:List Nat}{i:Nat}(h:ds.length<=i):ds.take i=ds:=gJ h
end Go.Clo
namespace Go.Proofs.YtoiioigihocgbaaGreatDoor
open Go.Clo
theorem K110{v w:Value}{a b:Nat}{H:Y0}{nx:Nat}(hv:NN H nx v a)(hw:NN H nx w b)(hl:(D11 a).length<500000)(a1:(D11 b).length<500000):
  Q2 Tryz.prog 145 [v,w] H nx fun r H' nx'=>NN H' nx' r (a+b)/\D0 H nx H' nx':=by
 obtain⟨A,c,rfl,hA⟩:=hv;obtain⟨C,d,rfl,hC⟩:=hw;refine spec145 ?_;unfold F145;refine R0 (Y69 hA (by omega)) ?_;rintro _ _ _ ⟨rfl,rfl,rfl⟩;refine R0 (Y69 hC (by omega)) ?_;rintro _ _ _ ⟨rfl,rfl,rfl⟩;refine N5 (fun L H' nx'=>∃ A ds C es,L=[.slice A ds.length ds.length,.slice C es.length es.length]/\Dg H nx A ds.length ds/\Dg H nx C es.length es/\es.length<=ds.length/\ds.length<500000/\val ds+val es=a+b/\H=H'/\nx=nx') ?_ ?_
 .intro tj hj
  by_cases h:(D11 a).length<(D11 b).length
  .have h':((D11 a).length:Int)<((D11 b).length:Int):=by omega
   simp(disch:=first|omega|assumption)only[W0,h'];exact hj _ _ _ ⟨C,D11 b,A,D11 a,rfl,hC.self,hA.self,by omega,a1,by rw[V20,V20];omega,rfl,rfl⟩
  .have h':¬ ((D11 a).length:Int)<((D11 b).length:Int):=by omega
   simp(disch:=first|omega|assumption)only[W0,h'];exact hj _ _ _ ⟨A,D11 a,C,D11 b,rfl,hA.self,hC.self,by omega,hl,by rw[V20,V20],rfl,rfl⟩
 rintro L _ _ ⟨A,ds,C,es,rfl,hA,hC,a9,hl,ae,rfl,rfl⟩;simp(disch:=first|omega|assumption)only[W0,Q0.val];rw[show((ds.length:Int)+1)=((ds.length+1:Nat):Int) by omega,M27 (by omega),C23];simp(disch:=first|omega|assumption)only[W0];have a3:D0 H nx (hs H nx (some (.cells (K12 (aF (ds.length+1) 0)) 0))) (nx+1):=(D0.refl H nx).new _ (aD _) (by omega);refine B1 (m:=ds.length) (fun m L H' nx'=>∃(i E:Nat) (out:List Nat),m+i=ds.length/\L=[.int .u64 (E:Int),.int .i64 (i:Int)]/\E<=1/\out.length=ds.length+1/\U14 out /\
  val (out.take i)+4294967296^i*E=val (ds.take i)+val (es.take i)/\J0 H' nx=some (.cells (K12 out) 0)/\D0 H nx H' nx'/\nx<nx') ?_ ⟨0,0,aF (ds.length+1) 0,rfl,rfl,by omega,by simp,R72 _,by simp[val],Z11 _ _ _,a3,by omega⟩
 rintro m ih L H1 a6 ⟨i,E,out,hm,rfl,ag,ah,Z,O,hg,hE,a0⟩ a8
 by_cases hi:i<ds.length
 case neg=>
  have U:¬ (i:Int)<(ds.length:Int):=by omega
  have aa:i=ds.length:=by omega
  subst aa;have e1:E%4294967296=E:=by omega
  simp(disch:=first|omega|assumption)only[W0,U,G34,e1,hg,E1,V10 (l:=out) (i:=ds.length) (x:=E) (show ds.length<out.length by omega),show ds.length+1<=out.length by omega];have W:val (out.set ds.length E)=a+b:=by
   have h1:=U72 (out:=out) (i:=ds.length) (x:=E) (by omega);rw[X25 (by simp;omega)] at h1;rw[X25 (aD ds.length),X25 a9] at O;omega
  refine R0 (U84 a0 (Z11 _ _ _) (U39 Z (by omega)) (by simp;omega) (by omega) (aD _) W) ?_;rintro v _ _ ⟨hv,rfl,rfl⟩;exact⟨hv,hE.hs (aD _)⟩
 have U:(i:Int)<(ds.length:Int):=by omega
 obtain⟨x,hx⟩:∃ x,ds[i]? = some x:=⟨_,aE hi⟩
 obtain⟨bA,oA,V63,rfl,_,V,a4⟩:=(hA.sl.ext hE).open (i:=i) (by rw[E1];omega);have gA:=a4 _ _ (Q3 hx);have ac:=hA.small.get hx;simp(disch:=first|omega|assumption)only[W0,U,X3 V,gA,U22 _ (show x<18446744073709551616 by omega),B74 _ (show E+x<18446744073709551616 by omega)];refine N5 (fun L H' nx'=>∃ s:Nat,L=[.int .u64 (s:Int)]/\s<8589934592/\val (ds.take (i+1))+val (es.take (i+1))=val (out.take i)+4294967296^i*s/\H1=H'/\a6=nx') ?_ ?_
 .intro tj hj
  by_cases a5:i<es.length
  .have J:(i:Int)<(es.length:Int):=by omega
   obtain⟨y,hy⟩:∃ y,es[i]? = some y:=⟨_,aE a5⟩
   obtain⟨bC,oC,ab,rfl,_,Q,a2⟩:=(hC.sl.ext hE).open (i:=i) (by rw[E1];omega);have gC:=a2 _ _ (Q3 hy);have ad:=hC.small.get hy;simp(disch:=first|omega|assumption)only[W0,J,X3 Q,gC,U22 _ (show y<18446744073709551616 by omega),B74 _ (show E+x+y<18446744073709551616 by omega)];refine hj _ _ _ ⟨E+x+y,rfl,by omega,?_,rfl,rfl⟩;rw[G20 hx,G20 hy,bJ,bJ];omega
  .have J:¬ (i:Int)<(es.length:Int):=by omega
   simp(disch:=first|omega|assumption)only[W0,J];refine hj _ _ _ ⟨E+x,rfl,by omega,?_,rfl,rfl⟩;rw[X25 (ds:=es) (by omega)] at O;rw[G20 hx,X25 (ds:=es) (by omega),bJ];omega
 rintro L _ _ ⟨s,rfl,hs,a7,rfl,rfl⟩;simp(disch:=first|omega|assumption)only[W0,G34,D74 _ (show s<18446744073709551616 by omega),hg,E1,V10 (l:=out) (i:=i) (x:=s%4294967296) (show i<out.length by omega),show i+1<=out.length by omega];refine a8 (m-1) _ _ _ (by omega) ⟨i+1,s/4294967296,out.set i (s%4294967296),by omega,by simp,by omega,by simp;omega,U39 Z (by omega),?_,Z11 _ _ _,hE.hs (aD _),a0⟩;rw[U72 (by omega),a7,dR,eE];have:4294967296^i*s=4294967296^i*(s%4294967296)+4294967296^i*(4294967296*(s/4294967296)):=by rw[<- bJ,Nat.mod_add_div]
 omega
end Go.Proofs.YtoiioigihocgbaaGreatDoor
