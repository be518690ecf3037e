/-
  Plain: natural numbers as lists of digits to the base 2^32,least significant first.
  The executor as a claim: closed runs as claims;the way in,from arguments that stand in the world.
  The executor as a claim: slices that may be empty,their rows;arrays in memory.
  Arguments opened,however deep: what is read at a type stands in the abstract heap (nested slices,structs),for any world.
  The executor as a claim: contracts of the library,proved in the world itself,as claims on the abstract heap.
  Lemmas on claims that chapter 33 uses: append to a literal,the nil test,min,products.
  Marked code out of the program itself: where a sequence is a join and what a loop carries is given;the rest is computed.
  The walk's rules,in one.
  What the generated texts of this seat lean on.
  MADE BY PROGRAM (wip/gen/gen.py): functions 92 128 69 112 113 111 101 100 97 145 146 98 117 130 134 131 132 133 114 129 118 104 102 116 as marked code,and their claims written out.
  Digits on the abstract heap;contracts of nat.trim,Of,Norm.
  Arithmetic of 64 bits without sign;slices made by make;append to an empty slice.
  Contracts: cmp.Compare,nat.Cmp,nat.Uint64,bits.Len32,nat.Bits.
  Contracts: bits.Len32,nat.Bits,nat.Uint64.
  Contracts: nat.Add,nat.Sub,nat.Mul.
  Contracts: nat.Sub.
  Contracts: nat.Mul.
  More arithmetic of 64 bits;contracts: nat.Uint64,nat.divDigit.
  Contracts: bits.LeadingZeros32,nat.shiftLeft,nat.shiftRight.
  Contract: nat.guessDigit (the digit of a long division,or one more).
  Contracts: nat.subProduct,nat.addBack (in place,on a part of a block).
  Contracts: nat.divLong,nat.DivMod.
  Contract: nat.DivMod.
  MADE BY PROGRAM (wip/gen/gen.py): functions 94 75 115 103 80 99 96 79 138 144 142 143 141 as marked code,and their claims written out.
  Contracts: rat.common (the greatest common divisor).
  Contracts: rat.Norm,rat.magnitude,rat.Int,rat.Sign.
  Rational numbers in memory (core's Rat);contracts: rat.Norm,magnitude,Int,Sign.
  Contracts: rat.magnitude,rat.Int,rat.Neg.
  Contracts: rat.Mul.
  Contracts: rat.Div.
  Contracts: rat.Add,rat.Sub.
  Contracts: rat.Sub,rat.Int.
  Contracts: rat.Int,rat.divisor,rat.Cmp.
  Contracts: rat.divisor,rat.Cmp.
  MADE BY PROGRAM (wip/gen/gen.py): functions 127 135 136 119 139 137 140 120 121 122 123 124 125 126 109 107 110 108 95 as marked code,and their claims written out.
  Rows of rational numbers in memory.
  Contracts: simplex.zeros,right,artificial.
  Contracts: simplex.right,artificial,combined.
  Contract: simplex.combined.
  Plain: the simplex algorithm with Bland's rule ends (tableaus as functions;no program in sight).
  Plain: every tableau that is reached has numbers of bounded size (no program in sight).
  The tableau in memory.
  Contract: simplex.pivot.
  The executor as a claim: above the first free name there is nothing;a call beside blocks that it does not know.
  Plain: the run of the simplex algorithm from the first tableau of a packing problem (no program in sight).
  Contract: simplex.leaving.
  Contract: simplex.maximize,from the first tableau of a packing problem.
  Numbers beside lists that are being appended to.
  Contract: simplex.newTableau.
  Contracts: simplex.feasible,objective,point,dual.
  Contracts: simplex.objective,point,dual.
  Contracts: simplex.valid,Solve.
-/
import Derived.Test.YtoiioigihocgbaaGreatDoorN13
import Derived.Carry
import Derived.ChangeArms
import Derived.DataReads
import Derived.Below
import Derived.SizedLaws
import Derived.ChangeMaps5
import Derived.Laws.AppendOwn
import Derived.Test.YtoiioigihocgbaaGreatDoorN12
import Derived.Test.YtoiioigihocgbaaGreatDoorProg
import Derived.KernelRfl
set_option linter.all false


namespace Go.Clo
variable {F:FM} {H:Y0} {P:Program} {args:List Value} {c':Array Value} {e:TypeId} {f:FuncId} {m:Nat × Nat} {nx sz:Nat} {v:Value} {w:World}
theorem B55{n:Nat}{E:Orc}(hm:P.follows .mixedOrders=true)(J:J18 P)(ho:B42 P E)(hr:U46 P E n f args=some v)(ha:args.all M4=true)(hv:X7 v=true)(H:Y0)(nx:Nat):
  Q2 P f args H nx fun v' H' nx'=>v=v'/\H=H'/\nx=nx':=by
 have hE:Enters P f:=by
  unfold U46 at hr;rcases W22 (β:=Option Value) hm J ho n f args .leaf 0 none (fun v _ _=>some v) with h | ⟨v',H',nx',h,hcs⟩
  .rw[h] at hr;cases hr
  .exact hcs.1
 refine⟨v,H,nx,⟨hE,fun F O w hh hl => ?_⟩,rfl,rfl,rfl⟩;have e:=J19 hl ha;subst e;refine(B56 hm J ho hr ha hv w hh.gl.1).mono fun e w' ⟨he,hb⟩=>⟨v,F,he,C6 F v hv,?_⟩
 exact { le:=Nat.le_refl _,ext:=fun _ _=>rfl,os:=hb.os,tape:=hb.tape,output:=hb.output,size:=hb.size,frame:=fun b h _=>hb.block b h,own:=fun _ h => .inl h,keep:=fun _ _ h=>h,rom:=fun i b h _=>⟨hh.low h,h⟩,hr:=⟨fun i b hi hg=>let ⟨t,h1,h2⟩:=hh.blk i b hi hg;⟨t,h1,h2.mono (fun _ _ h=>h) (hb.block _ h2.lt)⟩,hh.inj,hh.fresh,hh.top,hh.gl.step (fun b h _=>hb.block b h) (fun _ h => .inl h)⟩ }
structure In (w:World) (F:FM) (H:Y0) (nx:Nat):Prop where
 hr:HR F H nx w
 rom:∀ i b,J0 H i=some b->b.isRom=true
theorem In.start(w:World)(E:GlW w):In w (fun _=>none) .leaf 0:=
 ⟨⟨fun i b hi=>by omega,fun i j bi bj ti tj hi=>by omega,fun _ _=>rfl,fun _ _=>rfl,⟨E,fun x hx ⟨i,_,_,hi,_⟩=>by omega⟩⟩,fun i b h=>by rw[C40] at h;cases h⟩
theorem Y46{E:List Value}{Q:Value->Y0->Nat->Prop}(h:Q2 P f args H nx Q)(hQ:∀ v H' nx',Q v H' nx'->v = .bool true)(hi:In w F H nx)(hl:VL F args E):
  Calls P f E.toArray w fun e w'=>e = .returned (.bool true)/\RowKit.Below w.heap.size w w':=by
 obtain⟨v,H',nx',U,hq⟩:=h;have:=hQ _ _ _ hq;subst this;refine(U.2 F E w hi.hr hl).mono fun e w' ⟨v',F',he,O,J⟩ => ?_
 cases O
 refine⟨he,J.os,J.tape,J.output,J.size,fun b hb=>J.frame b hb ?_⟩;rintro⟨i,k,t,_,hg,hk,_⟩;rw[hi.rom i k hg] at hk;cases hk
def N26(F:FM)(i:Nat)(t:J7):FM:=fun j=>if j=i then some t else F j
theorem M36(h:In w F H nx)(t:J7):F.le (N26 F nx t):=by
 intro i u hu;have:i≠nx:=by
  intro e;subst e;rw[h.hr.fresh i (Nat.le_refl _)] at hu;cases hu
 simp[N26,this,hu]
theorem In.name(h:In w F H nx)(t:J7):In w (N26 F nx t) H (nx+1):=by
 have E:=M36 h t;refine⟨⟨fun i b hi hg => ?_,fun i j bi bj ti tj hi hj O J _ _ _ => .inr ⟨h.rom _ _ O,h.rom _ _ J⟩,fun i hi => ?_,fun i hi=>h.hr.top i (by omega),⟨h.hr.gl.1,fun x hx ⟨i,k,u,_,hg,hk,_⟩=>by rw[h.rom i k hg] at hk;cases hk⟩⟩,h.rom⟩
 .obtain⟨u,h1,h2⟩:=h.hr.blk i b (h.hr.low hg) hg
  exact⟨u,E _ _ h1,h2.mono E rfl⟩
 .have:i≠nx:=by omega
  simp[N26,this];exact h.hr.fresh i (by omega)
theorem In.row(h:In w F H nx){a:Nat}{off:Nat}{c:List Value}(hb:w.heap[a]? = some (.cells c' e m))(Q:off+c.length<=c'.size)
  (hv:VL F c ((c'.toList.drop off).take c.length)):In w (N26 F nx ⟨a,off,c.length,0,c'.size⟩) (hs H nx (some (.rom c))) (nx+1):=by
 have h1:=h.name ⟨a,off,c.length,0,c'.size⟩;have J:=M36 h ⟨a,off,c.length,0,c'.size⟩;have E:∀ i b,J0 (hs H nx (some (.rom c))) i=some b->b.isRom=true:=by
  intro i b hg;rw[N7] at hg
  split at hg
  .cases hg;rfl
  .exact h.rom i b hg
 refine⟨⟨fun i b hi hg => ?_,fun i j bi bj ti tj hi hj V U _ _ _ => .inr ⟨E _ _ V,E _ _ U⟩,h1.hr.fresh,fun i hi => ?_,⟨h.hr.gl.1,fun x hx ⟨i,k,u,_,hg,hk,_⟩=>by rw[E i k hg] at hk;cases hk⟩⟩,E⟩
 .rw[N7] at hg
  split at hg
  .rename_i O
   subst O
   cases hg
   refine⟨_,by simp[N26];rfl,?_⟩;exact⟨c',e,m,hb,rfl,rfl,rfl,Q,VL.mono J hv⟩
  .exact h1.hr.blk i b hi hg
 .rw[N7,if_neg (by omega)];exact h.hr.top i (by omega)
theorem M28{α:Type}{p:Nat->α->Prop}:∀ {n:Nat},(∀ i,i<n->∃ a,p i a)->∃ xs:List α,xs.length=n/\∀ i a,xs[i]? = some a->p i a
 | 0,_=>⟨[],rfl,fun i a h=>by simp at h⟩
 | n+1,h=>by
  obtain⟨xs,h1,h2⟩:=M28 (n:=n) (p:=p) fun i hi=>h i (by omega)
  obtain⟨a,ha⟩:=h n (by omega);refine⟨xs++[a],by simp[h1],fun i b hb => ?_⟩
  by_cases hi:i<n
  .rw[List.getElem?_append_left (by omega)] at hb;exact h2 i b hb
  .have:i=n:=by
    have:=(List.getElem?_eq_some_iff.mp hb).1;simp at this;omega
   subst this;rw[List.getElem?_append_right (by omega),h1,Nat.sub_self] at hb;simp at hb;subst hb;exact ha
theorem J40{α:Type}{f:α->List Value}{sz:Nat}(hf:∀ a,(f a).length=sz):∀(xs:List α) (l:List Value),(∀ i a,xs[i]? = some a->(l.drop (i*sz)).take sz=f a)->l.take (xs.length*sz)=xs.flatMap f
 | [],l,_=>by simp
 | a :: xs,l,h=>by
  have h0:l.take sz=f a:=by simpa using h 0 a rfl
  have ih:=J40 hf xs (l.drop sz) fun i b hb=>by
   have:=h (i+1) b (by simpa using hb);rw[List.drop_drop];rw[Nat.add_mul,Nat.one_mul,Nat.add_comm] at this;exact this
  rw[List.length_cons,Nat.add_mul,Nat.one_mul,Nat.add_comm,List.take_add,h0,ih];rfl
theorem Z49{α:Type}{f:α->List Value}(hf:∀ a,(f a).length=sz)(xs:List α):(xs.flatMap f).length=xs.length*sz:=by
 induction xs with
 | nil=>simp
 | cons a xs ih=>simp[hf,ih,Nat.add_mul];omega
section
variable {X:Type} {enc:TypeId × Value->X} {P:Program} {w:World} {base:Nat} {spare:Nat->Bool} {held:Bool}
theorem N61{a:Addr}(hb:w.heap[a.block]? = some (.cells c' e m))(hs:a.spot=none){k:Nat}{cs:List Value}(h:w.cells? base (a.add k) sz=some cs):
  (c'.toList.drop (a.off+k)).take sz=cs:=by
 obtain⟨_,hl,hc⟩:=World.cells?_some h;apply List.ext_getElem?;intro i;rw[List.getElem?_take]
 split
 .rename_i hi
  rw[<- hc i hi,List.getElem?_drop];have E:∀(b:Addr) (n:Nat),b.spot=none->b.add n=⟨b.block,b.off+n,none⟩:=by
   intro b n hn;unfold Addr.add
   split
   .rename_i h0
    subst h0
    cases b;simp at hn;subst hn;rfl
   .rfl
  rw[E a k hs,E _ i rfl];simp[World.cell?,hb,Nat.add_assoc]
 .rw[List.getElem?_eq_none (by omega)]
theorem N24(hl:laidOutB P=true){W W':World}(hb:RowKit.Below W.heap.size W W'):∀(ts:List TypeId) (vs:List Value) (ds:List (DataW X)) (ps:List MemPlace),(∀ t ∈ ts,P.readableRec t=true/\t<P.types.size) ->
  DataW.TrodAll enc P W 0 (fun _=>true) true ts vs ds ps->(∀ x ∈ ps,x.block<W.heap.size)->DataW.TrodAll enc P W' 0 (fun b=>decide (b<W.heap.size)) true ts vs ds ps
 | [],[],[],ps,_,h,_=>h
 | t :: ts,v :: vs,d :: ds,ps,ht,⟨p,q,h1,h2,e⟩,hlt=>by
  subst e;refine⟨p,q,?_,N24 hl hb ts vs ds q (fun u hu=>ht u (List.mem_cons_of_mem _ hu)) h2 fun x hx=>hlt x (List.mem_append_right _ hx),rfl⟩;obtain⟨h3,h4⟩:=ht t List.mem_cons_self;exact RowKit.Below.trod hl h3 h4 h1 hb fun x hx=>hlt x (List.mem_append_left _ hx)
theorem J41 {f:Func} {s:ChangeSpec} {apart fresh handsOn:Bool} {W W':World} {args:Array Value} {ds gs:List (DataW X)} {before pa pv:List MemPlace}
  (hW:DataW.Whole enc P f.params.toList s.vars apart W args.toList ds gs before) (hb:RowKit.Below W.heap.size W W')
  (hres:∀ (b:Nat) (sp:Nat->Bool) (hd:Bool),DataW.TrodAll enc P W' b sp hd f.resultTypes.toList (v.resultList f.resultTypes.size) (s.fn X (ds++gs)).results [])
  (hargs:DataW.TrodAll enc P W' 0 (fun b=>decide (b<W.heap.size)) true f.params.toList args.toList (s.fn X (ds++gs)).args pa)
  (hvars:DataW.TrodVars enc P W' (fun b=>decide (b<W.heap.size)) s.vars (s.fn X (ds++gs)).vars pv):s.post enc P f apart fresh handsOn false W args v W':=
 ⟨ds,gs,before,[],pa,pv,hW,hres _ _ _,hargs,hvars,hb.frame _,fun h=>by cases h⟩
end
end Go.Clo

namespace Go.Clo
variable {A:Option Addr} {H:Y0} {cap i nx size:Nat} {e:TypeId} {l:List Nat}
theorem E56{p:Program}{Q14:TypeId->Bool}{d:Nat}{E off n:Nat}(h:rowAt p Q14 d e E off n=true):off<=E*p.cellsOf e:=by
 cases d with
 | zero=>simp[rowAt] at h
 | succ d=>
  unfold rowAt at h;simp only at h
  split at h
  .cases h
  .rename_i hs
   have h1:=Nat.div_add_mod off (p.cellsOf e);have h3:off%p.cellsOf e<p.cellsOf e:=Nat.mod_lt _ (by omega);rw[Bool.or_eq_true] at h;rcases h with h | h
   .simp only[Bool.and_eq_true,beq_iff_eq,decide_eq_true_eq] at h
    obtain⟨⟨hr,hi⟩,_⟩:=h;rw[hr,Nat.add_zero,Nat.mul_comm] at h1;rw[<- h1];exact Nat.mul_le_mul_right _ (by omega)
   .simp only[Bool.and_eq_true,decide_eq_true_eq] at h
    have h2:(off/p.cellsOf e+1)*p.cellsOf e<=E*p.cellsOf e:=Nat.mul_le_mul_right _ (by omega);rw[Nat.add_mul,Nat.one_mul,Nat.mul_comm] at h2;omega
theorem C32{p:Program}{e:TypeId}{E off:Nat}:∀ {d:Nat} {u:TypeId} {n:Nat},liesAt p d e E off u n=true->off<=E*p.cellsOf e
 | 0,_,_,h=>by simp[liesAt] at h
 | d+1,u,n,h=>by
  unfold liesAt at h;rw[Bool.or_eq_true] at h;rcases h with h | h
  .exact E56 h
  .split at h
   .exact C32 h
   .cases h
def Has(H:Y0)(nx:Nat)(A:Option Addr):Prop:=A=none\/∃ b o row,A=some ⟨b,o,none⟩/\b<nx/\Q5 H b=some row
theorem Has.ext{H':Y0}{nx':Nat}(h:Has H nx A)(e:D0 H nx H' nx'):Has H' nx' A:=by
 rcases h with h | ⟨b,o,row,h1,h2,h3⟩
 .exact .inl h
 .exact .inr ⟨b,o,row,h1,Nat.lt_of_lt_of_le h2 e.le,by rw[e.row h2];exact h3⟩
section
variable {X:Type} {enc:TypeId × Value->X} {P:Program} {w:World} {base:Nat} {spare:Nat->Bool} {held:Bool}
theorem In.sliceH{α:Type}{f:α->List Value}{Pr:α->Prop}{sz:Nat}{F:FM}(hi:In w F H nx){t:TypeId}{len b0 a5:Nat}{r:Reach}{x:DataW X × List MemPlace}
  (ht:P.underlying t=some (.slice e))(ac:P.cellsOf e=sz)(hf:∀ a,(f a).length=sz)(Q:Cell.ok P w r b0 t (.slice A len cap))(aa:DataW.trod enc P w base spare held a5 t [.slice A len cap]=some x)
  (a1:∀ n cs y,DataW.trod enc P w base spare held n e cs=some y->∃ a,f a=cs/\Pr a)(a2:∀ a,(f a).all M4=true):
  ∃(F':FM) (H':Y0) (nx':Nat) (A':Option Addr) (xs:List α),In w F' H' nx'/\F.le F'/\VR F' (.slice A' len cap) (.slice A len cap)/\xs.length=len/\(∀ a ∈ xs,Pr a)/\Sl H' nx' A' (xs.flatMap f)/\D0 H nx H' nx'/\len<=maxLen/\Has H' nx' A':=by
 rcases DataW.trod_slice ht aa with ⟨h0,_⟩ | ⟨a,ai,cap',ab,ag,n,_,h0,_,_,hl,hm,ae,a9,_,_⟩
 .simp at h0
  obtain⟨rfl,rfl,rfl⟩:=h0;exact⟨F,H,nx,none,[],hi,fun _ _ h=>h,.sliceN _ _,rfl,by simp,fun i v h=>by simp at h,D0.refl _ _,Nat.zero_le _,.inl rfl⟩
 .simp at h0
  obtain⟨rfl,rfl,rfl⟩:=h0;have E:a.spot=none:=by
   simp only[Cell.ok,ht] at Q;exact Q.2.2.2.1
  obtain⟨c',a6,m,hb,ah⟩:∃ c' a6 m,w.heap[a.block]? = some (.cells c' a6 m)/\a.off<=c'.size:=by
   simp only[Cell.ok,ht] at Q;obtain⟨_,_,_,_,row,cells,O,Z⟩:=Q;unfold World.shape? at O
   split at O
   .rename_i cc ee mm a3
    cases O
    refine⟨_,_,_,a3,?_⟩;have h1:=C32 Z;exact Nat.le_trans h1 (Nat.div_mul_le_self _ _)
   .cases O
  obtain⟨xs,W,a4⟩:∃ xs:List α,xs.length=len/\∀ i y,xs[i]? = some y->(c'.toList.drop (a.off+i*sz)).take sz=f y/\Pr y:=by
   refine M28 fun i V => ?_
   have h1:=a9 i V;rw[List.getElem?_eq_getElem (by omega)] at h1;obtain⟨cs,h2,h3⟩:=Option.bind_eq_some_iff.mp h1;obtain⟨y,rfl,hy⟩:=a1 _ _ _ h3;rw[ac] at h2;exact⟨y,N61 hb E h2,hy⟩
  have a7:∀ y ∈ xs,Pr y:=fun y hy=>by
   obtain⟨i,V,rfl⟩:=List.getElem_of_mem hy;exact(a4 i _ (List.getElem?_eq_getElem V)).2
  have J:(c'.toList.drop a.off).take (len*sz)=xs.flatMap f:=by
   rw[<- W];exact J40 hf xs _ fun i y hy=>by rw[List.drop_drop];exact(a4 i y hy).1
  have a0:=Z49 hf xs;have a8:a.off+(xs.flatMap f).length<=c'.size:=by
   have h1:=congrArg List.length J;simp only[List.length_take,List.length_drop,Array.length_toList] at h1;omega
  have ad:VL F (xs.flatMap f) ((c'.toList.drop a.off).take (xs.flatMap f).length):=by
   rw[a0,W,J];refine J10 F _ ?_;rw[List.all_eq_true];intro v hv;obtain⟨y,_,hy⟩:=List.mem_flatMap.mp hv;exact List.all_eq_true.mp (a2 y) v hy
  have U:Q5 (hs H nx (some (.rom (xs.flatMap f)))) nx=some (xs.flatMap f):=by rw[Q5,E0];rfl
  refine⟨_,_,_,some ⟨nx,0,none⟩,xs,hi.row hb a8 ad,M36 hi _,?_,W,a7,fun i v h=>⟨nx,0,xs.flatMap f,rfl,by omega,U,by rw[Nat.zero_add];exact h⟩,(D0.refl H nx).new _ (Nat.le_refl _) (by omega),by omega,.inr ⟨nx,0,_,rfl,by omega,U⟩⟩;have:=VR.slice (F:=N26 F nx ⟨a.block,a.off,(xs.flatMap f).length,0,c'.size⟩) (b:=nx) (o:=0) (n:=len) (c:=cap) (c':=cap) (t:=⟨a.block,a.off,(xs.flatMap f).length,0,c'.size⟩) (by simp[N26]) (.inl rfl);have ha:a=⟨a.block,a.off+0,none⟩:=by cases a;simp at E;subst E;rfl
  rw[ha];exact this
end
theorem Y62(h:Has H nx A):Src H size (.slice A 0 cap) 0 []:=by
 refine⟨rfl,fun k => ?_,by simp⟩;rcases h with rfl | ⟨b,o,row,rfl,_,hrow⟩
 .rfl
 .unfold Q5 at hrow
  cases hg:J0 H b with
  | none=>rw[hg] at hrow;cases hrow
  | some blk=>
   rw[hg] at hrow;show B19 H ⟨b,o,none⟩ (0*size) False k=k [];unfold B19;simp only;rw[Y4,hg,Nat.zero_mul]
   cases blk with
   | cells c sl=>rfl
   | map es c=>simp[C1.row] at hrow
   | rom c=>rfl
theorem C27{m:Nat}{l:List Value}(h:Sl H nx A l)(h0:Has H nx A)(hl:l.length=m*size)(E:0<size):Src H size (.slice A m cap) m l:=by
 cases m with
 | zero=>
  have:l=[]:=by simpa using hl
  subst this;exact Y62 h0
 | succ m=>exact B68 h hl (Nat.mul_pos (by omega) E)
theorem N31{c:List Value}{o:Nat}{x:Value}(h:o<c.length):B12 c o [x]=c.set o x:=by
 unfold B12;rw[List.set_eq_take_append_cons_drop,if_pos h];simp
theorem X62{x:Nat}:(C0 l).set i (.int .u32 (x:Int))=C0 (l.set i x):=by simp[C0,List.map_set]
theorem V10{x:Nat}(h:i<l.length):B12 (C0 l) i [.int .u32 (x:Int)]=C0 (l.set i x):=by rw[N31 (by rw[E1];exact h),X62]
end Go.Clo



namespace Go.Clo
variable {F:FM} {H:Y0} {b nx o:Nat} {t:J7} {w:World} {xs:List Value}
theorem U23(hh:HR F H nx w)(hF:F b=some t)(hS:Sl H nx (some ⟨b,o,none⟩) xs){i:Nat}{v:Value}(hi:xs[i]? = some v):
  ∃ v',w.cell? ⟨t.blk,t.base+o+i,none⟩=some v'/\VR F v v':=by
 obtain⟨b',o',row,e,hb,E,hv⟩:=hS i v hi
 cases e
 unfold Q5 at E
 cases hg:J0 H b with
 | none=>rw[hg] at E;cases E
 | some blk=>
  rw[hg] at E;have Q:=hh.hb.get hF hg;have O:∀(c:List Value) (c':Array Value),row=c->VL F c ((c'.toList.drop t.base).take c.length)->∃ v',c'[t.base+o+i]? = some v'/\VR F v v':=by
   intro c c' e J;subst e;obtain⟨v',h1,h2⟩:=J.some hv;refine⟨v',?_,h2⟩;rw[List.getElem?_take] at h1
   split at h1
   .rw[List.getElem?_drop,Array.getElem?_toList] at h1
    rw[<- h1];congr 1;omega
   .cases h1
  cases blk with
  | map es q=>cases E
  | cells c sl=>
   obtain⟨c',e,hw,_,_,_,_,J⟩:=Q;simp only[Option.bind_some,C1.row,Option.some.injEq] at E;obtain⟨v',h1,h2⟩:=O c c' E.symm J;exact⟨v',by simp[World.cell?,hw,h1],h2⟩
  | rom c=>
   obtain⟨c',e,m,hw,_,_,_,_,J⟩:=Q;simp only[Option.bind_some,C1.row,Option.some.injEq] at E;obtain⟨v',h1,h2⟩:=O c c' E.symm J;exact⟨v',by simp[World.cell?,hw,h1],h2⟩
theorem W40(hh:HR F H nx w)(hF:F b=some t)(hS:Sl H nx (some ⟨b,o,none⟩) xs)(h0:0<xs.length):t.blk<w.heap.size:=by
 obtain⟨v',h1,_⟩:=U23 hh hF hS (List.getElem?_eq_getElem h0);unfold World.cell? at h1;rcases Nat.lt_or_ge t.blk w.heap.size with g | g
 .exact g
 .rw[Array.getElem?_eq_none g] at h1;cases h1
theorem N2.row{w':World}(hh:HR F H nx w)(hb:RowKit.Below w.heap.size w w'){g cap:Nat}{E:Array Value}{e:TypeId}(hg:w.heap.size<=g)(hc:w'.heap[g]? = some (.cells E e (0,0)))
  (h1:xs.length<=cap)(h2:E.size=cap)(h3:E.toList.take xs.length=xs)(J:cap<=9223372036854775807)(O:xs.all M4=true):
  ∃ F',VR F' (.slice (some ⟨nx,0,none⟩) xs.length xs.length) (.slice (some ⟨g,0,none⟩) xs.length cap)/\N2 F H nx w F' (hs H nx (some (.cells xs 1))) (nx+1) w':=by
 refine⟨upd F nx ⟨g,0,xs.length,1,cap⟩,?_,N2.name hh rfl hb.os hb.tape hb.output hb.size (fun k hk=>hb.block k hk) ?_ hg⟩
 .have:=VR.slice (F:=upd F nx ⟨g,0,xs.length,1,cap⟩) (b:=nx) (o:=0) (n:=xs.length) (c:=xs.length) (c':=cap) (t:=⟨g,0,xs.length,1,cap⟩) (Y6 _ _ _) (.inr ⟨Nat.one_pos,h1,by simp,by simp,J⟩)
  exact this
 .refine⟨E,e,hc,h2,rfl,rfl,by simpa using h1,?_⟩
  simp only[List.drop_zero];rw[h3];exact J10 _ _ O
end Go.Clo

namespace Go.Clo
variable {H H0:Y0} {b bytes lo m n nx size:Nat} {c l:List Value} {k:EP} {x:Value}
theorem U21(z:List Value)(k:List Value->Prop):K6 0 1 z [] k=k []:=by
 rw[Q66];show(if Z0 []=true then k [] else False)=_;exact if_pos (show Z0 []=true from rfl)
theorem B52{cap sl:Nat}{c:List Value}(E:0<size)(hg:J0 H b=some (.cells c sl))(hl:c.length=n*size)(k:List Value->Prop):Z5 H size n (.slice (some ⟨b,0,none⟩) n cap) False k=k c:=by
 rcases Nat.eq_zero_or_pos n with h0 | h0
 .subst h0
  simp at hl;subst hl;unfold Z5 B19;dsimp only;rw[Y4,hg];simp only[Option.elim_some,Nat.zero_mul,G5];exact V2 _ _
 .exact(J9 hg hl (Nat.mul_pos h0 E)).first k
theorem K44(U:0<size)(hg:J0 H b=some (.cells c 0))(hl:c.length=n*size)(hx:Src H size x m l)(hm:0<m)(ho:Z0 l=true)
  (Q:(2*(n+m)+1000)*bytes<=281474976710656)(J:n+m<=1000000000):B5 (.slice (some ⟨b,0,none⟩) n n) x size bytes H nx k=k (.slice (some ⟨nx,0,none⟩) (n+m) (n+m)) (hs H nx (some (.cells (c++l) size))) (nx+1):=by
 have E:(c++l).length=(n+m)*size:=by rw[List.length_append,hl,hx.size,Nat.add_mul]
 unfold B5 Z22;rw[hx.len];dsimp only;rw[G1,V6 Q,V6 J];simp only[Bool.and_self,cond_true];rw[hx.first,ho,E27 (show n<n+m by omega)];simp only[cond_true,cond_false];rw[B52 U hg hl,V2,E,D13];simp only[cond_true,D22];rw[Y4,hg];simp only[Option.elim_some];have O:N8 (.cells c 0) 0 n size=some false:=rfl;rw[O];dsimp only;simp only[K11];rw[G1,G1,G4]
theorem Y58(hg:J0 H b=some (.cells c 0))(hl:c.length=n*size)(hx:Src H size x 0 [])
  (E:(2*n+1000)*bytes<=281474976710656)(J:n<=1000000000):B5 (.slice (some ⟨b,0,none⟩) n n) x size bytes H nx k=k (.slice (some ⟨b,0,none⟩) n n) (hs H b (some (.cells c 0))) nx:=by
 unfold B5 Z22;rw[hx.len];dsimp only;rw[G1,V6 (show(2*(n+0)+1000)*bytes<=281474976710656 from E),V6 (show n+0<=1000000000 from J)];simp only[Bool.and_self,cond_true];rw[hx.first];simp only[Z0,cond_true,Nat.add_zero,V6 (Nat.le_refl n),C42,G1];rw[J30,hg];simp only[U20,List.length_nil,Nat.add_zero,Nat.zero_add,B12,List.append_nil,List.take_append_drop,hl,Nat.le_refl,true_and]
theorem G21(t:TypeId)(A:Option Addr)(n c:Nat)(k:VP):wVf (.eqn false (.slice t)) [.slice A n c,.slice none 0 0] k=k (.bool A.isNone):=by
 have e:VF.ev (.eqn false (.slice t)) [.slice A n c,.slice none 0 0]=some (.bool A.isNone):=by cases A<;>rfl
 unfold wVf;rw[e,J8];rfl
theorem B29(z:Int):∀ m,U3 [.int .i64 z] m=U4 (List.replicate m z)
 | 0=>rfl
 | m+1=>by rw[U3,B29 z m];rfl
theorem K13:∀ l:List Int,Z0 (U4 l)=true
 | []=>rfl
 | x :: l=>K13 l
def E23(lo:Nat)(H:Y0)(nx:Nat)(v:Value)(c:List Value):Prop:=
 Acc lo H nx 1 v c.length c\/(c=[]/\∃ b,lo<=b/\b<nx/\v = .slice (some ⟨b,0,none⟩) 0 0/\J0 H b=some (.cells [] 0))
theorem E23.ext{lo:Nat}{H:Y0}{nx:Nat}{v:Value}{c:List Value}{H':Y0}{nx':Nat}(h:E23 lo H nx v c)(e:D0 H nx H' nx'):E23 lo H' nx' v c:=by
 rcases h with h | ⟨h0,b,h1,h2,h3,h4⟩
 .exact .inl (h.ext e)
 .exact .inr ⟨h0,b,h1,Nat.lt_of_lt_of_le h2 e.le,h3,by rw[e.get b h2];exact h4⟩
theorem E23.sl{lo:Nat}{H:Y0}{nx:Nat}{v:Value}{c:List Value}(h:E23 lo H nx v c):∃ A,v = .slice A c.length c.length/\Sl H nx A c/\Has H nx A:=by
 rcases h with h | ⟨rfl,b,h1,h2,rfl,h4⟩
 .obtain⟨A,rfl,hS⟩:=h.sl
  refine⟨A,rfl,hS,?_⟩;rcases h.2 with ⟨_,e⟩ | ⟨b,_,h2,e,h4⟩
  .injection e with e1
   exact .inl e1
  .injection e with e1
   subst e1;exact .inr ⟨b,0,c,rfl,h2,by simp[Q5,h4,C1.row]⟩
 .exact⟨_,rfl,Sl.nil _ _ _,.inr ⟨b,0,[],rfl,h2,by simp[Q5,h4,C1.row]⟩⟩
theorem K38{v:Value}{y:Value}(hA:E23 lo H nx v c)(hx:Src H 1 x 1 [y])(ho:Z0 [y]=true)(hb:bytes<=16)(Q:c.length<=1000000)(hE:D0 H0 lo H nx)(E:lo<=nx)
  (hk:∀ v' H',E23 lo H' (nx+1) v' (c++[y])->D0 H0 lo H' (nx+1)->(∀ i,i<lo->J0 H' i=J0 H i)->k v' H' (nx+1)):B5 v x 1 bytes H nx k:=by
 have J:(2*(c.length+1)+1000)*bytes<=281474976710656:=by
  have:=Nat.mul_le_mul (show 2*(c.length+1)+1000<=2*1000001+1000 by omega) hb;omega
 rcases hA with hA | ⟨rfl,b,h1,h2,rfl,h4⟩
 .have O:∀ A n' c',v = .slice (some A) n' c'->lo<=A.block:=fun A n' c' e=>by
   rcases hA.2 with ⟨_,e'⟩ | ⟨b,h1,_,e',_⟩
   .rw[e'] at e;cases e
   .rw[e'] at e;cases e;exact h1
  refine Y20 (by omega) hA hx (by omega) ho J (by omega) hE E fun v' H' h1 h2 h3=>hk v' H' (.inl ?_) h2 fun i hi=>h3 i (by omega) fun A n' c' e=>by have:=O A n' c' e;omega
  rw[List.length_append];exact h1
 .rw[K44 (n:=0) (by omega) h4 (by simp) hx (by omega) ho (by simpa using J) (by omega)]
  exact hk _ _ (.inl ⟨rfl,.inr ⟨nx,E,by omega,rfl,E0 _ _ _⟩⟩) (hE.new _ E (by omega)) fun i hi=>Z1 _ (by omega)
theorem V22{P:Program}{g:FuncId}{first cap args:List Value}{Q:EP}(h:Q2 P g (first++args++cap) H nx Q)(hk:∀ v H' nx',Q v H' nx'->k v H' nx'):
  M33 P (.func (.func g) ⟨first⟩ ⟨cap⟩) args H nx k:=by
 show spine (first++args++cap) (fun vs=>M8 P g vs H nx False k);rw[V2];exact .inr (h.mono hk)
theorem R20(hg:J0 H b=some (.cells [] 0))(E:lo<=b)(hb:b<nx)(hx:Src H 1 x m l)(ho:Z0 l=true)(hm:m<=1000000)(J:bytes<=16)(hE:D0 H0 lo H nx)
  (hk:∀ v' H' nx',nx<=nx'->E23 lo H' nx' v' l->D0 H0 lo H' nx'->k v' H' nx'):B5 (.slice (some ⟨b,0,none⟩) 0 0) x 1 bytes H nx k:=by
 have O:(2*(0+m)+1000)*bytes<=281474976710656:=by
  have:=Nat.mul_le_mul (show 2*(0+m)+1000<=2*1000000+1000 by omega) J;omega
 have hl:=hx.size;rcases Nat.eq_zero_or_pos m with h0 | h0
 .subst h0
  have:l=[]:=List.length_eq_zero_iff.1 (by omega);subst this;rw[Y58 (n:=0) hg (by rfl) hx (by omega) (by omega)];exact hk _ _ _ (Nat.le_refl _) (.inr ⟨rfl,b,E,hb,rfl,E0 _ _ _⟩) (hE.hs E)
 .rw[K44 (n:=0) (by omega) hg (by simp) hx h0 ho O (by omega)]
  refine hk _ _ _ (by omega) (.inl ⟨by omega,.inr ⟨nx,by omega,by omega,?_,?_⟩⟩) (hE.new _ (by omega) (by omega))
  .rw[Nat.zero_add,hl,Nat.mul_one]
  .rw[E0];rfl
end Go.Clo

namespace Go.Clo
def K70:Option (Nat × Bool)->Option (Nat × Bool)->Bool
 | none,none=>true
 | some (a,x),some (b,y)=>Nat.beq a b&&(cond x y (!y))
 | _,_=>false
def W71:Option (Nat × Bool)->Option Nat->Bool
 | some (a,_),some b=>Nat.beq a b
 | _,_=>false
def K63 (g:Option (Nat × Bool)) (cur:List S):List S->List G
 | []=>[(g,cur.reverse)]
 | s :: l=>cond (K70 g s.guard && !(W71 g s.dst)) (K63 g (⟨none,s.dst,s.i⟩ :: cur) l) ((g,cur.reverse) :: K63 s.guard [⟨none,s.dst,s.i⟩] l)
def grp:List S->List G
 | []=>[]
 | s :: l=>K63 s.guard [⟨none,s.dst,s.i⟩] l
def G61(x:Nat):List Nat->Bool
 | []=>false
 | y :: l=>Nat.beq x y || G61 x l
def W52(ws:List Nat):List Nat->List Nat->List Nat
 | acc,[]=>acc
 | acc,x :: l=>cond (G61 x ws || G61 x acc) (W52 ws acc l) (W52 ws (x :: acc) l)
def V12{β:Type}:C->Nat->List (Nat × List Nat)->List (List Nat)->List HT->(D->Nat->List (Nat × List Nat)->List (List Nat)->List HT->β)->β
 | .skip,n,js,ls,hs,k=>k .skip n js ls hs
 | .ops l,n,js,ls,hs,k=>match grp l with
  | []=>k (.ops [] .nil) n js ls hs
  | [(none,m)]=>k (.ops [(none,m)] (.one .nil)) n js ls hs
  | gs=>match hs with
   | h :: hs=>k (.ops gs h) n js ls hs
   | []=>k (.ops gs .nil) n js ls hs
 | .draw ms l,n,js,ls,hs,k=>match grp l with
  | []=>k (.draw ms [] .nil) n js ls hs
  | [(none,m)]=>k (.draw ms [(none,m)] (.one .nil)) n js ls hs
  | gs=>match hs with
   | h :: hs=>k (.draw ms gs h) n js ls hs
   | []=>k (.draw ms gs .nil) n js ls hs
 | .seq a b,n,js,ls,hs,k=>match js with
  | []=>V12 a (n+1) [] ls hs fun a n js ls hs=>V12 b n js ls hs fun b n js ls hs=>k (.seq a b) n js ls hs
  | (i,ws) :: r=>cond (Nat.beq i n)
    (V12 a (n+1) r ls hs fun a n js ls hs=>V12 b n js ls hs fun b n js ls hs=>k (.join ws (W52 ws [] a.writes) a b) n js ls hs)
    (V12 a (n+1) js ls hs fun a n js ls hs=>V12 b n js ls hs fun b n js ls hs=>k (.seq a b) n js ls hs)
 | .cond x t e,n,js,ls,hs,k=>V12 t n js ls hs fun t n js ls hs=>V12 e n js ls hs fun e n js ls hs=>k (.cond x t e) n js ls hs
 | .block id c,n,js,ls,hs,k=>V12 c n js ls hs fun c n js ls hs=>k (.block id c) n js ls hs
 | .loop c,n,js,ls,hs,k=>match ls with
  | ws :: ls=>V12 c n js ls hs fun c n js ls hs=>k (.loop ws (W52 ws [] c.writes) c) n js ls hs
  | []=>V12 c n js [] hs fun c n js ls hs=>k (.loop [] c.writes c) n js ls hs
 | .exit id,n,js,ls,hs,k=>k (.exit id) n js ls hs
 | .ret,n,js,ls,hs,k=>k .ret n js ls hs
def X5(P:Program)(f:FuncId)(js:List (Nat × List Nat))(ls:List (List Nat))(hs:List HT):D:=match cfn P f with
 | some c=>V12 c.body 0 js ls hs fun d _ _ _ _=>d
 | none => .skip
theorem E2{P:Program}(hm:P.follows .mixedOrders=true)(O:J18 P){f:FuncId}(n d:Nat)(body:D)(res:List (X × Option (Option Nat)))(J:cfn P f=some ⟨n,d,body.erase,res⟩)(E:body.ok n d=true)
  {args:List Value}(hl:args.length<=n){H:Y0}{nx:Nat}{Q:Value->Y0->Nat->Prop}{F:Prop}(he:X55 P n d body res args H nx Q=F)(h:F):Q2 P f args H nx Q:=
 X44 hm O J E hl (he.symm ▸ h)
end Go.Clo

namespace Go.Clo
theorem W0:(type_of% @List.getD_cons_zero.{0})/\(type_of% @List.getD_cons_succ.{0})/\(type_of% @E45)/\(type_of% @Q43)/\(type_of% @G48)/\(type_of% @M42)/\(type_of% @V44)/\(type_of% @Z47)/\(type_of% @C46)/\(type_of% @M29)/\(type_of% @Z27)/\(type_of% @Y35)/\(type_of% @X29)/\(type_of% @Z50)/\(type_of% @G51)/\(type_of% @M50)/\(type_of% @W38)/\(type_of% @K40)/\(type_of% @J35)/\(type_of% @R28)/\(type_of% @Q37)/\(type_of% @W59)/\(type_of% @Y31)/\(type_of% @D45)/\(type_of% @N35)/\(type_of% @Y30)/\(type_of% @W41)/\(type_of% @Q45)/\(type_of% @W44)/\(type_of% @J48)/\(type_of% @V65)/\(type_of% @G65)/\(type_of% @X57)/\(type_of% @Y40)/\(type_of% @Y50)/\(type_of% @Q40)/\(type_of% @E0)/\(type_of% @Z1)/\(type_of% @Y5)/\(type_of% @G1)/\(type_of% @G4)/\(type_of% @Option.elim_some.{1,0})/\(type_of% @List.getElem?_cons_zero.{0})/\(type_of% @List.getElem?_cons_succ.{0})/\(type_of% @decide_true)/\(type_of% @decide_false)/\(type_of% @if_true.{1})/\(type_of% @if_false.{1})/\(type_of% @Bool.false_eq_true)/\(type_of% @Nat.zero_add)/\(type_of% @Nat.add_zero)/\(type_of% @and_true)/\(type_of% @true_and)/\(type_of% @or_false)/\(type_of% @Bool.not_true)/\(type_of% @Bool.not_false)/\(type_of% @and_self)/\(type_of% @N32)/\(type_of% @N33)/\(type_of% @U33)/\(type_of% @K32)/\(type_of% @W47)/\(type_of% @Int.toNat_natCast)/\(type_of% @Nat.mul_one)/\(type_of% @Nat.zero_mul)/\(type_of% @C49)/\(type_of% @D50)/\(type_of% @M47)/\(type_of% @R32)/\(type_of% @Z41)/\(type_of% @U51)/\(type_of% @C50)/\(type_of% @G47)/\(type_of% @U20)/\(type_of% @C36)/\(type_of% @V31)/\(type_of% @B44)/\(type_of% @V38)/\(type_of% @V15)/\(type_of% @R40)/\(type_of% @R39)/\(type_of% @V17)/\(type_of% @D39)/\(type_of% @D17)/\(type_of% @M35)/\(type_of% @E28)/\(type_of% @J28)/\(type_of% @List.length_cons.{0})/\(type_of% @List.length_nil.{0})/\(type_of% @Nat.le_refl)/\(type_of% @Int.toNat_zero)/\(type_of% @Int.toNat_one):=
 ⟨@List.getD_cons_zero.{0},@List.getD_cons_succ.{0},@E45,@Q43,@G48,@M42,@V44,@Z47,@C46,@M29,@Z27,@Y35,@X29,@Z50,@G51,@M50,@W38,@K40,@J35,@R28,@Q37,@W59,@Y31,@D45,@N35,@Y30,@W41,@Q45,@W44,@J48,@V65,@G65,@X57,@Y40,@Y50,@Q40,@E0,@Z1,@Y5,@G1,@G4,@Option.elim_some.{1,0},@List.getElem?_cons_zero.{0},@List.getElem?_cons_succ.{0},@decide_true,@decide_false,@if_true.{1},@if_false.{1},@Bool.false_eq_true,@Nat.zero_add,@Nat.add_zero,@and_true,@true_and,@or_false,@Bool.not_true,@Bool.not_false,@and_self,@N32,@N33,@U33,@K32,@W47,@Int.toNat_natCast,@Nat.mul_one,@Nat.zero_mul,@C49,@D50,@M47,@R32,@Z41,@U51,@C50,@G47,@U20,@C36,@V31,@B44,@V38,@V15,@R40,@R39,@V17,@D39,@D17,@M35,@E28,@J28,@List.length_cons.{0},@List.length_nil.{0},@Nat.le_refl,@Int.toNat_zero,@Int.toNat_one⟩
end Go.Clo

namespace Go.Proofs.YtoiioigihocgbaaGreatDoor
open Go.Clo
theorem mixed:Tryz.prog.follows .mixedOrders=true:=by kernel_rfl
theorem D63 : (Tryz.prog.funcs.toList.all fun f => !(f.name == "runtime.NumGoroutine")) = true := by kernel_rfl
theorem J2:J18 Tryz.prog:=by
 intro f fn hf;have h1:=List.all_eq_true.1 D63 fn (List.mem_of_getElem? (by simpa using hf))
 cases hx : (fn.name == "runtime.NumGoroutine") with
 | false=>rfl
 | true=>rw[hx] at h1;cases h1
end Go.Proofs.YtoiioigihocgbaaGreatDoor









namespace Go.Clo
theorem G68{a:Nat}(h:a<256):IntKind.u8.wrap (a:Int)=(a:Int):=by
 simp only[IntKind.wrap,IntKind.signed,IntKind.bits];simp;omega
theorem K69{n:Nat}(h:n<9223372036854775808)(K:IntKind)(k:VP):W8 .i64 (.int K (n:Int)) k=k (.int .i64 (n:Int)):=by rw[Z32,Y23 (by omega) (by omega)]
end Go.Clo
namespace Go.Proofs.YtoiioigihocgbaaGreatDoor
open Go.Clo
end Go.Proofs.YtoiioigihocgbaaGreatDoor












































































