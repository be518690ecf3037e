/-
  The executor as a claim: closed runs as claims;the way in,from arguments that stand in the world.
  The executor as a claim: slices that may be empty,their rows;arrays in memory.
  The executor as a claim: contracts of the library,proved in the world itself,as claims on the abstract heap.
  Lemmas on claims that chapter 33 uses: append to a literal,the nil test,min,products.
  Marked code out of the program itself: where a sequence is a join and what a loop carries is given;the rest is computed.
  The walk's rules,in one.
  What the generated texts of this seat lean on.
  'awake' of chapter 30 returns true: one run of the closed executor.
-/
import Derived.Test.YtpiobdofbhkmjaaDoorL15
import Derived.Carry
import Derived.ChangeArms
import Derived.DataReads
import Derived.Below
import Derived.Laws.AppendOwn
import Derived.Test.YtpiobdofbhkmjaaDoorL14
import Derived.Test.YtpiobdofbhkmjaaDoorProg
import Derived.KernelRfl
import Derived.Test.YtpiobdofbhkmjaaDoorL12
set_option linter.unusedSimpArgs false
set_option linter.unusedVariables false
set_option linter.unusedSectionVars false
namespace Go.Clo
variable {F:FM} {H:Y0} {P:Program} {args:List Value} {c':Array Value} {e:TypeId} {f:FuncId} {m:Nat × Nat} {nx sz:Nat} {v:Value} {w:World}
theorem Q75 {n:Nat} {orc:Orc} (hm:P.follows .mixedOrders=true) (hNG:J29 P) (ho:V61 P orc) (hr:J66 P orc n f args=some v) (ha:args.all W9=true) (hv:C11 v=true) (H:Y0) (nx:Nat):
  J2 P f args H nx fun v' H' nx'=>v=v'/\H=H'/\nx=nx':=by
 have hE:Enters P f:=by
  unfold J66 at hr
  rcases Y35 (β:=Option Value) hm hNG ho n f args .leaf 0 none (fun v _ _=>some v) with h | ⟨v',H',nx',h,hcs⟩
  .rw[h] at hr;cases hr
  .exact hcs.1
 refine⟨v,H,nx,⟨hE,fun F args' w hh hl => ?_⟩,rfl,rfl,rfl⟩
 have e:=K24 hl ha
 subst e
 refine (R79 hm hNG ho hr ha hv w hh.gl.1).mono fun e w' ⟨he,hb⟩=>⟨v,F,he,K11 F v hv,?_⟩
 exact { le:=Nat.le_refl _,ext:=fun _ _=>rfl,os:=hb.os,tape:=hb.tape,output:=hb.output,size:=hb.size,frame:=fun b h _=>hb.block b h,own:=fun _ h => .inl h,keep:=fun _ _ h=>h,rom:=fun i b h _=>⟨hh.low h,h⟩,hr:=⟨fun i b hi hg=>let ⟨t,h1,h2⟩:=hh.blk i b hi hg;⟨t,h1,h2.mono (fun _ _ h=>h) (hb.block _ h2.lt)⟩,hh.inj,hh.fresh,hh.top,hh.gl.step (fun b h _=>hb.block b h) (fun _ h => .inl h)⟩ }
structure In (w:World) (F:FM) (H:Y0) (nx:Nat):Prop where
 hr:HR F H nx w
 rom:∀ i b,X0 H i=some b->b.isRom=true
theorem In.start (w:World) (hgw:GlW w):In w (fun _=>none) .leaf 0:=
 ⟨⟨fun i b hi=>by omega,fun i j bi bj ti tj hi=>by omega,fun _ _=>rfl,fun _ _=>rfl,⟨hgw,fun x hx ⟨i,_,_,hi,_⟩=>by omega⟩⟩,fun i b h=>by rw[Y40] at h;cases h⟩
theorem U41 {args':List Value} {Q:Value->Y0->Nat->Prop} (h:J2 P f args H nx Q) (hQ:∀ v H' nx',Q v H' nx'->v = .bool true) (hi:In w F H nx) (hl:VL F args args'):
  Calls P f args'.toArray w fun e w'=>e = .returned (.bool true)/\RowKit.Below w.heap.size w w':=by
 obtain⟨v,H',nx',hcs,hq⟩:=h
 have:=hQ _ _ _ hq
 subst this
 refine (hcs.2 F args' w hi.hr hl).mono fun e w' ⟨v',F',he,hvr,hst⟩ => ?_
 cases hvr
 refine⟨he,hst.os,hst.tape,hst.output,hst.size,fun b hb=>hst.frame b hb ?_⟩
 rintro⟨i,k,t,_,hg,hk,_⟩
 rw[hi.rom i k hg] at hk;cases hk
def J21 (F:FM) (i:Nat) (t:Tgt):FM:=fun j=>if j=i then some t else F j
theorem B29 (h:In w F H nx) (t:Tgt):F.le (J21 F nx t):=by
 intro i u hu
 have:i≠nx:=by
  intro e;subst e
  rw[h.hr.fresh i (Nat.le_refl _)] at hu;cases hu
 simp[J21,this,hu]
theorem In.name (h:In w F H nx) (t:Tgt):In w (J21 F nx t) H (nx+1):=by
 have hle:=B29 h t
 refine⟨⟨fun i b hi hg => ?_,fun i j bi bj ti tj hi hj hgi hgj _ _ _ => .inr ⟨h.rom _ _ hgi,h.rom _ _ hgj⟩,fun i hi => ?_,fun i hi=>h.hr.top i (by omega),⟨h.hr.gl.1,fun x hx ⟨i,k,u,_,hg,hk,_⟩=>by rw[h.rom i k hg] at hk;cases hk⟩⟩,h.rom⟩
 .obtain⟨u,h1,h2⟩:=h.hr.blk i b (h.hr.low hg) hg
  exact⟨u,hle _ _ h1,h2.mono hle rfl⟩
 .have:i≠nx:=by omega
  simp[J21,this];exact h.hr.fresh i (by omega)
theorem In.row (h:In w F H nx) {a:Nat} {off:Nat} {c:List Value} (hb:w.heap[a]? = some (.cells c' e m)) (hle:off+c.length<=c'.size)
  (hv:VL F c ((c'.toList.drop off).take c.length)):In w (J21 F nx ⟨a,off,c.length,0,c'.size⟩) (hs H nx (some (.rom c))) (nx+1):=by
 have h1:=h.name ⟨a,off,c.length,0,c'.size⟩
 have hle2:=B29 h ⟨a,off,c.length,0,c'.size⟩
 have hrom:∀ i b,X0 (hs H nx (some (.rom c))) i=some b->b.isRom=true:=by
  intro i b hg
  rw[W7] at hg
  split at hg
  .cases hg;rfl
  .exact h.rom i b hg
 refine⟨⟨fun i b hi hg => ?_,fun i j bi bj ti tj hi hj hgi hgj _ _ _ => .inr ⟨hrom _ _ hgi,hrom _ _ hgj⟩,h1.hr.fresh,fun i hi => ?_,⟨h.hr.gl.1,fun x hx ⟨i,k,u,_,hg,hk,_⟩=>by rw[hrom i k hg] at hk;cases hk⟩⟩,hrom⟩
 .rw[W7] at hg
  split at hg
  .rename_i hi2
   subst hi2
   cases hg
   refine⟨_,by simp[J21];rfl,?_⟩
   exact⟨c',e,m,hb,rfl,rfl,rfl,hle,VL.mono hle2 hv⟩
  .exact h1.hr.blk i b hi hg
 .rw[W7,if_neg (by omega)];exact h.hr.top i (by omega)
theorem M34 {α:Type} {p:Nat->α->Prop}:∀ {n:Nat},(∀ i,i<n->∃ a,p i a)->∃ xs:List α,xs.length=n/\∀ i a,xs[i]? = some a->p i a
 | 0,_=>⟨[],rfl,fun i a h=>by simp at h⟩
 | n+1,h=>by
  obtain⟨xs,h1,h2⟩:=M34 (n:=n) (p:=p) fun i hi=>h i (by omega)
  obtain⟨a,ha⟩:=h n (by omega)
  refine⟨xs++[a],by simp[h1],fun i b hb => ?_⟩
  by_cases hi:i<n
  .rw[List.getElem?_append_left (by omega)] at hb;exact h2 i b hb
  .have:i=n:=by
    have:=(List.getElem?_eq_some_iff.mp hb).1
    simp at this;omega
   subst this
   rw[List.getElem?_append_right (by omega),h1,Nat.sub_self] at hb
   simp at hb;subst hb;exact ha
theorem W42 {α:Type} {f:α->List Value} {sz:Nat} (hf:∀ a,(f a).length=sz):∀ (xs:List α) (l:List Value),(∀ i a,xs[i]? = some a->(l.drop (i*sz)).take sz=f a)->l.take (xs.length*sz)=xs.flatMap f
 | [],l,_=>by simp
 | a :: xs,l,h=>by
  have h0:l.take sz=f a:=by simpa using h 0 a rfl
  have ih:=W42 hf xs (l.drop sz) fun i b hb=>by
   have:=h (i+1) b (by simpa using hb)
   rw[List.drop_drop]
   rw[Nat.add_mul,Nat.one_mul,Nat.add_comm] at this
   exact this
  rw[List.length_cons,Nat.add_mul,Nat.one_mul,Nat.add_comm,List.take_add,h0,ih];rfl
theorem N33 {α:Type} {f:α->List Value} (hf:∀ a,(f a).length=sz) (xs:List α):(xs.flatMap f).length=xs.length*sz:=by
 induction xs with
 | nil=>simp
 | cons a xs ih=>simp[hf,ih,Nat.add_mul];omega
section
variable {X:Type} {enc:TypeId × Value->X} {P:Program} {w:World} {base:Nat} {spare:Nat->Bool} {held:Bool}
theorem C48 {a:Addr} (hb:w.heap[a.block]? = some (.cells c' e m)) (hs:a.spot=none) {k:Nat} {cs:List Value} (h:w.cells? base (a.add k) sz=some cs):
  (c'.toList.drop (a.off+k)).take sz=cs:=by
 obtain⟨_,hl,hc⟩:=World.cells?_some h
 apply List.ext_getElem?
 intro i
 rw[List.getElem?_take]
 split
 .rename_i hi
  rw[<- hc i hi,List.getElem?_drop]
  have hadd:∀ (b:Addr) (n:Nat),b.spot=none->b.add n=⟨b.block,b.off+n,none⟩:=by
   intro b n hn
   unfold Addr.add
   split
   .rename_i h0
    subst h0
    cases b;simp at hn;subst hn;rfl
   .rfl
  rw[hadd a k hs,hadd _ i rfl]
  simp[World.cell?,hb,Nat.add_assoc]
 .rw[List.getElem?_eq_none (by omega)]
theorem In.slice {α:Type} {f:α->List Value} {Pr:α->Prop} {sz:Nat} {F:FM} {H:Y0} {nx:Nat} (hi:In w F H nx) {t e:TypeId} {A:Option Addr} {len cap b0 fuel:Nat} {r:Reach} {x:DataW X × List MemPlace}
  (ht:P.underlying t=some (.slice e)) (hsz:P.cellsOf e=sz) (hf:∀ a,(f a).length=sz) (hok:Cell.ok P w r b0 t (.slice A len cap)) (htr:DataW.trod enc P w base spare held fuel t [.slice A len cap]=some x)
  (helem:∀ n cs y,DataW.trod enc P w base spare held n e cs=some y->∃ a,f a=cs/\Pr a) (hflat:∀ a,(f a).all W9=true):
  ∃ (F':FM) (H':Y0) (nx':Nat) (A':Option Addr) (xs:List α),In w F' H' nx'/\F.le F'/\VR F' (.slice A' len cap) (.slice A len cap)/\xs.length=len/\(∀ a ∈ xs,Pr a)/\Sl H' nx' A' (xs.flatMap f)/\D0 H nx H' nx'/\len<=maxLen:=by
 rcases DataW.trod_slice ht htr with ⟨h0,_⟩ | ⟨a,len',cap',elems,rest,n,_,h0,_,_,hl,hm,hlen,hel,_,_⟩
 .simp at h0
  obtain⟨rfl,rfl,rfl⟩:=h0
  exact⟨F,H,nx,none,[],hi,fun _ _ h=>h,.sliceN _ _,rfl,by simp,fun i v h=>by simp at h,D0.refl _ _,Nat.zero_le _⟩
 .simp at h0
  obtain⟨rfl,rfl,rfl⟩:=h0
  have hspot:a.spot=none:=by
   simp only[Cell.ok,ht] at hok
   exact hok.2.2.2.1
  obtain⟨c',ety,m,hb⟩:∃ c' ety m,w.heap[a.block]? = some (.cells c' ety m):=by
   simp only[Cell.ok,ht] at hok
   obtain⟨_,_,_,_,row,cells,hsh,_⟩:=hok
   unfold World.shape? at hsh
   split at hsh
   .exact⟨_,_,_,by assumption⟩
   .cases hsh
  obtain⟨xs,hx1,hx2⟩:∃ xs:List α,xs.length=len/\∀ i y,xs[i]? = some y->(c'.toList.drop (a.off+i*sz)).take sz=f y/\Pr y:=by
   refine M34 fun i hil => ?_
   have h1:=hel i hil
   rw[List.getElem?_eq_getElem (by omega)] at h1
   obtain⟨cs,h2,h3⟩:=Option.bind_eq_some_iff.mp h1
   obtain⟨y,rfl,hy⟩:=helem _ _ _ h3
   rw[hsz] at h2
   exact⟨y,C48 hb hspot h2,hy⟩
  have hPr:∀ y ∈ xs,Pr y:=fun y hy=>by
   obtain⟨i,hil,rfl⟩:=List.getElem_of_mem hy
   exact (hx2 i _ (List.getElem?_eq_getElem hil)).2
  have hrows:(c'.toList.drop a.off).take (len*sz)=xs.flatMap f:=by
   rw[<- hx1]
   exact W42 hf xs _ fun i y hy=>by rw[List.drop_drop];exact (hx2 i y hy).1
  have hlenF:=N33 hf xs
  by_cases hz:xs.flatMap f=[]
  .refine⟨J21 F nx ⟨a.block,a.off,0,0,0⟩,H,nx+1,some ⟨nx,0,none⟩,xs,hi.name _,B29 hi _,?_,hx1,hPr,fun i v h=>by rw[hz] at h;simp at h,D0.self (by omega),by omega⟩
   have:=VR.slice (F:=J21 F nx ⟨a.block,a.off,0,0,0⟩) (b:=nx) (o:=0) (n:=len) (c:=cap) (c':=cap) (t:=⟨a.block,a.off,0,0,0⟩) (by simp[J21]) (.inl rfl)
   have ha:a=⟨a.block,a.off+0,none⟩:=by cases a;simp at hspot;subst hspot;rfl
   rw[ha];exact this
  .have hle:a.off+(xs.flatMap f).length<=c'.size:=by
    have h1:=congrArg List.length hrows
    simp only[List.length_take,List.length_drop,Array.length_toList] at h1
    have h2:0<(xs.flatMap f).length:=List.length_pos_iff.mpr hz
    omega
   have hvl:VL F (xs.flatMap f) ((c'.toList.drop a.off).take (xs.flatMap f).length):=by
    rw[hlenF,hx1,hrows]
    refine R14 F _ ?_
    rw[List.all_eq_true]
    intro v hv
    obtain⟨y,_,hy⟩:=List.mem_flatMap.mp hv
    exact List.all_eq_true.mp (hflat y) v hy
   refine⟨_,_,_,some ⟨nx,0,none⟩,xs,hi.row hb hle hvl,B29 hi _,?_,hx1,hPr,fun i v h=>⟨nx,0,xs.flatMap f,rfl,by omega,by rw[V3,Q0];rfl,by rw[Nat.zero_add];exact h⟩,(D0.refl H nx).new _ (Nat.le_refl _) (by omega),by omega⟩
   have:=VR.slice (F:=J21 F nx ⟨a.block,a.off,(xs.flatMap f).length,0,c'.size⟩) (b:=nx) (o:=0) (n:=len) (c:=cap) (c':=cap) (t:=⟨a.block,a.off,(xs.flatMap f).length,0,c'.size⟩) (by simp[J21]) (.inl rfl)
   have ha:a=⟨a.block,a.off+0,none⟩:=by cases a;simp at hspot;subst hspot;rfl
   rw[ha];exact this
theorem K39 (hl:laidOutB P=true) {W W':World} (hb:RowKit.Below W.heap.size W W'):∀ (ts:List TypeId) (vs:List Value) (ds:List (DataW X)) (ps:List MemPlace),(∀ t ∈ ts,P.readableRec t=true/\t<P.types.size) ->
  DataW.TrodAll enc P W 0 (fun _=>true) true ts vs ds ps->(∀ x ∈ ps,x.block<W.heap.size)->DataW.TrodAll enc P W' 0 (fun b=>decide (b<W.heap.size)) true ts vs ds ps
 | [],[],[],ps,_,h,_=>h
 | t :: ts,v :: vs,d :: ds,ps,ht,⟨p,q,h1,h2,e⟩,hlt=>by
  subst e
  refine⟨p,q,?_,K39 hl hb ts vs ds q (fun u hu=>ht u (List.mem_cons_of_mem _ hu)) h2 fun x hx=>hlt x (List.mem_append_right _ hx),rfl⟩
  obtain⟨h3,h4⟩:=ht t List.mem_cons_self
  exact RowKit.Below.trod hl h3 h4 h1 hb fun x hx=>hlt x (List.mem_append_left _ hx)
theorem G60 {f:Func} {s:ChangeSpec} {apart fresh handsOn:Bool} {W W':World} {args:Array Value} {ds gs:List (DataW X)} {before pa pv:List MemPlace}
  (hW:DataW.Whole enc P f.params.toList s.vars apart W args.toList ds gs before) (hb:RowKit.Below W.heap.size W W')
  (hres:∀ (b:Nat) (sp:Nat->Bool) (hd:Bool),DataW.TrodAll enc P W' b sp hd f.resultTypes.toList (v.resultList f.resultTypes.size) (s.fn X (ds++gs)).results [])
  (hargs:DataW.TrodAll enc P W' 0 (fun b=>decide (b<W.heap.size)) true f.params.toList args.toList (s.fn X (ds++gs)).args pa)
  (hvars:DataW.TrodVars enc P W' (fun b=>decide (b<W.heap.size)) s.vars (s.fn X (ds++gs)).vars pv):s.post enc P f apart fresh handsOn false W args v W':=
 ⟨ds,gs,before,[],pa,pv,hW,hres _ _ _,hargs,hvars,hb.frame _,fun h=>by cases h⟩
end
end Go.Clo

namespace Go.Clo
variable {A:Option Addr} {H:Y0} {cap i m n nx size:Nat} {e:TypeId} {l:List Value} {x:Value}
theorem Z80 {p:Program} {N22:TypeId->Bool} {d:Nat} {count off:Nat} (h:rowAt p N22 d e count off n=true):off<=count*p.cellsOf e:=by
 cases d with
 | zero=>simp[rowAt] at h
 | succ d=>
  unfold rowAt at h
  simp only at h
  split at h
  .cases h
  .rename_i hs
   have h1:=Nat.div_add_mod off (p.cellsOf e)
   have h3:off%p.cellsOf e<p.cellsOf e:=Nat.mod_lt _ (by omega)
   rw[Bool.or_eq_true] at h
   rcases h with h | h
   .simp only[Bool.and_eq_true,beq_iff_eq,decide_eq_true_eq] at h
    obtain⟨⟨hr,hi⟩,_⟩:=h
    rw[hr,Nat.add_zero,Nat.mul_comm] at h1
    rw[<- h1]
    exact Nat.mul_le_mul_right _ (by omega)
   .simp only[Bool.and_eq_true,decide_eq_true_eq] at h
    have h2:(off/p.cellsOf e+1)*p.cellsOf e<=count*p.cellsOf e:=Nat.mul_le_mul_right _ (by omega)
    rw[Nat.add_mul,Nat.one_mul,Nat.mul_comm] at h2
    omega
theorem G53 {p:Program} {e:TypeId} {count off:Nat}:∀ {d:Nat} {u:TypeId} {n:Nat},liesAt p d e count off u n=true->off<=count*p.cellsOf e
 | 0,_,_,h=>by simp[liesAt] at h
 | d+1,u,n,h=>by
  unfold liesAt at h
  rw[Bool.or_eq_true] at h
  rcases h with h | h
  .exact Z80 h
  .split at h
   .exact G53 h
   .cases h
def Has (H:Y0) (nx:Nat) (A:Option Addr):Prop:=A=none\/∃ b o row,A=some ⟨b,o,none⟩/\b<nx/\V3 H b=some row
theorem Has.ext {H':Y0} {nx':Nat} (h:Has H nx A) (e:D0 H nx H' nx'):Has H' nx' A:=by
 rcases h with h | ⟨b,o,row,h1,h2,h3⟩
 .exact .inl h
 .exact .inr ⟨b,o,row,h1,Nat.lt_of_lt_of_le h2 e.le,by rw[e.row h2];exact h3⟩
section
variable {X:Type} {enc:TypeId × Value->X} {P:Program} {w:World} {base:Nat} {spare:Nat->Bool} {held:Bool}
theorem In.sliceH {α:Type} {f:α->List Value} {Pr:α->Prop} {sz:Nat} {F:FM} (hi:In w F H nx) {t:TypeId} {len b0 fuel:Nat} {r:Reach} {x:DataW X × List MemPlace}
  (ht:P.underlying t=some (.slice e)) (hsz:P.cellsOf e=sz) (hf:∀ a,(f a).length=sz) (hok:Cell.ok P w r b0 t (.slice A len cap)) (htr:DataW.trod enc P w base spare held fuel t [.slice A len cap]=some x)
  (helem:∀ n cs y,DataW.trod enc P w base spare held n e cs=some y->∃ a,f a=cs/\Pr a) (hflat:∀ a,(f a).all W9=true):
  ∃ (F':FM) (H':Y0) (nx':Nat) (A':Option Addr) (xs:List α),In w F' H' nx'/\F.le F'/\VR F' (.slice A' len cap) (.slice A len cap)/\xs.length=len/\(∀ a ∈ xs,Pr a)/\Sl H' nx' A' (xs.flatMap f)/\D0 H nx H' nx'/\len<=maxLen/\Has H' nx' A':=by
 rcases DataW.trod_slice ht htr with ⟨h0,_⟩ | ⟨a,len',cap',elems,rest,n,_,h0,_,_,hl,hm,hlen,hel,_,_⟩
 .simp at h0
  obtain⟨rfl,rfl,rfl⟩:=h0
  exact⟨F,H,nx,none,[],hi,fun _ _ h=>h,.sliceN _ _,rfl,by simp,fun i v h=>by simp at h,D0.refl _ _,Nat.zero_le _,.inl rfl⟩
 .simp at h0
  obtain⟨rfl,rfl,rfl⟩:=h0
  have hspot:a.spot=none:=by
   simp only[Cell.ok,ht] at hok
   exact hok.2.2.2.1
  obtain⟨c',ety,m,hb,hoff⟩:∃ c' ety m,w.heap[a.block]? = some (.cells c' ety m)/\a.off<=c'.size:=by
   simp only[Cell.ok,ht] at hok
   obtain⟨_,_,_,_,row,cells,hsh,hlies⟩:=hok
   unfold World.shape? at hsh
   split at hsh
   .rename_i cc ee mm hcell
    cases hsh
    refine⟨_,_,_,hcell,?_⟩
    have h1:=G53 hlies
    exact Nat.le_trans h1 (Nat.div_mul_le_self _ _)
   .cases hsh
  obtain⟨xs,hx1,hx2⟩:∃ xs:List α,xs.length=len/\∀ i y,xs[i]? = some y->(c'.toList.drop (a.off+i*sz)).take sz=f y/\Pr y:=by
   refine M34 fun i hil => ?_
   have h1:=hel i hil
   rw[List.getElem?_eq_getElem (by omega)] at h1
   obtain⟨cs,h2,h3⟩:=Option.bind_eq_some_iff.mp h1
   obtain⟨y,rfl,hy⟩:=helem _ _ _ h3
   rw[hsz] at h2
   exact⟨y,C48 hb hspot h2,hy⟩
  have hPr:∀ y ∈ xs,Pr y:=fun y hy=>by
   obtain⟨i,hil,rfl⟩:=List.getElem_of_mem hy
   exact (hx2 i _ (List.getElem?_eq_getElem hil)).2
  have hrows:(c'.toList.drop a.off).take (len*sz)=xs.flatMap f:=by
   rw[<- hx1]
   exact W42 hf xs _ fun i y hy=>by rw[List.drop_drop];exact (hx2 i y hy).1
  have hlenF:=N33 hf xs
  have hle:a.off+(xs.flatMap f).length<=c'.size:=by
   have h1:=congrArg List.length hrows
   simp only[List.length_take,List.length_drop,Array.length_toList] at h1
   omega
  have hvl:VL F (xs.flatMap f) ((c'.toList.drop a.off).take (xs.flatMap f).length):=by
   rw[hlenF,hx1,hrows]
   refine R14 F _ ?_
   rw[List.all_eq_true]
   intro v hv
   obtain⟨y,_,hy⟩:=List.mem_flatMap.mp hv
   exact List.all_eq_true.mp (hflat y) v hy
  have hrow:V3 (hs H nx (some (.rom (xs.flatMap f)))) nx=some (xs.flatMap f):=by rw[V3,Q0];rfl
  refine⟨_,_,_,some ⟨nx,0,none⟩,xs,hi.row hb hle hvl,B29 hi _,?_,hx1,hPr,fun i v h=>⟨nx,0,xs.flatMap f,rfl,by omega,hrow,by rw[Nat.zero_add];exact h⟩,(D0.refl H nx).new _ (Nat.le_refl _) (by omega),by omega,.inr ⟨nx,0,_,rfl,by omega,hrow⟩⟩
  have:=VR.slice (F:=J21 F nx ⟨a.block,a.off,(xs.flatMap f).length,0,c'.size⟩) (b:=nx) (o:=0) (n:=len) (c:=cap) (c':=cap) (t:=⟨a.block,a.off,(xs.flatMap f).length,0,c'.size⟩) (by simp[J21]) (.inl rfl)
  have ha:a=⟨a.block,a.off+0,none⟩:=by cases a;simp at hspot;subst hspot;rfl
  rw[ha];exact this
end
theorem N84 (h:Has H nx A):Src H size (.slice A 0 cap) 0 []:=by
 refine⟨rfl,fun k => ?_,by simp⟩
 rcases h with rfl | ⟨b,o,row,rfl,_,hrow⟩
 .rfl
 .unfold V3 at hrow
  cases hg:X0 H b with
  | none=>rw[hg] at hrow;cases hrow
  | some blk=>
   rw[hg] at hrow
   show G24 H ⟨b,o,none⟩ (0*size) False k=k []
   unfold G24
   simp only
   rw[W6,hg,Nat.zero_mul]
   cases blk with
   | cells c sl=>rfl
   | map es c=>simp[V4.row] at hrow
   | rom c=>rfl
theorem Y36 (h:Sl H nx A l) (h0:Has H nx A) (hl:l.length=m*size) (hsz:0<size):Src H size (.slice A m cap) m l:=by
 cases m with
 | zero=>
  have:l=[]:=by simpa using hl
  subst this
  exact N84 h0
 | succ m=>exact R66 h hl (Nat.mul_pos (by omega) hsz)
theorem X79 {bytes:Nat} (hx:Src H size x 0 []) (hb:bytes<=1000) (k:EP):U7 (.slice none 0 0) x size bytes H nx k=k (.slice none 0 0) H nx:=by
 unfold U7 X27
 rw[hx.len]
 dsimp only
 have h1:(2*(0+0)+1000)*bytes<=281474976710656:=by omega
 rw[N2,B6 h1,B6 (show 0+0<=1000000000 by omega)]
 simp only[Bool.and_self,cond_true]
 rw[hx.first]
 rfl
theorem W32 {b m sl:Nat} {row:List Value} (hg:X0 H b=some (.cells row sl)) (hx:Src H size x m l) (hm:m<=n) (ho:Z0 l=true) (hl:l.length<=row.length) (k:EP):
  Z39 (.slice (some ⟨b,0,none⟩) n cap) x size H nx k=k (.int .i64 (m:Int)) (hs H b (some (.cells (G6 row 0 l) sl))) nx:=by
 unfold Z39
 rw[hx.len]
 dsimp only
 have e:Nat.min m n=m:=Nat.min_eq_left hm
 rw[N2,e,hx.first,ho]
 simp only[cond_true]
 rw[X38,hg]
 simp only[stP,Nat.zero_add,hl,true_and]
 rfl
theorem E48 {c:List Value} {o:Nat} (h:o<c.length):G6 c o [x]=c.set o x:=by
 unfold G6
 rw[List.set_eq_take_append_cons_drop,if_pos h]
 simp
theorem E84 {l:List Nat} {x:Nat}:(N1 l).set i (.int .u32 (x:Int))=N1 (l.set i x):=by simp[N1,List.map_set]
theorem G87 {l:List Int} {x:Int}:(R3 l).set i (.int .i64 x)=R3 (l.set i x):=by simp[R3,List.map_set]
theorem Z7 {l:List Nat} {x:Nat} (h:i<l.length):G6 (N1 l) i [.int .u32 (x:Int)]=N1 (l.set i x):=by rw[E48 (by rw[G1];exact h),E84]
theorem J56 {l:List Int} {x:Int} (h:i<l.length):G6 (R3 l) i [.int .i64 x]=R3 (l.set i x):=by rw[E48 (by rw[W5];exact h),G87]
end Go.Clo

namespace Go.Clo
theorem U5.row {F:FM} {H:Y0} {nx:Nat} {w w':World} (hh:HR F H nx w) (hb:RowKit.Below w.heap.size w w') {g cap:Nat} {cur:Array Value} {e:TypeId} {xs:List Value} (hg:w.heap.size<=g) (hc:w'.heap[g]? = some (.cells cur e (0,0)))
  (h1:xs.length<=cap) (h2:cur.size=cap) (h3:cur.toList.take xs.length=xs) (hbd:cap<=9223372036854775807) (hfl:xs.all W9=true):
  ∃ F',VR F' (.slice (some ⟨nx,0,none⟩) xs.length xs.length) (.slice (some ⟨g,0,none⟩) xs.length cap)/\U5 F H nx w F' (hs H nx (some (.cells xs 1))) (nx+1) w':=by
 refine⟨upd F nx ⟨g,0,xs.length,1,cap⟩,?_,U5.name hh rfl hb.os hb.tape hb.output hb.size (fun k hk=>hb.block k hk) ?_ hg⟩
 .have:=VR.slice (F:=upd F nx ⟨g,0,xs.length,1,cap⟩) (b:=nx) (o:=0) (n:=xs.length) (c:=xs.length) (c':=cap) (t:=⟨g,0,xs.length,1,cap⟩) (R10 _ _ _) (.inr ⟨Nat.one_pos,h1,by simp,by simp,hbd⟩)
  exact this
 .refine⟨cur,e,hc,h2,rfl,rfl,by simpa using h1,?_⟩
  simp only[List.drop_zero]
  rw[h3]
  exact R14 _ _ hfl
end Go.Clo

namespace Go.Clo
variable {H H0:Y0} {b bytes lo m n nx size:Nat} {c l:List Value} {k:EP} {x:Value}
theorem Q83 (z:List Value) (k:List Value->Prop):G7 0 1 z [] k=k []:=by
 rw[G91]
 show (if Z0 []=true then k [] else False)=_
 exact if_pos (show Z0 []=true from rfl)
theorem C73 {cap sl:Nat} {c:List Value} (hsz:0<size) (hg:X0 H b=some (.cells c sl)) (hl:c.length=n*size) (k:List Value->Prop):G8 H size n (.slice (some ⟨b,0,none⟩) n cap) False k=k c:=by
 rcases Nat.eq_zero_or_pos n with h0 | h0
 .subst h0
  simp at hl;subst hl
  unfold G8 G24
  dsimp only
  rw[W6,hg]
  simp only[Option.elim_some,Nat.zero_mul,D9]
  exact E3 _ _
 .exact (Z8 hg hl (Nat.mul_pos h0 hsz)).first k
theorem V65 (hsz:0<size) (hg:X0 H b=some (.cells c 0)) (hl:c.length=n*size) (hx:Src H size x m l) (hm:0<m) (ho:Z0 l=true)
  (hb1:(2*(n+m)+1000)*bytes<=281474976710656) (hb2:n+m<=1000000000):U7 (.slice (some ⟨b,0,none⟩) n n) x size bytes H nx k=k (.slice (some ⟨nx,0,none⟩) (n+m) (n+m)) (hs H nx (some (.cells (c++l) size))) (nx+1):=by
 have hlen:(c++l).length=(n+m)*size:=by rw[List.length_append,hl,hx.size,Nat.add_mul]
 unfold U7 X27
 rw[hx.len]
 dsimp only
 rw[N2,B6 hb1,B6 hb2]
 simp only[Bool.and_self,cond_true]
 rw[hx.first,ho,Y29 (show n<n+m by omega)]
 simp only[cond_true,cond_false]
 rw[C73 hsz hg hl,E3,hlen,E14]
 simp only[cond_true,B26]
 rw[W6,hg]
 simp only[Option.elim_some]
 have hls:C10 (.cells c 0) 0 n size=some false:=rfl
 rw[hls]
 dsimp only
 simp only[C17]
 rw[N2,N2,Y8]
theorem E79 (hg:X0 H b=some (.cells c 0)) (hl:c.length=n*size) (hx:Src H size x 0 [])
  (hb1:(2*n+1000)*bytes<=281474976710656) (hb2:n<=1000000000):U7 (.slice (some ⟨b,0,none⟩) n n) x size bytes H nx k=k (.slice (some ⟨b,0,none⟩) n n) (hs H b (some (.cells c 0))) nx:=by
 unfold U7 X27
 rw[hx.len]
 dsimp only
 rw[N2,B6 (show (2*(n+0)+1000)*bytes<=281474976710656 from hb1),B6 (show n+0<=1000000000 from hb2)]
 simp only[Bool.and_self,cond_true]
 rw[hx.first]
 simp only[Z0,cond_true,Nat.add_zero,B6 (Nat.le_refl n),N60,N2]
 rw[X38,hg]
 simp only[Y33,List.length_nil,Nat.add_zero,Nat.zero_add,G6,List.append_nil,List.take_append_drop,hl,Nat.le_refl,true_and]
theorem U77 (t:TypeId) (A:Option Addr) (n c:Nat) (k:VP):wVf (.eqn false (.slice t)) [.slice A n c,.slice none 0 0] k=k (.bool A.isNone):=by
 have e:VF.ev (.eqn false (.slice t)) [.slice A n c,.slice none 0 0]=some (.bool A.isNone):=by cases A<;>rfl
 unfold wVf
 rw[e,R9];rfl
theorem W21:∀ l:List Int,Z0 (R3 l)=true
 | []=>rfl
 | x :: l=>W21 l
def X30 (lo:Nat) (H:Y0) (nx:Nat) (v:Value) (c:List Value):Prop:=
 Q6 lo H nx 1 v c.length c\/(c=[]/\∃ b,lo<=b/\b<nx/\v = .slice (some ⟨b,0,none⟩) 0 0/\X0 H b=some (.cells [] 0))
theorem X30.ext {lo:Nat} {H:Y0} {nx:Nat} {v:Value} {c:List Value} {H':Y0} {nx':Nat} (h:X30 lo H nx v c) (e:D0 H nx H' nx'):X30 lo H' nx' v c:=by
 rcases h with h | ⟨h0,b,h1,h2,h3,h4⟩
 .exact .inl (h.ext e)
 .exact .inr ⟨h0,b,h1,Nat.lt_of_lt_of_le h2 e.le,h3,by rw[e.get b h2];exact h4⟩
theorem X30.sl {lo:Nat} {H:Y0} {nx:Nat} {v:Value} {c:List Value} (h:X30 lo H nx v c):∃ A,v = .slice A c.length c.length/\Sl H nx A c/\Has H nx A:=by
 rcases h with h | ⟨rfl,b,h1,h2,rfl,h4⟩
 .obtain⟨A,rfl,hS⟩:=h.sl
  refine⟨A,rfl,hS,?_⟩
  rcases h.2 with ⟨_,e⟩ | ⟨b,_,h2,e,h4⟩
  .injection e with e1
   exact .inl e1
  .injection e with e1
   subst e1
   exact .inr ⟨b,0,c,rfl,h2,by simp[V3,h4,V4.row]⟩
 .exact⟨_,rfl,Sl.nil _ _ _,.inr ⟨b,0,[],rfl,h2,by simp[V3,h4,V4.row]⟩⟩
theorem Z57 {v:Value} {y:Value} (hA:X30 lo H nx v c) (hx:Src H 1 x 1 [y]) (ho:Z0 [y]=true) (hb:bytes<=16) (hlen:c.length<=1000000) (hE:D0 H0 lo H nx) (hlo:lo<=nx)
  (hk:∀ v' H',X30 lo H' (nx+1) v' (c++[y])->D0 H0 lo H' (nx+1)->(∀ i,i<lo->X0 H' i=X0 H i)->k v' H' (nx+1)):U7 v x 1 bytes H nx k:=by
 have hb1:(2*(c.length+1)+1000)*bytes<=281474976710656:=by
  have:=Nat.mul_le_mul (show 2*(c.length+1)+1000<=2*1000001+1000 by omega) hb
  omega
 rcases hA with hA | ⟨rfl,b,h1,h2,rfl,h4⟩
 .have hblk:∀ A n' c',v = .slice (some A) n' c'->lo<=A.block:=fun A n' c' e=>by
   rcases hA.2 with ⟨_,e'⟩ | ⟨b,h1,_,e',_⟩
   .rw[e'] at e;cases e
   .rw[e'] at e;cases e;exact h1
  refine N16 (by omega) hA hx (by omega) ho hb1 (by omega) hE hlo fun v' H' h1 h2 h3=>hk v' H' (.inl ?_) h2 fun i hi=>h3 i (by omega) fun A n' c' e=>by have:=hblk A n' c' e;omega
  rw[List.length_append];exact h1
 .rw[V65 (n:=0) (by omega) h4 (by simp) hx (by omega) ho (by simpa using hb1) (by omega)]
  exact hk _ _ (.inl ⟨rfl,.inr ⟨nx,hlo,by omega,rfl,Q0 _ _ _⟩⟩) (hE.new _ hlo (by omega)) fun i hi=>M0 _ (by omega)
theorem Y34 {P:Program} {g:FuncId} {first cap args:List Value} {Q:EP} (h:J2 P g (first++args++cap) H nx Q) (hk:∀ v H' nx',Q v H' nx'->k v H' nx'):
  E22 P (.func (.func g) ⟨first⟩ ⟨cap⟩) args H nx k:=by
 show R7 (first++args++cap) (fun vs=>M12 P g vs H nx False k)
 rw[E3]
 exact .inr (h.mono hk)
theorem K80 (hg:X0 H b=some (.cells [] 0)) (hlo:lo<=b) (hb:b<nx) (hx:Src H 1 x m l) (ho:Z0 l=true) (hm:m<=1000000) (hby:bytes<=16) (hE:D0 H0 lo H nx)
  (hk:∀ v' H' nx',nx<=nx'->X30 lo H' nx' v' l->D0 H0 lo H' nx'->k v' H' nx'):U7 (.slice (some ⟨b,0,none⟩) 0 0) x 1 bytes H nx k:=by
 have hb1:(2*(0+m)+1000)*bytes<=281474976710656:=by
  have:=Nat.mul_le_mul (show 2*(0+m)+1000<=2*1000000+1000 by omega) hby
  omega
 have hl:=hx.size
 rcases Nat.eq_zero_or_pos m with h0 | h0
 .subst h0
  have:l=[]:=List.length_eq_zero_iff.1 (by omega)
  subst this
  rw[E79 (n:=0) hg (by rfl) hx (by omega) (by omega)]
  exact hk _ _ _ (Nat.le_refl _) (.inr ⟨rfl,b,hlo,hb,rfl,Q0 _ _ _⟩) (hE.hs hlo)
 .rw[V65 (n:=0) (by omega) hg (by simp) hx h0 ho hb1 (by omega)]
  refine hk _ _ _ (by omega) (.inl ⟨by omega,.inr ⟨nx,by omega,by omega,?_,?_⟩⟩) (hE.new _ (by omega) (by omega))
  .rw[Nat.zero_add,hl,Nat.mul_one]
  .rw[Q0];rfl
end Go.Clo

namespace Go.Clo
def Z96:Option (Nat × Bool)->Option (Nat × Bool)->Bool
 | none,none=>true
 | some (a,x),some (b,y)=>Nat.beq a b&&(cond x y (!y))
 | _,_=>false
def V97:Option (Nat × Bool)->Option Nat->Bool
 | some (a,_),some b=>Nat.beq a b
 | _,_=>false
def B86 (g:Option (Nat × Bool)) (cur:List S):List S->List G
 | []=>[(g,cur.reverse)]
 | s :: l=>cond (Z96 g s.guard && !(V97 g s.dst)) (B86 g (⟨none,s.dst,s.i⟩ :: cur) l) ((g,cur.reverse) :: B86 s.guard [⟨none,s.dst,s.i⟩] l)
def grp:List S->List G
 | []=>[]
 | s :: l=>B86 s.guard [⟨none,s.dst,s.i⟩] l
def D86 (x:Nat):List Nat->Bool
 | []=>false
 | y :: l=>Nat.beq x y || D86 x l
def X73 (ws:List Nat):List Nat->List Nat->List Nat
 | acc,[]=>acc
 | acc,x :: l=>cond (D86 x ws || D86 x acc) (X73 ws acc l) (X73 ws (x :: acc) l)
def X21 {β:Type}:C->Nat->List (Nat × List Nat)->List (List Nat)->List HT->(D->Nat->List (Nat × List Nat)->List (List Nat)->List HT->β)->β
 | .skip,n,js,ls,hs,k=>k .skip n js ls hs
 | .ops l,n,js,ls,hs,k=>match grp l with
  | []=>k (.ops [] .nil) n js ls hs
  | [(none,m)]=>k (.ops [(none,m)] (.one .nil)) n js ls hs
  | gs=>match hs with
   | h :: hs=>k (.ops gs h) n js ls hs
   | []=>k (.ops gs .nil) n js ls hs
 | .draw ms l,n,js,ls,hs,k=>match grp l with
  | []=>k (.draw ms [] .nil) n js ls hs
  | [(none,m)]=>k (.draw ms [(none,m)] (.one .nil)) n js ls hs
  | gs=>match hs with
   | h :: hs=>k (.draw ms gs h) n js ls hs
   | []=>k (.draw ms gs .nil) n js ls hs
 | .seq a b,n,js,ls,hs,k=>match js with
  | []=>X21 a (n+1) [] ls hs fun a n js ls hs=>X21 b n js ls hs fun b n js ls hs=>k (.seq a b) n js ls hs
  | (i,ws) :: r=>cond (Nat.beq i n)
    (X21 a (n+1) r ls hs fun a n js ls hs=>X21 b n js ls hs fun b n js ls hs=>k (.join ws (X73 ws [] a.writes) a b) n js ls hs)
    (X21 a (n+1) js ls hs fun a n js ls hs=>X21 b n js ls hs fun b n js ls hs=>k (.seq a b) n js ls hs)
 | .cond x t e,n,js,ls,hs,k=>X21 t n js ls hs fun t n js ls hs=>X21 e n js ls hs fun e n js ls hs=>k (.cond x t e) n js ls hs
 | .block id c,n,js,ls,hs,k=>X21 c n js ls hs fun c n js ls hs=>k (.block id c) n js ls hs
 | .loop c,n,js,ls,hs,k=>match ls with
  | ws :: ls=>X21 c n js ls hs fun c n js ls hs=>k (.loop ws (X73 ws [] c.writes) c) n js ls hs
  | []=>X21 c n js [] hs fun c n js ls hs=>k (.loop [] c.writes c) n js ls hs
 | .exit id,n,js,ls,hs,k=>k (.exit id) n js ls hs
 | .ret,n,js,ls,hs,k=>k .ret n js ls hs
def Y5 (P:Program) (f:FuncId) (js:List (Nat × List Nat)) (ls:List (List Nat)) (hs:List HT):D:=match cfn P f with
 | some c=>X21 c.body 0 js ls hs fun d _ _ _ _=>d
 | none => .skip
theorem K2 {P:Program} (hm:P.follows .mixedOrders=true) (hNG:J29 P) {f:FuncId} (n d:Nat) (body:D) (res:List (X × Option (Option Nat))) (hcf:cfn P f=some ⟨n,d,body.erase,res⟩) (hok:body.ok n d=true)
  {args:List Value} (hl:args.length<=n) {H:Y0} {nx:Nat} {Q:Value->Y0->Nat->Prop} {F:Prop} (he:Q73 P n d body res args H nx Q=F) (h:F):J2 P f args H nx Q:=
 D65 hm hNG hcf hok hl (he.symm ▸ h)
end Go.Clo

namespace Go.Clo
theorem W0:(type_of% @List.getD_cons_zero.{0})/\(type_of% @List.getD_cons_succ.{0})/\(type_of% @M24)/\(type_of% @Z63)/\(type_of% @R46)/\(type_of% @U24)/\(type_of% @R30)/\(type_of% @B66)/\(type_of% @W10)/\(type_of% @K34)/\(type_of% @K31)/\(type_of% @B51)/\(type_of% @E45)/\(type_of% @Y56)/\(type_of% @M71)/\(type_of% @M70)/\(type_of% @Q56)/\(type_of% @V57)/\(type_of% @X37)/\(type_of% @V45)/\(type_of% @X18)/\(type_of% @Y42)/\(type_of% @X31)/\(type_of% @W62)/\(type_of% @W37)/\(type_of% @X45)/\(type_of% @D58)/\(type_of% @N63)/\(type_of% @J48)/\(type_of% @R48)/\(type_of% @N88)/\(type_of% @C89)/\(type_of% @J78)/\(type_of% @N58)/\(type_of% @M68)/\(type_of% @G40)/\(type_of% @Q0)/\(type_of% @M0)/\(type_of% @N7)/\(type_of% @N2)/\(type_of% @Y8)/\(type_of% @Option.elim_some.{1,0})/\(type_of% @List.getElem?_cons_zero.{0})/\(type_of% @List.getElem?_cons_succ.{0})/\(type_of% @decide_true)/\(type_of% @decide_false)/\(type_of% @if_true.{1})/\(type_of% @if_false.{1})/\(type_of% @Bool.false_eq_true)/\(type_of% @Nat.zero_add)/\(type_of% @Nat.add_zero)/\(type_of% @and_true)/\(type_of% @true_and)/\(type_of% @or_false)/\(type_of% @Bool.not_true)/\(type_of% @Bool.not_false)/\(type_of% @and_self)/\(type_of% @Q23)/\(type_of% @B52)/\(type_of% @Z38)/\(type_of% @U50)/\(type_of% @D63)/\(type_of% @Int.toNat_natCast)/\(type_of% @Nat.mul_one)/\(type_of% @Nat.zero_mul)/\(type_of% @N55)/\(type_of% @U70)/\(type_of% @X62)/\(type_of% @U51)/\(type_of% @Q59)/\(type_of% @D71)/\(type_of% @D69)/\(type_of% @Z65)/\(type_of% @Y33)/\(type_of% @Z29)/\(type_of% @C46)/\(type_of% @R65)/\(type_of% @R59)/\(type_of% @V13)/\(type_of% @K40)/\(type_of% @M40)/\(type_of% @E17)/\(type_of% @Z59)/\(type_of% @Q27)/\(type_of% @W52)/\(type_of% @K46)/\(type_of% @Z45)/\(type_of% @List.length_cons.{0})/\(type_of% @List.length_nil.{0})/\(type_of% @Nat.le_refl)/\(type_of% @Int.toNat_zero)/\(type_of% @Int.toNat_one):=
 ⟨@List.getD_cons_zero.{0},@List.getD_cons_succ.{0},@M24,@Z63,@R46,@U24,@R30,@B66,@W10,@K34,@K31,@B51,@E45,@Y56,@M71,@M70,@Q56,@V57,@X37,@V45,@X18,@Y42,@X31,@W62,@W37,@X45,@D58,@N63,@J48,@R48,@N88,@C89,@J78,@N58,@M68,@G40,@Q0,@M0,@N7,@N2,@Y8,@Option.elim_some.{1,0},@List.getElem?_cons_zero.{0},@List.getElem?_cons_succ.{0},@decide_true,@decide_false,@if_true.{1},@if_false.{1},@Bool.false_eq_true,@Nat.zero_add,@Nat.add_zero,@and_true,@true_and,@or_false,@Bool.not_true,@Bool.not_false,@and_self,@Q23,@B52,@Z38,@U50,@D63,@Int.toNat_natCast,@Nat.mul_one,@Nat.zero_mul,@N55,@U70,@X62,@U51,@Q59,@D71,@D69,@Z65,@Y33,@Z29,@C46,@R65,@R59,@V13,@K40,@M40,@E17,@Z59,@Q27,@W52,@K46,@Z45,@List.length_cons.{0},@List.length_nil.{0},@Nat.le_refl,@Int.toNat_zero,@Int.toNat_one⟩
end Go.Clo

namespace Go.Proofs.YtpiobdofbhkmjaaDoor
open Go.Clo
theorem mixed:Tryd.prog.follows .mixedOrders=true:=by kernel_rfl
theorem Y87 : (Tryd.prog.funcs.toList.all fun f => !(f.name == "runtime.NumGoroutine")) = true := by kernel_rfl
theorem Z2:J29 Tryd.prog:=by
 intro f fn hf
 have h1:=List.all_eq_true.1 Y87 fn (List.mem_of_getElem? (by simpa using hf))
 cases hx : (fn.name == "runtime.NumGoroutine") with
 | false=>rfl
 | true=>rw[hx] at h1;cases h1
end Go.Proofs.YtpiobdofbhkmjaaDoor

namespace Go.Proofs.YtpiobdofbhkmjaaDoor
open Go.Clo
set_option maxRecDepth 1000000 in
theorem D81:J66 Tryd.prog U89 100 6 []=some (.bool true):=by kernel_rfl
theorem C21 (H:Y0) (nx:Nat):J2 Tryd.prog 6 [] H nx fun v H' nx' => .bool true=v/\H=H'/\nx=nx':=Q75 mixed Z2 (Y88 _) D81 rfl rfl H nx
end Go.Proofs.YtpiobdofbhkmjaaDoor
