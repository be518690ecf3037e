/-
  Arguments opened,however deep: what is read at a type stands in the abstract heap (nested slices,structs),for any world.
  Digits on the abstract heap;contracts of nat.trim,Of,Norm.
  Arithmetic of 64 bits without sign;slices made by make;append to an empty slice.
  Contracts: cmp.Compare,nat.Cmp,nat.Uint64,bits.Len32,nat.Bits.
-/
import Derived.Test.YtpiobdofbhkmjaaDoorL16
import Derived.SizedLaws
import Derived.ChangeMaps5
import Derived.Test.YtpiobdofbhkmjaaDoorL22
import Derived.Test.YtpiobdofbhkmjaaDoorL17
set_option linter.unusedSimpArgs false
set_option linter.unusedVariables false
set_option linter.unusedSectionVars false
namespace Go.Clo
variable {H:Y0} {a:Addr} {nx sz:Nat}
section
variable {X:Type} {enc:TypeId × Value->X} {P:Program} {w:World} {α β:Type}
def Opn (enc:TypeId × Value->X) (P:Program) (w:World) (t:TypeId) (f:α->List Value) (Pr:Y0->Nat->α->Prop):Prop:=
 ∀ (F:FM) (H:Y0) (nx n:Nat) (cs:List Value) (y:DataW X × List MemPlace),In w F H nx->DataW.trod enc P w 0 (fun _=>true) true n t cs=some y->(∀ k ∈ y.1.weights P t,k<=reachBytes) ->
  ∃ (F':FM) (H':Y0) (nx':Nat) (a:α),In w F' H' nx'/\F.le F'/\D0 H nx H' nx'/\VL F' (f a) cs/\Pr H' nx' a
def B72 (Pr:Y0->Nat->α->Prop):Prop:=∀ H nx H' nx' a,Pr H nx a->D0 H nx H' nx'->Pr H' nx' a
theorem Opn.map {t:TypeId} {f:α->List Value} {Pr:Y0->Nat->α->Prop} {f':β->List Value} {Pr':Y0->Nat->β->Prop} (g:α->β) (h:Opn enc P w t f Pr) (hf:∀ a,f' (g a)=f a) (hP:∀ H nx a,Pr H nx a->Pr' H nx (g a)):Opn enc P w t f' Pr':=by
 intro F H nx n cs y hi ht hw
 obtain⟨F',H',nx',a,h1,h2,h3,h4,h5⟩:=h F H nx n cs y hi ht hw
 exact⟨F',H',nx',g a,h1,h2,h3,by rw[hf];exact h4,hP _ _ _ h5⟩
theorem Opn.int {t:TypeId} {k:IntKind} (ht:P.underlying t=some (.int k)):Opn enc P w t (fun n:Int=>[.int k n]) (fun _ _ n=>(Lit.int k n).wf=true):=by
 intro F H nx n cs y hi hd hw
 obtain⟨z,rfl,_,hz⟩:=DataW.trod_int ht hd
 exact⟨F,H,nx,z,hi,fun _ _ h=>h,D0.refl _ _,.cons (.int _ _) .nil,hz⟩
theorem Opn.bool {t:TypeId} (ht:P.underlying t=some .bool):Opn enc P w t (fun b:Bool=>[.bool b]) (fun _ _ _=>True):=by
 intro F H nx n cs y hi hd hw
 obtain⟨b,rfl,_⟩:=DataW.trod_bool ht hd
 exact⟨F,H,nx,b,hi,fun _ _ h=>h,D0.refl _ _,.cons (.bool _) .nil,trivial⟩
def Q43 (enc:TypeId × Value->X) (P:Program) (w:World) (off:Nat) (fs:List Field) (f:α->List Value) (Pr:Y0->Nat->α->Prop):Prop:=
 ∀ (F:FM) (H:Y0) (nx n:Nat) (cs:List Value) (xs:List (DataW X × List MemPlace)),In w F H nx->xs.length=fs.length ->
  (∀ (i:Nat) (fl:Field),fs[i]? = some fl->DataW.trod enc P w 0 (fun _=>true) true n fl.type ((cs.drop fl.offset).take (P.cellsOf fl.type))=xs[i]?) ->
  (∀ k ∈ DataW.weightsEach P (fs.map (·.type)) (xs.map (·.1)),k<=reachBytes) ->
  cs.length=off+(fs.map fun fl=>P.cellsOf fl.type).foldr (· + ·) 0 ->
  ∃ (F':FM) (H':Y0) (nx':Nat) (a:α),In w F' H' nx'/\F.le F'/\D0 H nx H' nx'/\VL F' (f a) (cs.drop off)/\Pr H' nx' a
theorem Q43.nil {off:Nat}:Q43 enc P w off [] (fun _:Unit=>[]) (fun _ _ _=>True):=by
 intro F H nx n cs xs hi _ _ _ hc
 refine⟨F,H,nx,(),hi,fun _ _ h=>h,D0.refl _ _,?_,trivial⟩
 simp only[List.map_nil,List.foldr_nil,Nat.add_zero] at hc
 rw[List.drop_eq_nil_of_le (by omega)];exact .nil
theorem Q43.cons {off:Nat} (c:Nat) {fl:Field} {fs:List Field} {f:α->List Value} {Pr:Y0->Nat->α->Prop} {f':β->List Value} {Pr':Y0->Nat->β->Prop} (ho:fl.offset=off) (hc:P.cellsOf fl.type=c)
  (hK:B72 Pr) (h:Opn enc P w fl.type f Pr) (r:Q43 enc P w (off+c) fs f' Pr'):Q43 enc P w off (fl :: fs) (fun x:α × β=>f x.1++f' x.2) (fun H nx x=>Pr H nx x.1/\Pr' H nx x.2):=by
 intro F H nx n cs xs hi hl ht hw hcs
 cases xs with
 | nil=>simp at hl
 | cons x xs=>
  have h0:=ht 0 fl rfl
  rw[ho,hc] at h0
  obtain⟨F1,H1,nx1,a,i1,l1,e1,v1,p1⟩:=h F H nx n _ x hi h0 fun k hk=>hw k (by simp only[List.map_cons,DataW.weightsEach,List.mem_append];exact .inl hk)
  obtain⟨F2,H2,nx2,b,i2,l2,e2,v2,p2⟩:=r F1 H1 nx1 n cs xs i1 (by simpa using hl) (fun i g hg=>by simpa using ht (i+1) g (by simpa using hg)) (fun k hk=>hw k (by simp only[List.map_cons,DataW.weightsEach,List.mem_append];exact .inr hk))
   (by simp only[List.map_cons,List.foldr_cons,hc] at hcs;omega)
  refine⟨F2,H2,nx2,(a,b),i2,fun _ _ hh=>l2 _ _ (l1 _ _ hh),e1.trans e2,?_,hK _ _ _ _ _ p1 e2,p2⟩
  have e:cs.drop off=(cs.drop off).take c++cs.drop (off+c):=by rw[<- List.drop_drop,List.take_append_drop]
  rw[e]
  exact (VL.mono l2 v1).append v2
theorem Opn.struct {t:TypeId} {fs:Array Field} {f:α->List Value} {Pr:Y0->Nat->α->Prop} (ht:P.underlying t=some (.struct fs)) (hc:P.cellsOf t=(fs.toList.map fun fl=>P.cellsOf fl.type).foldr (· + ·) 0) (h:Q43 enc P w 0 fs.toList f Pr):Opn enc P w t f Pr:=by
 intro F H nx n cs y hi hd hw
 obtain⟨xs,m,_,rfl,hl,hx,hel⟩:=DataW.trod_struct ht hd
 have:=h F H nx m cs xs hi (by simpa using hx) (fun i fl hf=>hel i fl (by simpa using hf)) (fun k hk=>hw k (by simpa [DataW.weights,ht] using hk)) (by rw[hl,hc];omega)
 simpa using this
theorem M44 {e:TypeId} {d:DataW X}:∀ {l:List (DataW X)},d ∈ l->∀ k ∈ d.weights P e,k ∈ DataW.weightsAll P e l
 | [],h,_,_=>by cases h
 | a :: l,h,k,hk=>by
  simp only[DataW.weightsAll,List.mem_append]
  rcases List.mem_cons.1 h with rfl | h
  .exact .inl hk
  .exact .inr (M44 h k hk)
theorem Z69 {F:FM} {f:α->List Value} {sz:Nat} (hf:∀ a,(f a).length=sz):∀ (xs:List α) (l:List Value),(∀ i a,xs[i]? = some a->VL F (f a) ((l.drop (i*sz)).take sz))->VL F (xs.flatMap f) (l.take (xs.length*sz))
 | [],l,_=>by simp;exact .nil
 | a :: xs,l,h=>by
  have h0:VL F (f a) (l.take sz):=by simpa using h 0 a rfl
  have ih:=Z69 hf xs (l.drop sz) fun i b hb=>by
   have:=h (i+1) b (by simpa using hb)
   rw[List.drop_drop]
   rw[Nat.add_mul,Nat.one_mul,Nat.add_comm] at this
   exact this
  rw[List.length_cons,Nat.add_mul,Nat.one_mul,Nat.add_comm,List.take_add,List.flatMap_cons]
  exact h0.append ih
theorem K50 {e:TypeId} {f:α->List Value} {Pr:Y0->Nat->α->Prop} (hK:B72 Pr) (he:Opn enc P w e f Pr) {n:Nat} {cs:Nat->List Value}:∀ (len:Nat) (F:FM) (H:Y0) (nx:Nat),In w F H nx ->
  (∀ i,i<len->∃ y:DataW X × List MemPlace,DataW.trod enc P w 0 (fun _=>true) true n e (cs i)=some y/\∀ k ∈ y.1.weights P e,k<=reachBytes) ->
  ∃ (F':FM) (H':Y0) (nx':Nat) (xs:List α),In w F' H' nx'/\F.le F'/\D0 H nx H' nx'/\xs.length=len/\(∀ i a,xs[i]? = some a->VL F' (f a) (cs i))/\∀ a ∈ xs,Pr H' nx' a
 | 0,F,H,nx,hi,_=>⟨F,H,nx,[],hi,fun _ _ h=>h,D0.refl _ _,rfl,fun i a h=>by simp at h,by simp⟩
 | len+1,F,H,nx,hi,hh=>by
  obtain⟨F1,H1,nx1,xs,i1,l1,e1,c1,v1,p1⟩:=K50 hK he len F H nx hi fun i h=>hh i (by omega)
  obtain⟨y,hy,hw⟩:=hh len (by omega)
  obtain⟨F2,H2,nx2,a,i2,l2,e2,v2,p2⟩:=he F1 H1 nx1 n _ y i1 hy hw
  refine⟨F2,H2,nx2,xs++[a],i2,fun _ _ h=>l2 _ _ (l1 _ _ h),e1.trans e2,by simp[c1],fun i b hb => ?_,fun b hb => ?_⟩
  .by_cases hil:i<len
   .rw[List.getElem?_append_left (by omega)] at hb
    exact VL.mono l2 (v1 i b hb)
   .have:i=len:=by
     have:=(List.getElem?_eq_some_iff.mp hb).1
     simp at this;omega
    subst this
    rw[List.getElem?_append_right (by omega),c1,Nat.sub_self] at hb
    simp at hb;subst hb;exact v2
  .rcases List.mem_append.1 hb with hb | hb
   .exact hK _ _ _ _ _ (p1 b hb) e2
   .simp at hb;subst hb;exact p2
theorem Q86 {e:TypeId} {f:α->List Value} {Pr:Y0->Nat->α->Prop} (hsz:P.cellsOf e=sz) (hf:∀ a,(f a).length=sz) (hK:B72 Pr) (he:Opn enc P w e f Pr) {F:FM} (hi:In w F H nx) {c':Array Value} {ety:TypeId} {m:Nat × Nat} (hsp:a.spot=none) (hb:w.heap[a.block]? = some (.cells c' ety m)) (hoff:a.off<=c'.size) {len cap n:Nat} {elems:List (DataW X × List MemPlace)} (hlen:elems.length=len)
  (hel:∀ i,i<len->(w.cells? 0 (a.add (i*P.cellsOf e)) (P.cellsOf e)).bind (DataW.trod enc P w 0 (fun _=>true) true n e)=elems[i]?) (hw:∀ y ∈ elems,∀ k ∈ y.1.weights P e,k<=reachBytes):
  ∃ (F':FM) (H':Y0) (nx':Nat) (b:Nat) (xs:List α),In w F' H' nx'/\F.le F'/\D0 H nx H' nx'/\VR F' (.slice (some ⟨b,0,none⟩) len cap) (.slice (some a) len cap)/\xs.length=len/\b<nx'/\X0 H' b=some (.rom (xs.flatMap f))/\∀ x ∈ xs,Pr H' nx' x:=by
 obtain⟨F1,H1,nx1,xs,i1,l1,e1,c1,v1,p1⟩:=K50 (w:=w) hK he (n:=n) (cs:=fun i=>(c'.toList.drop (a.off+i*sz)).take sz) len F H nx hi fun i hil=>by
  have h1:=hel i hil
  rw[List.getElem?_eq_getElem (by omega)] at h1
  obtain⟨cs,h2,h3⟩:=Option.bind_eq_some_iff.mp h1
  rw[hsz] at h2
  rw[C48 hb hsp h2]
  exact⟨_,h3,hw _ (List.getElem_mem _)⟩
 have hv:VL F1 (xs.flatMap f) ((c'.toList.drop a.off).take (xs.flatMap f).length):=by
  rw[N33 hf]
  exact Z69 hf xs _ fun i y hy=>by rw[List.drop_drop];exact v1 i y hy
 have hle:a.off+(xs.flatMap f).length<=c'.size:=by
  have h1:=hv.length
  simp only[List.length_take,List.length_drop,Array.length_toList] at h1
  omega
 have hrom:=i1.row hb hle hv
 have hg:X0 (hs H1 nx1 (some (.rom (xs.flatMap f)))) nx1=some (.rom (xs.flatMap f)):=Q0 _ _ _
 refine⟨_,_,_,nx1,xs,hrom,fun _ _ h=>B29 i1 _ _ _ (l1 _ _ h),(e1.new _ e1.le (Nat.le_succ _)),?_,c1,Nat.lt_succ_self _,hg,fun x hx=>hK _ _ _ _ _ (p1 x hx) ((D0.refl H1 nx1).new _ (Nat.le_refl _) (Nat.le_succ _))⟩
 have:=VR.slice (F:=J21 F1 nx1 ⟨a.block,a.off,(xs.flatMap f).length,0,c'.size⟩) (b:=nx1) (o:=0) (n:=len) (c:=cap) (c':=cap) (t:=⟨a.block,a.off,(xs.flatMap f).length,0,c'.size⟩) (by simp[J21]) (.inl rfl)
 have ha:a=⟨a.block,a.off+0,none⟩:=by cases a;simp at hsp;subst hsp;rfl
 rw[ha];exact this
theorem E95 {b:Nat} {c:List Value} (hb:b<nx) (hg:X0 H b=some (.rom c)):Sl H nx (some ⟨b,0,none⟩) c:=
 fun i v h=>⟨b,0,c,rfl,hb,by rw[V3,hg];rfl,by rw[Nat.zero_add];exact h⟩
theorem K55 {k:Nat} {cs:List Value} (h:w.cells? 0 (a.add k) sz=some cs) (hsz:0<sz) (hk:k=0):a.spot=none/\∃ c' ety m,w.heap[a.block]? = some (.cells c' ety m)/\a.off<=c'.size:=by
 subst hk
 obtain⟨_,hl,hc⟩:=World.cells?_some h
 have h0:=hc 0 hsz
 rw[List.getElem?_eq_getElem (by omega)] at h0
 have ha:(a.add 0).add 0=a:=rfl
 rw[ha] at h0
 unfold World.cell? at h0
 split at h0
 .rename_i c' ety m hb
  split at h0
  .cases h0
  .rename_i hs
   refine⟨by simpa using hs,c',ety,m,hb,?_⟩
   have:=(Array.getElem?_eq_some_iff.1 h0).1
   omega
 .cases h0
theorem Opn.slice {t e:TypeId} {f:α->List Value} {Pr:Y0->Nat->α->Prop} {sz:Nat} (ht:P.underlying t=some (.slice e)) (hsz:P.cellsOf e=sz) (h0:0<sz) (hb1:1<=P.bytesOf e) (hf:∀ a,(f a).length=sz) (hK:B72 Pr) (he:Opn enc P w e f Pr):
  Opn enc P w t (fun x:Option Addr × Nat × List α=>[.slice x.1 x.2.2.length x.2.1]) (fun H nx x=>Sl H nx x.1 (x.2.2.flatMap f)/\(∀ a ∈ x.2.2,Pr H nx a)/\x.2.2.length<=reachBytes):=by
 intro F H nx n cs y hi hd hw
 rcases DataW.trod_slice ht hd with ⟨rfl,_⟩ | ⟨a,len,cap,elems,rest,m,_,rfl,rfl,_,hlc,_,hlen,hel,hrest,_⟩
 .exact⟨F,H,nx,(none,0,[]),hi,fun _ _ h=>h,D0.refl _ _,.cons (.sliceN 0 0) .nil,Sl.nil _ _ _,by simp,by simp⟩
 .have hwy:∀ z ∈ elems,∀ k ∈ z.1.weights P e,k<=reachBytes:=fun z hz k hk=>hw k (by
   simp only[DataW.weights,ht,List.mem_cons,List.mem_append]
   exact .inr (.inl (M44 (List.mem_map_of_mem hz) k hk)))
  have hlr:len<=reachBytes:=by
   have h1:=hw ((elems.length+rest.length)*P.bytesOf e) (by simp[DataW.weights,ht])
   have h2:=Nat.mul_le_mul (show len<=elems.length+rest.length by omega) hb1
   omega
  by_cases hcap:cap=0
  .subst hcap
   have hl0:len=0:=by omega
   rw[hl0]
   exact⟨F,H,nx,(some ⟨0,0,some 0⟩,0,[]),hi,fun _ _ h=>h,D0.refl _ _,.cons (.sliceW 0 a) .nil,Sl.nil _ _ _,by simp,by simp⟩
  .obtain⟨cs0,hcs0⟩:∃ cs0,w.cells? 0 (a.add 0) sz=some cs0:=by
    by_cases hl0:0<len
    .have h1:=hel 0 hl0
     rw[List.getElem?_eq_getElem (by omega),Nat.zero_mul,hsz] at h1
     obtain⟨cs,h2,_⟩:=Option.bind_eq_some_iff.mp h1
     exact⟨cs,h2⟩
    .obtain⟨hrl,h1⟩:=hrest rfl
     have h2:=h1 0 (by omega)
     rw[List.getElem?_eq_getElem (by omega),show (len+0)*P.cellsOf e=0 by rw[show len=0 by omega];simp,hsz] at h2
     obtain⟨cs,h3,_⟩:=Option.bind_eq_some_iff.mp h2
     exact⟨cs,h3⟩
   obtain⟨hs,c',ety,mm,hb,hoff⟩:=K55 hcs0 h0 rfl
   obtain⟨F',H',nx',b,xs,i1,l1,e1,v1,c1,hbn,hg,p1⟩:=Q86 (cap:=cap) hsz hf hK he hi hs hb hoff hlen hel hwy
   exact⟨F',H',nx',(some ⟨b,0,none⟩,cap,xs),i1,l1,e1,by show VL F' [.slice (some ⟨b,0,none⟩) xs.length cap] _;rw[c1];exact .cons v1 .nil,E95 hbn hg,p1,by show xs.length<=_;omega⟩
theorem Opn.agg {t:TypeId} {fs:Array Field} {f:α->List Value} {Pr:Y0->Nat->α->Prop} {r:Reach} {b0:Nat} (ht:P.underlying t=some (.struct fs)) (h:Opn enc P w t f Pr) {F:FM} {H:Y0} {nx:Nat} (hi:In w F H nx) {v:Value} {d:DataW X} {p:List MemPlace}
  (hv:Value.okWide P w r b0 t v) (hd:DataW.Trod enc P w 0 (fun _=>true) true t v d p) (hw:∀ k ∈ d.weights P t,k<=reachBytes):
  ∃ (F':FM) (H':Y0) (nx':Nat) (a:α),In w F' H' nx'/\F.le F'/\D0 H nx H' nx'/\VR F' (.agg ⟨f a⟩) v/\Pr H' nx' a:=by
 simp only[Value.okWide,ht] at hv
 obtain⟨cs,rfl,_⟩:=hv
 obtain⟨fuel,hd⟩:=hd
 obtain⟨F',H',nx',a,h1,h2,h3,h4,h5⟩:=h F H nx fuel _ _ hi hd hw
 exact⟨F',H',nx',a,h1,h2,h3,VR.agg' h4,h5⟩
end
end Go.Clo

namespace Go.Clo
def SK (H:Y0) (nx:Nat) (A:Option Addr):Prop:=A=none\/∃ b o row,A=some ⟨b,o,none⟩/\b<nx/\(X0 H b=some (.rom row)\/∃ sl,(sl=0\/sl=1)/\X0 H b=some (.cells row sl))
theorem SK.ext {H:Y0} {nx:Nat} {A:Option Addr} {H':Y0} {nx':Nat} (h:SK H nx A) (e:D0 H nx H' nx'):SK H' nx' A:=by
 rcases h with h | ⟨b,o,row,h1,h2,h3⟩
 .exact .inl h
 .exact .inr ⟨b,o,row,h1,Nat.lt_of_lt_of_le h2 e.le,by rw[e.get b h2];exact h3⟩
theorem SK.has {H:Y0} {nx:Nat} {A:Option Addr} (h:SK H nx A):Has H nx A:=by
 rcases h with h | ⟨b,o,row,h1,h2,h3 | ⟨sl,_,h3⟩⟩
 .exact .inl h
 .exact .inr ⟨b,o,row,h1,h2,by rw[V3,h3];rfl⟩
 .exact .inr ⟨b,o,row,h1,h2,by rw[V3,h3];rfl⟩
theorem SK.new {H:Y0} {nx b o:Nat} {row:List Value} (hb:b<nx) (hg:X0 H b=some (.cells row 0)):SK H nx (some ⟨b,o,none⟩) := .inr ⟨b,o,row,rfl,hb,.inr ⟨0,.inl rfl,hg⟩⟩
theorem SK.app {H:Y0} {nx b o:Nat} {row:List Value} (hb:b<nx) (hg:X0 H b=some (.cells row 1)):SK H nx (some ⟨b,o,none⟩) := .inr ⟨b,o,row,rfl,hb,.inr ⟨1,.inr rfl,hg⟩⟩
theorem Y58 {A:Option Addr} {n c h:Nat} (hh:h<=c) (loose:Bool):G11 A n c 1 none (some (.int .i64 (h:Int))) (some (.int .i64 (h:Int))) loose=some (.slice A h h):=by
 have hb:Z11 (some (.int .i64 (h:Int))) c=some h:=by
  show (match (Value.int .i64 (Int.ofNat h)) with | .int _ (.ofNat i)=>cond (Nat.ble i c) (some i) none | _=>none)=_
  simp[B6 hh]
 have hh2:hiA (some (.int .i64 (h:Int))) (some (.int .i64 (h:Int))) n h=some h:=by
  show Z11 (some (.int .i64 (h:Int))) h=some h
  show (match (Value.int .i64 (Int.ofNat h)) with | .int _ (.ofNat i)=>cond (Nat.ble i h) (some i) none | _=>none)=_
  simp[B6 (Nat.le_refl h)]
 simp only[G11,hb,hh2]
 cases A with
 | none=>simp[loA]
 | some a=>
  obtain⟨b,o,s⟩:=a
  simp[loA,B6 (Nat.zero_le h)]
theorem E78 {H:Y0} {nx:Nat} {A:Option Addr} {n c h:Nat} (hk:SK H nx A) (hh:h<=c) (k:VP):wSl (.slice A n c) 1 none (some (.int .i64 (h:Int))) (some (.int .i64 (h:Int))) H k=k (.slice A h h):=by
 unfold wSl
 rcases hk with rfl | ⟨b,o,row,rfl,_,hg⟩
 .dsimp only
  rw[Y58 hh]
  exact J8 _ _
 .dsimp only
  rw[W6]
  have hl:∃ blk l,X0 H b=some blk/\C10 blk o c 1=some l:=by
   rcases hg with hg | ⟨sl,hsl | hsl,hg⟩
   .exact⟨_,false,hg,rfl⟩
   .subst hsl;exact⟨_,false,hg,rfl⟩
   .subst hsl
    exact⟨_,Nat.beq (o+c*1) row.length,hg,rfl⟩
  obtain⟨blk,l,hg,hl⟩:=hl
  rw[hg]
  simp only[Option.elim_some,slB]
  rw[hl]
  simp only[Y58 hh]
  exact J8 _ _
structure Dg (H:Y0) (nx:Nat) (A:Option Addr) (c:Nat) (ds:List Nat):Prop where
 sl:Sl H nx A (N1 ds)
 sk:SK H nx A
 small:Z4 ds
 le:ds.length<=c
theorem Dg.ext {H:Y0} {nx:Nat} {A:Option Addr} {c:Nat} {ds:List Nat} {H':Y0} {nx':Nat} (h:Dg H nx A c ds) (e:D0 H nx H' nx'):Dg H' nx' A c ds:=⟨h.sl.ext e,h.sk.ext e,h.small,h.le⟩
theorem Sl.pre {H:Y0} {nx:Nat} {A:Option Addr} {l:List Value} (h:Sl H nx A l) (n:Nat):Sl H nx A (l.take n):=fun i v hv=>h i v (by
 rw[List.getElem?_take] at hv
 split at hv
 .exact hv
 .cases hv)
theorem U58 (ds:List Nat) (n:Nat):N1 (ds.take n)=(N1 ds).take n:=by simp[N1,List.map_take]
theorem Dg.trim {H : Y0} {nx : Nat} {A : Option Addr} {c : Nat} {ds : List Nat} (h : Dg H nx A c ds) : Dg H nx A (R0 (val ds)).length (R0 (val ds)) :=
  ⟨by have := h.sl.pre (R0 (val ds)).length
      rwa [<- U58, B46 h.small] at this, h.sk, V8 _, Nat.le_refl _⟩
def NN (H:Y0) (nx:Nat) (v:Value) (n:Nat):Prop:=∃ A c,v = .slice A (R0 n).length c/\Dg H nx A c (R0 n)
theorem NN.ext {H:Y0} {nx:Nat} {v:Value} {n:Nat} {H':Y0} {nx':Nat} (h:NN H nx v n) (e:D0 H nx H' nx'):NN H' nx' v n:=let ⟨A,c,h1,h2⟩:=h;⟨A,c,h1,h2.ext e⟩
theorem R55 (H:Y0) (nx:Nat):NN H nx (.slice none 0 0) 0:=⟨none,0,by rw[Z6];rfl,by rw[Z6];exact⟨Sl.nil _ _ _,.inl rfl,N41,Nat.le_refl _⟩⟩
end Go.Clo
namespace Go.Proofs.YtpiobdofbhkmjaaDoor
open Go.Clo
theorem C47 {A:Option Addr} {c:Nat} {ds:List Nat} {H:Y0} {nx:Nat} (h:Dg H nx A c ds) (hl:ds.length<1152921504606846976):
  J2 Tryd.prog 54 [.slice A ds.length c] H nx fun v H' nx' => .slice A (R0 (val ds)).length (R0 (val ds)).length=v/\H=H'/\nx=nx':=by
 refine spec54 ?_
 unfold F54
 have hle:=Q60 h.small
 simp (disch:=first|omega|assumption) only[W0]
 refine E1 (m:=ds.length) (fun m L H' nx'=>∃ i:Nat,m=i/\L=[.int .i64 (i:Int)]/\i<=ds.length/\(R0 (val ds)).length<=i/\H=H'/\nx=nx') ?_ ⟨ds.length,rfl,rfl,Nat.le_refl _,hle,rfl,rfl⟩
 rintro m ih L _ _ ⟨i,hm,rfl,hi,hd,rfl,rfl⟩ hih
 simp only[K3]
 by_cases h0:0<i
 .have h0':(0:Int)<(i:Int):=by omega
  obtain⟨d,hget⟩:∃ d,ds[i-1]? = some d:=⟨_,List.getElem?_eq_getElem (by omega)⟩
  obtain⟨b,o,row,rfl,hb,hrow,hg⟩:=h.sl.open (i:=i-1) (by rw[G1];omega)
  have g0:=hg _ _ (G3 hget)
  have e1:((i:Int)-1).toNat=i-1:=by omega
  simp (disch:=first|omega|assumption) only[W0,h0',e1,Y3 hrow,g0]
  by_cases hz:d=0
  .subst hz
   simp (disch:=first|omega|assumption) only[W0]
   refine hih (i-1) _ _ _ (by omega) ⟨i-1,rfl,by congr 2;omega,by omega,?_,rfl,rfl⟩
   rcases Nat.lt_or_ge (i-1) (R0 (val ds)).length with g | g
   .exfalso
    have hpos:0<val ds:=by
     rcases Nat.eq_zero_or_pos (val ds) with e | e
     .rw[e,Z6] at g;simp at g
     .exact e
    obtain⟨d,hd2,hp,_⟩:=C25 hpos
    have e3:(R0 (val ds)).length-1=i-1:=by omega
    rw[e3] at hd2
    have hd3:(ds.take (R0 (val ds)).length)[i-1]? = some d:=by rw[B46 h.small];exact hd2
    rw[List.getElem?_take,if_pos g,hget] at hd3
    have:=Option.some.inj hd3
    omega
   .exact g
  .have hz':¬ (d:Int)=0:=by omega
   have hi2:i=(R0 (val ds)).length:=by
    rcases Nat.lt_or_ge (i-1) (R0 (val ds)).length with g | g
    .omega
    .exact absurd (N67 h.small g hget) hz
   simp (disch:=first|omega|assumption) only[W0,hz,hi2,E78 h.sk (show (R0 (val ds)).length<=c by have:=h.le;omega)]
 .have h0':¬ (0:Int)<(i:Int):=by omega
  have hi2:i=(R0 (val ds)).length:=by omega
  have h0'':¬ (0:Int)<((R0 (val ds)).length:Int):=by omega
  simp (disch:=first|omega|assumption) only[W0,h0'',hi2,E78 h.sk (show (R0 (val ds)).length<=c by have:=h.le;omega)]
end Go.Proofs.YtpiobdofbhkmjaaDoor

namespace Go.Clo
theorem B24 {a:Nat} (h:a<18446744073709551616):IntKind.u64.wrap (a:Int)=(a:Int):=by
 simp only[IntKind.wrap,IntKind.signed,IntKind.bits];simp;omega
theorem D90 (a:Nat):IntKind.u64.wrap (a:Int)=((a%18446744073709551616:Nat):Int):=by
 simp only[IntKind.wrap,IntKind.signed,IntKind.bits];simp
theorem G70 (a:Nat):IntKind.u32.wrap (a:Int)=((a%4294967296:Nat):Int):=by
 simp only[IntKind.wrap,IntKind.signed,IntKind.bits];simp
section
variable {a b:Nat} (k:VP)
theorem D21 (h:a+b<18446744073709551616):J0 .add (.int .u64 (a:Int)) (.int .u64 (b:Int)) k=k (.int .u64 ((a+b:Nat):Int)):=by
 rw[D47,<- Int.natCast_add,B24 h]
theorem J43 (h:a*b<18446744073709551616):J0 .mul (.int .u64 (a:Int)) (.int .u64 (b:Int)) k=k (.int .u64 ((a*b:Nat):Int)):=by
 rw[D38,<- Int.natCast_mul,B24 h]
theorem X25 (ha:a<18446744073709551616) (hb:b<18446744073709551616):J0 .sub (.int .u64 (a:Int)) (.int .u64 (b:Int)) k=k (.int .u64 (((a+18446744073709551616-b)%18446744073709551616:Nat):Int)):=by
 rw[E37]
 congr 2
 simp only[IntKind.wrap,IntKind.signed,IntKind.bits]
 simp
 omega
theorem J9 (n:Nat) (K:IntKind):M3 .u32 (.int K (n:Int)) k=k (.int .u32 ((n%4294967296:Nat):Int)):=by rw[W17,G70]
theorem Y6 {n:Nat} (h:n<18446744073709551616) (K:IntKind):M3 .u64 (.int K (n:Int)) k=k (.int .u64 (n:Int)):=by rw[W17,B24 h]
theorem X56 {n:Nat} {K:IntKind} (ha:a<18446744073709551616):J0 .shr (.int .u64 (a:Int)) (.int K (n:Int)) k=k (.int .u64 ((a/2^n:Nat):Int)):=by
 rw[C7]
 have hn:¬ (n:Int)<0:=by omega
 simp only[U12,M7,E20,cond_true,hn,if_false,Option.elim_some,IntKind.bits]
 congr 2
 have e:((2:Int)^min ((n:Int)).toNat 64)=((2^min n 64:Nat):Int):=by simp
 rw[e,Int.fdiv_eq_ediv_of_nonneg _ (Int.natCast_nonneg _),<- Int.natCast_ediv]
 congr 1
 by_cases h:n<=64
 .rw[Nat.min_eq_left h]
 .rw[Nat.min_eq_right (by omega),Nat.div_eq_of_lt (by simpa using ha),Nat.div_eq_of_lt (Nat.lt_of_lt_of_le ha (by
   have:=Nat.pow_le_pow_right (n:=2) (by omega) (show 64<=n by omega)
   simpa using this))]
theorem K22 (ha:a<18446744073709551616):J0 .shr (.int .u64 (a:Int)) (.int .u64 32) k=k (.int .u64 ((a/4294967296:Nat):Int)):=X56 (n:=32) k ha
theorem V41 (ha:a<18446744073709551616):J0 .shr (.int .u64 (a:Int)) (.int .u64 63) k=k (.int .u64 ((a/9223372036854775808:Nat):Int)):=X56 (n:=63) k ha
end
theorem V12 {n:Nat} (h:n<=1000000) (z:List Value) (k:List Value->Nat->Nat->Prop):K21 (.int .i64 (n:Int)) (.int .i64 (n:Int)) z k=k (V5 z n) n n:=by
 show cond (Nat.ble n n&&Nat.ble n 1000000) (R7 (V5 z n) fun cs=>k cs n n) False=_
 rw[B6 (Nat.le_refl n),B6 h]
 exact E3 _ _
theorem N12 (n:Nat):V5 [Value.int .u32 0] n=N1 (List.replicate n 0):=by
 induction n with
 | zero=>rfl
 | succ n ih=>rw[V5,ih,List.replicate_succ];rfl
theorem D30:∀ l:List Nat,Z0 (N1 l)=true
 | []=>rfl
 | x :: l=>D30 l
theorem E52 {H:Y0} {nx b size bytes m:Nat} {x:Value} {l:List Value} (hg:X0 H b=some (.cells [] 0)) (hx:Src H size x m l) (hm:0<m) (ho:Z0 l=true) (hb1:(2*m+1000)*bytes<=281474976710656) (hb2:m<=1000000000) (k:EP):
  U7 (.slice (some ⟨b,0,none⟩) 0 0) x size bytes H nx k=k (.slice (some ⟨nx,0,none⟩) m m) (hs H nx (some (.cells l size))) (nx+1):=by
 unfold U7 X27
 rw[hx.len]
 dsimp only
 rw[Nat.zero_add,N2,B6 hb1,B6 hb2]
 simp only[Bool.and_self,cond_true]
 rw[hx.first,ho,Y29 hm]
 simp only[cond_true,cond_false]
 have hold:∀ k:List Value->Prop,G8 H size 0 (.slice (some ⟨b,0,none⟩) 0 0) False k=k []:=by
  intro k
  unfold G8 G24
  dsimp only
  rw[W6,hg]
  simp only[Option.elim_some,Nat.zero_mul,D9]
  exact E3 _ _
 rw[hold,E3,List.nil_append,hx.size,E14]
 simp only[cond_true,B26]
 rw[W6,hg]
 have hls:C10 (.cells [] 0) 0 0 size=some false:=rfl
 simp only[Option.elim_some,hls,C17]
 rw[N2,N2,Y8]
theorem X68 {H:Y0} {nx b size bytes:Nat} {x:Value} (hg:X0 H b=some (.cells [] 0)) (hx:Src H size x 0 []) (hb1:(2*0+1000)*bytes<=281474976710656) (k:EP):
  U7 (.slice (some ⟨b,0,none⟩) 0 0) x size bytes H nx k=k (.slice (some ⟨b,0,none⟩) 0 0) (hs H b (some (.cells [] 0))) nx:=by
 unfold U7 X27
 rw[hx.len]
 dsimp only
 rw[Nat.zero_add,N2,B6 hb1,B6 (show 0<=1000000000 by omega)]
 simp only[Bool.and_self,cond_true]
 rw[hx.first]
 simp only[Z0,cond_true,B6 (Nat.le_refl 0),N60]
 rw[N2,X38,hg]
 simp[stP,G6]
theorem C41 (e:TypeId) (a:Addr) (n c:Nat) (k:VP):wVf (.eqn false (.slice e)) [.slice (some a) n c,.slice none 0 0] k=k (.bool false):=by
 have h:VF.ev (.eqn false (.slice e)) [.slice (some a) n c,.slice none 0 0]=some (.bool false):=rfl
 unfold wVf
 rw[h,R9];rfl
theorem G66 (e:TypeId) (n c:Nat) (k:VP):wVf (.eqn false (.slice e)) [.slice none n c,.slice none 0 0] k=k (.bool true):=by
 have h:VF.ev (.eqn false (.slice e)) [.slice none n c,.slice none 0 0]=some (.bool true):=rfl
 unfold wVf
 rw[h,R9];rfl
theorem Dg.self {A:Option Addr} {c n:Nat} {H:Y0} {nx:Nat} (h:Dg H nx A c (R0 n)):Dg H nx A (R0 n).length (R0 n):=⟨h.sl,h.sk,h.small,Nat.le_refl _⟩
theorem M52 (k:List Value->Prop) (z:List Value):G7 0 1 z [] k=k []:=rfl
end Go.Clo
namespace Go.Proofs.YtpiobdofbhkmjaaDoor
open Go.Clo
theorem Q13 {A:Option Addr} {c n:Nat} {H:Y0} {nx:Nat} (h:Dg H nx A c (R0 n)) (hl:(R0 n).length<1000000):
  J2 Tryd.prog 54 [.slice A (R0 n).length c] H nx fun v H' nx' => .slice A (R0 n).length (R0 n).length=v/\H=H'/\nx=nx':=by
 have:=C47 h (by omega)
 rwa [C5] at this
theorem G64 {b c:Nat} {ds:List Nat} {H:Y0} {nx:Nat} (hb:b<nx) (hg:X0 H b=some (.cells (N1 ds) 0)) (hs:Z4 ds) (hl:ds.length<10000000) (hc:ds.length<=c):
  J2 Tryd.prog 54 [.slice (some ⟨b,0,none⟩) ds.length c] H nx fun v H' nx'=>NN H' nx' v (val ds)/\H=H'/\nx=nx':=by
 have hD:Dg H nx (some ⟨b,0,none⟩) c ds:=⟨fun i v h=>⟨b,0,_,rfl,hb,by rw[V3,hg];rfl,by rw[Nat.zero_add];exact h⟩,SK.new hb hg,hs,hc⟩
 refine (C47 hD (by omega)).mono ?_
 rintro _ _ _ ⟨rfl,rfl,rfl⟩
 exact⟨⟨_,_,rfl,hD.trim⟩,rfl,rfl⟩
theorem Q42 {b c L:Nat} {ds:List Nat} {H:Y0} {nx:Nat} (hb:b<nx) (hg:X0 H b=some (.cells (N1 ds) 0)) (hs:Z4 ds) (hL:ds.length=L) (hl:L<10000000) (hc:L<=c) {n:Nat} (hn:val ds=n):
  J2 Tryd.prog 54 [.slice (some ⟨b,0,none⟩) L c] H nx fun v H' nx'=>NN H' nx' v n/\H=H'/\nx=nx':=by
 subst hL;subst hn
 exact G64 hb hg hs hl hc
theorem Z36 {n:Nat} (hn:n<18446744073709551616) (H:Y0) (nx:Nat):J2 Tryd.prog 56 [.int .u64 (n:Int)] H nx fun v H' nx'=>NN H' nx' v n/\D0 H nx H' nx':=by
 refine spec56 ?_
 unfold F56
 rw[J9,K22 _ hn,J9]
 have e1:n/4294967296%4294967296=n/4294967296:=Nat.mod_eq_of_lt (by omega)
 rw[e1]
 have e2:∀ k,G7 2 1 [Value.int .u32 0] [(0,.int .u32 ((n%4294967296:Nat):Int)),(1,.int .u32 ((n/4294967296:Nat):Int))] k=k (N1 [n%4294967296,n/4294967296]):=fun k=>rfl
 rw[e2,X18]
 have hE:D0 H nx (hs H nx (some (.cells (N1 [n%4294967296,n/4294967296]) 0))) (nx+1):=(D0.refl H nx).new _ (Nat.le_refl _) (by omega)
 refine K0 (G64 (c:=2) (ds:=[n%4294967296,n/4294967296]) (Nat.lt_succ_self nx) (Q0 _ _ _) (B27.2 ⟨by omega,B27.2 ⟨by omega,N41⟩⟩) (by simp) (by simp)) ?_
 rintro v _ _ ⟨hv,rfl,rfl⟩
 rw[N7]
 refine⟨?_,hE⟩
 have:val [n%4294967296,n/4294967296]=n:=by simp only[val];omega
 rwa [this] at hv
theorem Q62 {A:Option Addr} {n:Nat} {H:Y0} {nx:Nat} (h:Dg H nx A (R0 n).length (R0 n)) (hl:(R0 n).length<1000000):
  J2 Tryd.prog 69 [.slice A (R0 n).length (R0 n).length] H nx fun v H' nx'=>NN H' nx' v n/\D0 H nx H' nx':=by
 refine spec69 ?_
 unfold F69
 cases A with
 | none=>
  have h0:(R0 n).length=0:=by
   rcases Nat.eq_zero_or_pos (R0 n).length with e | e
   .exact e
   .obtain⟨b,o,row,e1,_⟩:=h.sl.open (i:=0) (by rw[G1];exact e)
    cases e1
  have hn:=K13.1 h0
  subst hn
  rw[G66]
  simp (disch:=first|omega|assumption) only[W0,B0.val]
  exact⟨R55 _ _,D0.refl _ _⟩
 | some a=>
  obtain⟨b,o,row,ha,hb,_⟩:∃ b o row,some a=some ⟨b,o,none⟩/\b<nx/\V3 H b=some row:=by
   rcases h.sk.has with e | e
   .cases e
   .exact e
  cases ha
  rw[C41]
  simp (disch:=first|omega|assumption) only[W0,B0.val,M52]
  have hE:D0 H nx (hs H nx (some (.cells [] 0))) (nx+1):=(D0.refl H nx).new _ (Nat.le_refl _) (by omega)
  have hsrc:Src (hs H nx (some (.cells [] 0))) 1 (.slice (some ⟨b,o,none⟩) (R0 n).length (R0 n).length) (R0 n).length (N1 (R0 n)):=Y36 (h.sl.ext hE) (h.sk.has.ext hE) (by rw[G1,Nat.mul_one]) (by omega)
  by_cases h0:(R0 n).length=0
  .have hn:=K13.1 h0
   subst hn
   rw[Z6] at hsrc
   rw[Z6]
   rw[List.length_nil] at *
   rw[X68 (Q0 _ _ _) hsrc (by omega)]
   refine⟨⟨some ⟨nx,0,none⟩,0,by rw[Z6];rfl,by rw[Z6];exact⟨Sl.nil _ _ _,SK.new (by omega) (Q0 _ _ _),N41,Nat.le_refl _⟩⟩,hE.hs (Nat.le_refl _)⟩
  .rw[E52 (Q0 _ _ _) hsrc (by omega) (D30 _) (by omega) (by omega)]
   have hE2:=hE.new (some (.cells (N1 (R0 n)) 1)) (i:=nx+1) (m:=nx+1+1) (by omega) (by omega)
   exact⟨⟨_,_,rfl,⟨fun i v hv=>⟨nx+1,0,_,rfl,by omega,by rw[V3,Q0];rfl,by rw[Nat.zero_add];exact hv⟩,SK.app (by omega) (Q0 _ _ _),V8 _,Nat.le_refl _⟩⟩,hE2⟩
theorem B71 {v:Value} {n:Nat} {H:Y0} {nx:Nat} (h:NN H nx v n) (hl:(R0 n).length<1000000):J2 Tryd.prog 57 [v] H nx fun v H' nx'=>NN H' nx' v n/\D0 H nx H' nx':=by
 obtain⟨A,c,rfl,hD⟩:=h
 refine spec57 ?_
 unfold F57
 refine K0 (Q13 hD hl) ?_
 rintro _ _ _ ⟨rfl,rfl,rfl⟩
 refine K0 (Q62 hD.self hl) ?_
 rintro v H' nx' h
 rw[N7]
 exact h
end Go.Proofs.YtpiobdofbhkmjaaDoor

namespace Go.Clo
theorem C19 {ds:List Nat} {i d:Nat} (h:ds[i]? = some d):val ds=val (ds.take i)+4294967296^i*(d+4294967296*val (ds.drop (i+1))):=by
 have hi:i<ds.length:=(List.getElem?_eq_some_iff.1 h).1
 have hd:ds[i]=d:=(List.getElem?_eq_some_iff.1 h).2
 have e:ds=ds.take i++d :: ds.drop (i+1):=by
  rw[<- hd];exact (List.take_append_drop i ds).symm.trans (by rw[List.drop_eq_getElem_cons hi])
 have h1:=X28 (ds.take i) (d :: ds.drop (i+1))
 rw[<- e] at h1
 rw[h1,val,List.length_take,Nat.min_eq_left (by omega)]
theorem G25 {ds:List Nat} (h:Z4 ds) (i:Nat):Z4 (ds.take i):=fun e he=>h e (List.mem_of_mem_take he)
theorem X34 {ds:List Nat} (h:Z4 ds) (i:Nat):Z4 (ds.drop i):=fun e he=>h e (List.mem_of_mem_drop he)
theorem D10 {ds:List Nat} (h:Z4 ds) (i:Nat):val (ds.take i)<4294967296^i:=by
 have h1:=X67 (G25 h i)
 exact Nat.lt_of_lt_of_le h1 (Nat.pow_le_pow_right (by omega) (by simp;omega))
theorem C33 {ds es:List Nat} {i x y:Nat} (hs:Z4 ds) (hx:ds[i]? = some x) (hy:es[i]? = some y) (hd:ds.drop (i+1)=es.drop (i+1)) (h:x<y):val ds<val es:=by
 rw[C19 hx,C19 hy,hd]
 have h1:=D10 hs i
 have h2:4294967296^i*(x+4294967296*val (es.drop (i+1))+1)<=4294967296^i*(y+4294967296*val (es.drop (i+1))):=Nat.mul_le_mul_left _ (by omega)
 rw[Nat.mul_add,Nat.mul_one] at h2
 omega
def W16 (a b:Nat):Int:=if a<b then -1 else if b<a then 1 else 0
theorem C13 {a b:Nat} (h:(R0 a).length<(R0 b).length):a<b:=by
 have h1:=U13 a
 have hb:0<b:=by
  rcases Nat.eq_zero_or_pos b with e | e
  .subst e;rw[Z6] at h;simp at h
  .exact e
 have h2:=C39 hb
 have h3:4294967296^(R0 a).length<=4294967296^((R0 b).length-1):=Nat.pow_le_pow_right (by omega) (by omega)
 omega
theorem Z73 {a b:Nat} (h:R0 a=R0 b):a=b:=by rw[<- C5 a,h,C5]
end Go.Clo
namespace Go.Proofs.YtpiobdofbhkmjaaDoor
open Go.Clo
theorem K44 (a b:Int) (H:Y0) (nx:Nat):J2 Tryd.prog 32 [.int .i64 a,.int .i64 b] H nx fun v H' nx' => .int .i64 (if a<b then -1 else if b<a then 1 else 0)=v/\H=H'/\nx=nx':=by
 have hn:∀ (x:Int) (H:Y0) (nx:Nat),J2 Tryd.prog 53 [.int .i64 x] H nx fun v H' nx' => .bool false=v/\H=H'/\nx=nx':=by
  intro x H nx
  refine spec53 ?_
  unfold F53
  have e:decide (x≠x)=false:=by simp
  simp (disch:=first|omega|assumption) only[W0,e]
 refine spec32 ?_
 unfold F32
 refine K0 (hn a H nx) ?_
 rintro _ _ _ ⟨rfl,rfl,rfl⟩
 refine K0 (hn b H nx) ?_
 rintro _ _ _ ⟨rfl,rfl,rfl⟩
 by_cases h1:a<b
 .simp (disch:=first|omega|assumption) only[W0,h1]
 .by_cases h2:b<a
  .simp (disch:=first|omega|assumption) only[W0,h1,h2]
  .simp (disch:=first|omega|assumption) only[W0,h1,h2]
theorem G68 (a b:Nat) (H:Y0) (nx:Nat):J2 Tryd.prog 55 [.int .u32 (a:Int),.int .u32 (b:Int)] H nx fun v H' nx' => .int .i64 (W16 a b)=v/\H=H'/\nx=nx':=by
 have hn:∀ (x:Int) (H:Y0) (nx:Nat),J2 Tryd.prog 68 [.int .u32 x] H nx fun v H' nx' => .bool false=v/\H=H'/\nx=nx':=by
  intro x H nx
  refine spec68 ?_
  unfold F68
  have e:decide (x≠x)=false:=by simp
  simp (disch:=first|omega|assumption) only[W0,e]
 refine spec55 ?_
 unfold F55
 refine K0 (hn a H nx) ?_
 rintro _ _ _ ⟨rfl,rfl,rfl⟩
 refine K0 (hn b H nx) ?_
 rintro _ _ _ ⟨rfl,rfl,rfl⟩
 by_cases h1:a<b
 .have h1':(a:Int)<(b:Int):=by omega
  simp (disch:=first|omega|assumption) only[W0,h1',W16,h1]
 .have h1':¬ (a:Int)<(b:Int):=by omega
  by_cases h2:b<a
  .have h2':(b:Int)<(a:Int):=by omega
   simp (disch:=first|omega|assumption) only[W0,h1',h2',W16,h1,h2]
  .have h2':¬ (b:Int)<(a:Int):=by omega
   simp (disch:=first|omega|assumption) only[W0,h1',h2',W16,h1,h2]
theorem M62 {v w:Value} {a b:Nat} {H:Y0} {nx:Nat} (hv:NN H nx v a) (hw:NN H nx w b) (hl:(R0 a).length<1000000) (hl2:(R0 b).length<1000000):
  J2 Tryd.prog 33 [v,w] H nx fun r H' nx' => .int .i64 (W16 a b)=r/\D0 H nx H' nx':=by
 obtain⟨A,c,rfl,hA⟩:=hv
 obtain⟨C,d,rfl,hC⟩:=hw
 refine spec33 ?_
 unfold F33
 refine K0 (Q13 hA hl) ?_
 rintro _ _ _ ⟨rfl,rfl,rfl⟩
 refine K0 (Q13 hC hl2) ?_
 rintro _ _ _ ⟨rfl,rfl,rfl⟩
 by_cases hlen:(R0 a).length=(R0 b).length
 case neg=>
  have e1:decide (((R0 a).length:Int)≠((R0 b).length:Int))=true:=decide_eq_true (by omega)
  simp (disch:=first|omega|assumption) only[W0,e1]
  refine K0 (K44 _ _ _ _) ?_
  rintro _ _ _ ⟨rfl,rfl,rfl⟩
  refine⟨?_,D0.refl _ _⟩
  unfold W16
  rcases Nat.lt_or_ge (R0 a).length (R0 b).length with g | g
  .rw[if_pos (C13 g),if_pos (by omega)]
  .have g2:=C13 (show (R0 b).length<(R0 a).length by omega)
   rw[if_neg (by omega),if_pos g2,if_neg (by omega),if_pos (by omega)]
 have e1:decide (((R0 a).length:Int)≠((R0 b).length:Int))=false:=decide_eq_false (by omega)
 simp (disch:=first|omega|assumption) only[W0,e1]
 refine E1 (m:=(R0 a).length) (fun m L H' nx'=>L=[.int .i64 ((m:Int)-1)]/\m<=(R0 a).length/\(R0 a).drop m=(R0 b).drop m/\D0 H nx H' nx') ?_ ⟨rfl,Nat.le_refl _,by rw[List.drop_of_length_le (Nat.le_refl _),List.drop_of_length_le (by omega)],D0.refl _ _⟩
 rintro m ih L H2 nx2 ⟨rfl,hm,hd,hE⟩ hih
 by_cases h0:m=0
 .subst h0
  have e2:¬ (0:Int)<=((0:Nat):Int)-1:=by omega
  have e3:W16 a b=0:=by
   have:=Z73 (a:=a) (b:=b) (by simpa using hd)
   subst this
   unfold W16;simp
  simp (disch:=first|omega|assumption) only[W0,e2,e3]
  exact hE
 .have e2:(0:Int)<=(m:Int)-1:=by omega
  have e4:((m:Int)-1).toNat=m-1:=by omega
  obtain⟨x,hx⟩:∃ x,(R0 a)[m-1]? = some x:=⟨_,List.getElem?_eq_getElem (by omega)⟩
  obtain⟨y,hy⟩:∃ y,(R0 b)[m-1]? = some y:=⟨_,List.getElem?_eq_getElem (by omega)⟩
  obtain⟨bA,oA,G17,rfl,_,hrowA,hgA⟩:=(hA.sl.ext hE).open (i:=m-1) (by rw[G1];omega)
  obtain⟨bC,oC,rowC,rfl,_,hrowC,hgC⟩:=(hC.sl.ext hE).open (i:=m-1) (by rw[G1];omega)
  have gA:=hgA _ _ (G3 hx)
  have gC:=hgC _ _ (G3 hy)
  by_cases hxy:x=y
  .subst hxy
   have e5:decide ((x:Int)≠(x:Int))=false:=by simp
   simp (disch:=first|omega|assumption) only[W0,e2,e4,Y3 hrowA,Y3 hrowC,gA,gC,e5]
   refine hih (m-1) _ _ _ (by omega) ⟨by congr 3;omega,by omega,?_,hE.more (by omega)⟩
   rw[List.drop_eq_getElem_cons (by omega:m-1<(R0 a).length),List.drop_eq_getElem_cons (by omega:m-1<(R0 b).length),show m-1+1=m by omega,hd]
   congr 1
   rw[List.getElem?_eq_getElem (by omega)] at hx hy
   exact (Option.some.inj hx).trans (Option.some.inj hy).symm
  .have e5:decide ((x:Int)≠(y:Int))=true:=decide_eq_true (by omega)
   simp (disch:=first|omega|assumption) only[W0,e2,e4,Y3 hrowA,Y3 hrowC,gA,gC,e5]
   refine K0 (G68 x y _ _) ?_
   rintro _ _ _ ⟨rfl,rfl,rfl⟩
   refine⟨?_,hE.more (by omega)⟩
   have hd':(R0 a).drop (m-1+1)=(R0 b).drop (m-1+1):=by rw[show m-1+1=m by omega];exact hd
   unfold W16
   rcases Nat.lt_or_ge x y with g | g
   .have:=C33 (V8 a) hx hy hd' g
    rw[C5,C5] at this
    rw[if_pos this,if_pos g]
   .have:=C33 (V8 b) hy hx hd'.symm (show y<x by omega)
    rw[C5,C5] at this
    rw[if_neg (by omega),if_pos this,if_neg (by omega),if_pos (by omega)]
end Go.Proofs.YtpiobdofbhkmjaaDoor
