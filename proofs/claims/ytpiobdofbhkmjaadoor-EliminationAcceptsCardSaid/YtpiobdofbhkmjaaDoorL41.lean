/-
  Contract: the solver's freeWidth.
  Contract: OnesCount32 below 64.
  Contracts: hypergraph.Induced,hypergraph.Components.
-/
import Derived.Test.YtpiobdofbhkmjaaDoorL39
import Derived.Test.YtpiobdofbhkmjaaDoorL40
import Derived.Test.YtpiobdofbhkmjaaDoorL38
set_option linter.unusedSimpArgs false
set_option linter.unusedVariables false
set_option linter.unusedSectionVars false
namespace Go.Clo
def upK (f i:Nat):List Int:=(List.range i).map fun j=>((f+j:Nat):Int)
theorem D55 (f i:Nat):(upK f i).length=i:=by simp[upK]
theorem Y66 (f i:Nat):upK f (i+1)=upK f i++[((f+i:Nat):Int)]:=by simp[upK,List.range_succ]
theorem Y71 {lo:Nat} {H:Y0} {nx size:Nat} {v:Value} {n:Nat} {c:List Value} (h:Q6 lo H nx size v n c):∃ A,v = .slice A n n/\Sl H nx A c/\Has H nx A:=by
 obtain⟨A,e,hs⟩:=h.sl
 refine⟨A,e,hs,?_⟩
 obtain⟨_,h1 | ⟨b,h1,h2,h3,h4⟩⟩:=h
 .obtain⟨h1,h2⟩:=h1
  rw[h2] at e
  cases e
  exact .inl rfl
 .rw[e] at h3
  cases h3
  exact .inr ⟨b,0,c,rfl,h2,by rw[V3,h4];rfl⟩
theorem J94 {H:Y0} {b o n c h size:Nat} {row:List Value} (hg:X0 H b=some (.cells row 0)) (hh:h<=c) (k:VP):
  wSl (.slice (some ⟨b,o,none⟩) n c) size none (some (.int .i64 (h:Int))) none H k=k (.slice (some ⟨b,o,none⟩) h c):=by
 have e:G11 (some ⟨b,o,none⟩) n c size none (some (.int .i64 (h:Int))) none false=some (.slice (some ⟨b,o,none⟩) h c):=by
  have e1:Z11 none c=some c:=rfl
  have e2:hiA (some (.int .i64 (h:Int))) none n c=some h:=R22 hh
  have e3:loA none h=some 0:=rfl
  simp only[G11,e1,e2,e3,B6 (Nat.zero_le c)]
  cases Nat.beq c 0<;>simp
 unfold wSl
 dsimp only
 rw[W6,hg]
 simp only[Option.elim_some,slB,C10,E14,cond_true]
 rw[e]
 exact J8 _ _
end Go.Clo
namespace Go.Proofs.YtpiobdofbhkmjaaDoor
open Go.Clo
theorem R77 {f n:Nat} (h:f<=n):M15 (upK f (n-f)) f n:=by
 refine⟨by rw[D55];omega,fun x hx => ?_,?_⟩
 .simp only[upK,List.mem_map,List.mem_range] at hx
  obtain⟨j,hj,rfl⟩:=hx
  omega
 .unfold List.Nodup upK
  rw[List.pairwise_map]
  refine List.Pairwise.imp (fun {a b} h => ?_) List.nodup_range
  intro e;exact h (by omega)
theorem E69 (n:Nat):∀ (order:List Nat) (out:List Bag) (N:Nb) (i:Nat) (b:Bag),(X16 n out N order)[i]? = some b->(out[i]? = some b/\i ∉ order)\/(b.var=i/\b.key<2^n)
 | [],out,N,i,b,h => .inl ⟨h,by simp⟩
 | v :: rest,out,N,i,b,h=>by
  rcases E69 n rest (out.set v (N38 n N v rest)) _ i b h with ⟨h1,h2⟩ | h1
  .rw[List.getElem?_set] at h1
   split at h1
   .rename_i e
    subst e
    split at h1
    .cases h1
     exact .inr ⟨rfl,V22 _ _⟩
    .cases h1
   .rename_i e
    exact .inl ⟨h1,by simp[h2,Ne.symm e]⟩
  .exact .inr h1
def Y39 (n f:Nat) (l:List Int):List Nat:=(l++E8 f f).map Int.toNat
def Q9 (es:List Nat) (n f:Nat) (l:List Int):List Bag:=X16 n (List.replicate n Y11) (adj es) (Y39 n f l)
theorem E42 {n f:Nat} {l:List Int} {order:List Nat} (h:l++E8 f f=order.map fun (w:Nat)=>(w:Int)):order=Y39 n f l:=by
 unfold Y39
 rw[h,List.map_map]
 simp[Function.comp_def]
theorem J10 (es:List Nat) (n f:Nat) (l:List Int):(Q9 es n f l).length=n:=by
 unfold Q9;rw[N65];simp
theorem D49 {es:List Nat} {n f:Nat} {l:List Int} (hp:M15 l f n) (hf:f<=n) {i:Nat} (hi:i<n):∃ b,(Q9 es n f l)[i]? = some b/\b.var=i/\b.key<2^n:=by
 obtain⟨order,h1,h2,h3,h4⟩:=C27 hp
 obtain rfl:=E42 (n:=n) h1
 obtain⟨b,hb⟩:∃ b,(Q9 es n f l)[i]? = some b:=⟨_,List.getElem?_eq_getElem (by rw[J10];exact hi)⟩
 refine⟨b,hb,?_⟩
 rcases E69 n _ _ _ i b hb with ⟨_,h⟩ | h
 .exact absurd (G32 h2 h3 h4 hi) h
 .exact h
theorem D66 {b:Bag} {i n:Nat} (h1:b.var=i) (h2:b.key<2^n) (hi:i<n) (hn:n<=32):X6 b=b.key ||| 2^i/\X6 b<2^n/\(X6 b).testBit i=true:=by
 have e:X6 b=b.key ||| 2^i:=by
  unfold X6
  rw[if_neg (by omega),h1];rfl
 rw[e]
 exact⟨rfl,N17 h2 (V11 hi),by rw[Nat.testBit_or,Nat.testBit_two_pow];simp⟩
noncomputable def fwI (es:List Nat) (N:Nat) (bs:List Bag) (i:Nat):Rat:=(bs.take i).foldl (fun w b=>gr w (Q21 es N (X6 b))) 0
theorem Y63 {es:List Nat} {N:Nat} {bs:List Bag} {i:Nat} {b:Bag} (h:bs[i]? = some b):fwI es N bs (i+1)=gr (fwI es N bs i) (Q21 es N (X6 b)):=by
 unfold fwI
 rw[K9 h,List.foldl_append];rfl
theorem D41 {es:List Nat} {N:Nat} {bs:List Bag} (h:es.length<=8):∀ i,i<=bs.length->X4 (fwI es N bs i) 100000
 | 0,_=>Y20 _ (by omega)
 | i+1,hi=>by
  rw[Y63 (List.getElem?_eq_getElem (show i<bs.length by omega))]
  exact Z24 (D41 h i (by omega)) (R12 es N _ h)
theorem G62 {H:Y0} {nx p rc rl N cap f:Nat} {A:Option Addr} {es nb:List Nat} {L:Nat->Rat} (h:SV H nx p rc rl N A cap es nb L) (hN:N<=6) (hsm:∀ e ∈ es,e<2^N) (hle:es.length<=8)
  (hcov:∀ w,w<N->∃ e ∈ es,e.testBit w=true) (hf:f<=N):
  J2 Tryd.prog 27 [.pointer (some ⟨p,0,none⟩),.int .i64 (f:Int)] H nx fun v H' nx'=>RR H' nx' v (fwI es N (Q9 es N f (upK f (N-f))) f)/\SV H' nx' p rc rl N A cap es nb L/\Kp H nx rc rl H' nx':=by
 have hp64:2^N<=64:=Nat.pow_le_pow_right (n:=2) (by omega) hN
 have hpn:=h.pn
 have hrcn:=h.rcn
 have hrln:=h.rln
 have hsm32:Z4 es:=fun e he=>by have:=hsm e he;omega
 have hcov':∀ s,s<2^N->∀ v,s.testBit v=true->∃ e ∈ es,e.testBit v=true:=fun s hs v hv=>hcov v (by
  refine Classical.byContradiction fun hn => ?_
  rw[Nat.testBit_lt_two_pow (Nat.lt_of_lt_of_le hs (Nat.pow_le_pow_right (n:=2) (by omega) (show N<=v by omega)))] at hv
  cases hv)
 refine spec27 ?_
 unfold F27
 have hE1:D0 H nx (hs H nx (some (.cells [.bool false,.slice none 0 0,.slice none 0 0] 0))) (nx+1):=(D0.refl _ _).new _ (Nat.le_refl _) (by omega)
 have g1:X0 (hs H nx (some (.cells [.bool false,.slice none 0 0,.slice none 0 0] 0))) nx=some (.cells [.bool false,.slice none 0 0,.slice none 0 0] 0):=Q0 _ _ _
 have h1:=h.ext hE1
 rw[X18]
 simp only[B0.val]
 generalize hs H nx (some (.cells [.bool false,.slice none 0 0,.slice none 0 0] 0))=H1 at *
 refine E1 (m:=N-f) (fun m L H' nx'=>∃ i v,m+i=N-f/\L=[v,.int .i64 ((f+i:Nat):Int)]/\Q6 (nx+1) H' nx' 1 v i (R3 (upK f i))/\D0 H1 (nx+1) H' nx') ?_
  ⟨0,.slice none 0 0,by omega,by simp,Q6.nil _ _ _ _,D0.refl _ _⟩
 rintro m ih1 L1 H2 nx2 ⟨i,v,hm,rfl,hA,hE2⟩ hih
 have hle2:=hE2.le
 have h2:=h1.ext hE2
 have hbs:∀ (x:Int) k,G7 1 1 [.int .i64 0] [(0,.int .i64 x)] k=k [.int .i64 x]:=fun x k=>rfl
 by_cases hi:i<N-f
 .have hi':((f+i:Nat):Int)<(N:Int):=by omega
  simp (disch:=first|omega|assumption) only[W0,B0.val,h2.hp,X50,hi',hbs]
  have hE3:D0 H2 nx2 (hs H2 nx2 (some (.cells [.int .i64 ((f+i:Nat):Int)] 0))) (nx2+1):=(D0.refl _ _).new _ (Nat.le_refl _) (by omega)
  refine N16 (H0:=H1) (lo:=nx+1) (m:=1) (l:=[.int .i64 ((f+i:Nat):Int)]) (by omega) (hA.ext hE3) (Z8 (Q0 _ _ _) rfl (by omega)) (by omega) rfl (by omega) (by omega) (hE2.trans hE3) (by omega) ?_
  intro v' H' hA' hE' _
  refine hih (m-1) _ _ _ (by omega) ⟨i+1,v',by omega,by simp;omega,?_,hE'⟩
  have e:R3 (upK f (i+1))=R3 (upK f i)++[.int .i64 ((f+i:Nat):Int)]:=by rw[Y66,E34];rfl
  rw[e];exact hA'
 have hi':¬ ((f+i:Nat):Int)<(N:Int):=by omega
 obtain rfl:i=N-f:=by omega
 clear hih
 obtain⟨P,rfl,hP,hPH⟩:=Y71 hA
 have hE02:=hE1.trans hE2
 have g2:=(hE2.get nx (by omega)).trans g1
 simp (disch:=first|omega|assumption) only[W0,B0.val,h2.hp,X50,hi']
 refine K0 (V16 (n:=0) (by omega) (by omega) _ _) ?_
 rintro r H5 nx5 ⟨hr,hE5⟩
 obtain⟨c5,rfl,hc5⟩:=hr.num
 have hle5:=hE5.le
 have h5:=h2.ext hE5
 have hE67:D0 H5 nx5 (hs (hs H5 nx5 (some (.cells [.bool false,.slice none 0 0,.slice none 0 0] 0))) nx5 (some (.cells c5 0))) (nx5+1):=((D0.refl _ _).new _ (Nat.le_refl _) (m:=nx5+1) (by omega)).new _ (by omega) (by omega)
 have h7:=h5.ext hE67
 have g77:X0 (hs (hs H5 nx5 (some (.cells [.bool false,.slice none 0 0,.slice none 0 0] 0))) nx5 (some (.cells c5 0))) nx5=some (.cells c5 0):=Q0 _ _ _
 simp (disch:=first|omega|assumption) only[W0,Nat.reduceAdd,hc5.three,hc5.one,Z5 (show c5.length=[Value.bool false,.slice none 0 0,.slice none 0 0].length from hc5.three),h5.hp,U65]
 generalize hs (hs H5 nx5 (some (.cells [.bool false,.slice none 0 0,.slice none 0 0] 0))) nx5 (some (.cells c5 0))=H7 at *
 have hE27:=hE5.trans hE67
 have hlenP:N-f=(upK f (N-f)).length:=(D55 _ _).symm
 have hb13:=M80 (N:Int) (f:Int) A es cap P (upK f (N-f)) (N-f) H7 (nx5+1) h7.es' hsm32 (hP.ext hE27) (hPH.ext hE27) (by rw[D55];omega)
 rw[<- hlenP] at hb13
 refine K0 hb13 ?_
 rintro r8 H8 nx8 ⟨hE8,h8⟩
 have hle8:=hE8.le
 have hfc:V9 (N:Int) (f:Int) es=0:=by
  unfold V9
  rw[W14 (by omega) (by omega) fun i e he=>hsm e (List.mem_of_getElem? he)]
  simp;omega
 rcases h8 with ⟨h0,_⟩ | ⟨n',f',en,ef,_,_,_,h8⟩
 .exact absurd hfc h0
 obtain rfl:N=n':=by omega
 obtain rfl:f=f':=by omega
 rcases h8 with ⟨hno',_⟩ | ⟨hok,order,ho,hnd,hlt,hlen,R,rfl,hR,o,rfl,hno,hon,hgo⟩
 .exact absurd (R77 hf) hno'
 obtain rfl:=E42 (n:=N) ho
 have hbl:=J10 es N f (upK f (N-f))
 have hbat:=fun i (hi:i<N)=>D49 (es:=es) (R77 hf) hf hi
 rw[show X16 N (List.replicate N Y11) (adj es) (Y39 N f (upK f (N-f)))=Q9 es N f (upK f (N-f)) from rfl] at hR hgo
 generalize Q9 es N f (upK f (N-f))=bs at *
 have g78:=(hE8.get nx5 (by omega)).trans g77
 have h8:=h7.ext hE8
 have hE08:=(hE02.trans hE27).trans hE8
 have g8:=((hE27.trans hE8).get nx (by omega)).trans g2
 have hr8:=(hr.ext hE67).ext hE8
 simp (disch:=first|omega|assumption) only[W0,J94 hgo hf]
 have hk5:=(hE02.trans hE5).kp (p:=rc) (q:=rl)
 have hk58:=(hE67.trans hE8).kp (p:=rc) (q:=rl)
 have g5:=(hE5.get nx (by omega)).trans g2
 clear hE8 hE27 hE02 hE67 hE08 h7 h2 hA hP hPH hb13 ho hr
 refine E1 (m:=f) (fun m L' H' nx'=>∃ i c,m+i=f/\L'=[.int .i64 (i:Int)]/\SV H' nx' p rc rl N A cap es nb L/\Kp H5 nx5 rc rl H' nx'/\X0 H' o=some (.cells (M8 bs) 0)/\nx8<=nx'/\G9 c/\X0 H' nx5=some (.cells c 0)/\RR H' nx' (.agg ⟨c⟩) (fwI es N bs i)) ?_
  ⟨0,c5,by omega,rfl,h8,hk58,hgo,Nat.le_refl _,hc5,g78,hr8⟩
 rintro m ih2 L2 H9 nx9 ⟨i,c,hm2,rfl,h9,hk9,g9o,hle9,hc,g97,hr9⟩ hih
 have g9:=hk9.cell h5.ic h5.il (by omega) g5
 by_cases hi2:i<f
 case neg=>
  obtain rfl:i=f:=by omega
  have hlt':¬ (i:Int)<(i:Int):=by omega
  simp (disch:=first|omega|assumption) only[W0,Nat.reduceAdd,hlt',g97,Q3 hc,hc.three,hc.one,g9,Z5 (show c.length=[Value.bool false,.slice none 0 0,.slice none 0 0].length from hc.three)]
  have hk:=hk5.trans hk9
  refine⟨hr9.boxs g9 (X8 rfl) (.inl rfl),h9.boxs g9 rfl (by omega),hk.hs (.inl (Nat.le_refl _))⟩
 have hi2':(i:Int)<(f:Int):=by omega
 obtain⟨b,hb,hbv,hbk⟩:=hbat i (by omega)
 obtain⟨hs1,hs2,hs3⟩:=D66 hbv hbk (show i<N by omega) (by omega)
 have hbk32:b.key<4294967296:=by omega
 have c0:=Z19 hb 0 (.int .i64 b.var) rfl
 have c1:=Z19 hb 1 (.int .u32 (b.key:Int)) rfl
 have c2:=Z19 hb 2 (.int .i64 b.par) rfl
 rw[Nat.add_zero] at c0
 simp (disch:=first|omega|assumption) only[W0,Z0,Nat.reduceAdd,hi2',g9o,E71 c0 c1 c2,G5,D3,g97,Q3 hc]
 generalize hK:hs (hs H9 nx9 (some (.cells [.int .i64 0,.int .u32 0,.int .i64 0] 0))) nx9 (some (.cells [.int .i64 b.var,.int .u32 (b.key:Int),.int .i64 b.par] 0))=K
 have kE:D0 H9 nx9 K (nx9+1+7):=by rw[<- hK];exact (((D0.refl H9 nx9).new _ (Nat.le_refl _) (by omega):D0 H9 nx9 _ (nx9+1+7)).hs (Nat.le_refl _))
 have kB:X0 K nx9=some (.cells [.int .i64 b.var,.int .u32 (b.key:Int),.int .i64 b.par] 0):=by rw[<- hK,Q0]
 have k7:=(kE.get nx5 (by omega)).trans g97
 refine K0 (Y90 (b:=b) hbk32 K (nx9+1+7)) ?_
 rintro _ H11 nx11 ⟨rfl,hE11⟩
 have hE911:=kE.trans hE11
 have h11:=h9.ext hE911
 have g117:=(hE911.get nx5 (by omega)).trans g97
 refine K0 (G48 h11 (by omega) hsm hle hs2 (Y25 (show i<N by omega) hs3) (hcov' _ hs2)) ?_
 rintro v12 H12 nx12 ⟨hv12,h12,hk12⟩
 have hle11:=hE911.le
 have hle12:=hk12.le
 have g127:=hk12.cell h11.ic h11.il (by omega) g117
 have hr12:=(hr9.ext hE911).kp hk12 h11.ic h11.il
 refine K0 (B37 hr12 hv12 (D41 hle i (by omega)) (R12 es N _ hle)) ?_
 rintro v13 H13 nx13 ⟨hv13,hE13⟩
 obtain⟨c13,rfl,hc13⟩:=hv13.num
 have g137:=(hE13.get nx5 (by omega)).trans g127
 have h13:=h12.ext hE13
 have hk13:Kp H9 nx9 rc rl H13 nx13:=(hE911.kp.trans hk12).trans hE13.kp
 simp (disch:=first|omega|assumption) only[W0,g137,g127,g117,Q3 hc,hc13.three,hc13.one,Z5 (show c13.length=c.length by rw[hc13.three,hc.three])]
 have hle13:=hE13.le
 have g13o:=hk13.cell h9.ic h9.il (by omega) g9o
 refine⟨by rw[hc.three];omega,hih (m-1) _ _ _ (by omega) ⟨i+1,c13,by omega,by simp,h13.boxs g137 (G9.noU hc) (by omega),(hk9.trans hk13).hs (.inl (Nat.le_refl _)),?_,by omega,hc13,Q0 _ _ _,?_⟩⟩
 .rw[M0 _ (by omega)];exact g13o
 .rw[Y63 hb]
  exact hv13.boxs g137 (D23 hc) (.inl rfl)
end Go.Proofs.YtpiobdofbhkmjaaDoor

namespace Go.Clo
def E11 (x:Nat):Nat:=(Y4 6 x).length
theorem C71 {s:ByteArray} {i b:Nat} {K:IntKind} (hg:s.data[i]? = some (UInt8.ofNat b)) (hb:b<256) (k:VP):wVf .sidx [.string s,.int K (i:Int)] k=k (.int .u8 (b:Int)):=by
 have h:VF.ev .sidx [.string s,.int K (i:Int)]=some (.int .u8 (b:Int)):=by
  show G54 s (i:Int)=_
  unfold G54
  have e:s[((i:Int)).toNat]? = some (UInt8.ofNat b):=by
   rw[Int.toNat_natCast,<- hg];rfl
  rw[if_pos (by omega),e]
  simp only[Option.map_some]
  congr 2
  show ((UInt8.ofNat b).toNat:Int)=_
  have:(UInt8.ofNat b).toNat=b%256:=UInt8.toNat_ofNat'
  rw[this,Nat.mod_eq_of_lt (by omega)]
 unfold wVf
 rw[h,R9];rfl
end Go.Clo
namespace Go.Proofs.YtpiobdofbhkmjaaDoor
open Go.Clo
def Q26:Array UInt8 := #[0,1,1,2,1,2,2,3,1,2,2,3,2,3,3,4,1,2,2,3,2,3,3,4,2,3,3,4,3,4,4,5,1,2,2,3,2,3,3,4,2,3,3,4,3,4,4,5,2,3,3,4,3,4,4,5,3,4,4,5,4,5,5,6,1,2,2,3,2,3,3,4,2,3,3,4,3,4,4,5,2,3,3,4,3,4,4,5,3,4,4,5,4,5,5,6,2,3,3,4,3,4,4,5,3,4,4,5,4,5,5,6,3,4,4,5,4,5,5,6,4,5,5,6,5,6,6,7,1,2,2,3,2,3,3,4,2,3,3,4,3,4,4,5,2,3,3,4,3,4,4,5,3,4,4,5,4,5,5,6,2,3,3,4,3,4,4,5,3,4,4,5,4,5,5,6,3,4,4,5,4,5,5,6,4,5,5,6,5,6,6,7,2,3,3,4,3,4,4,5,3,4,4,5,4,5,5,6,3,4,4,5,4,5,5,6,4,5,5,6,5,6,6,7,3,4,4,5,4,5,5,6,4,5,5,6,5,6,6,7,4,5,5,6,5,6,6,7,5,6,6,7,6,7,7,8]
theorem Z93:∀ x,x<64->Q26[x]? = some (UInt8.ofNat (E11 x))/\E11 x<7:=by
 have h:((List.range 64).all fun i=>decide (Q26[i]? = some (UInt8.ofNat (E11 i))/\E11 i<7))=true:=by decide +kernel
 intro i hi
 have:=List.all_eq_true.1 h i (by simpa using hi)
 simpa using this
theorem J67 {x:Nat} (hx:x<64) (H:Y0) (nx:Nat):J2 Tryd.prog 25 [.int .u32 (x:Int)] H nx fun r H' nx'=>r = .int .i64 (E11 x:Int)/\D0 H nx H' nx':=by
 refine spec25 ?_
 unfold F25
 obtain⟨h1,h2⟩:=Z93 x hx
 have z1:x >>> 24=0:=by rw[Nat.shiftRight_eq_div_pow];omega
 have z2:x >>> 16=0:=by rw[Nat.shiftRight_eq_div_pow];omega
 have z3:x >>> 8=0:=by rw[Nat.shiftRight_eq_div_pow];omega
 have z4:x &&& 255=x:=by rw[show (255:Nat)=2^8-1 from rfl,Nat.and_two_pow_sub_one_eq_mod];omega
 have s1:=fun k=>V13 (a:=x) (n:=24) (K := .u64) k (by omega)
 have s2:=fun k=>V13 (a:=x) (n:=16) (K := .u64) k (by omega)
 have s3:=fun k=>V13 (a:=x) (n:=8) (K := .u64) k (by omega)
 rw[z1] at s1
 rw[z2] at s2
 rw[z3] at s3
 have p0:Q26[0]? = some (UInt8.ofNat 0):=by decide +kernel
 have t0:∀ (k:VP),wVf .sidx [.string ⟨Q26⟩,.int .u32 0] k=k (.int .u8 0):=fun k=>C71 (s:=⟨Q26⟩) (i:=0) (b:=0) p0 (by omega) k
 have tx:∀ (k:VP),wVf .sidx [.string ⟨Q26⟩,.int .u32 (x:Int)] k=k (.int .u8 (E11 x:Int)):=fun k=>C71 (s:=⟨Q26⟩) (i:=x) h1 (by omega) k
 unfold Q26 at t0 tx
 have a0:∀ (k:VP),J0 .and (.int .u32 0) (.int .u32 255) k=k (.int .u32 0):=fun k=>rfl
 have ax:∀ (k:VP),J0 .and (.int .u32 (x:Int)) (.int .u32 255) k=k (.int .u32 (x:Int)):=fun k=>by
  have:=Q27 (a:=x) (b:=255) k (by omega) (by omega)
  rw[z4] at this
  exact this
 have b0:∀ (k:VP),J0 .add (.int .u8 0) (.int .u8 0) k=k (.int .u8 0):=fun k=>rfl
 have bx:∀ (k:VP),J0 .add (.int .u8 0) (.int .u8 (E11 x:Int)) k=k (.int .u8 (E11 x:Int)):=fun k=>by
  rw[C7]
  have e:IntKind.u8.wrap (0+(E11 x:Int))=(E11 x:Int):=by rw[Int.zero_add];exact G80 (by omega)
  show k (.int .u8 (IntKind.u8.wrap (0+(E11 x:Int))))=_
  rw[e]
 have c0:∀ (k:VP),M3 .i64 (.int .u8 (E11 x:Int)) k=k (.int .i64 (E11 x:Int)):=fun k=>V77 (by omega) _ k
 rw[N2,show (.int .u64 24:Value) = .int .u64 ((24:Nat):Int) from rfl,s1]
 rw[show (.int .u32 ((0:Nat):Int):Value) = .int .u32 0 from rfl,t0]
 rw[show (.int .u64 16:Value) = .int .u64 ((16:Nat):Int) from rfl,s2]
 rw[show (.int .u32 ((0:Nat):Int):Value) = .int .u32 0 from rfl,a0,t0,b0]
 rw[show (.int .u64 8:Value) = .int .u64 ((8:Nat):Int) from rfl,s3]
 rw[show (.int .u32 ((0:Nat):Int):Value) = .int .u32 0 from rfl,a0,t0,b0,ax,tx,bx,c0,c0]
 refine .inl ⟨⟨⟨rfl,trivial⟩,trivial⟩,?_⟩
 rw[N7]
 exact⟨rfl,D0.self (by omega)⟩
end Go.Proofs.YtpiobdofbhkmjaaDoor

namespace Go.Clo
theorem X91:∀ x,x<64->0<x->x &&& (4294967296-x)=2^tz x:=by decide +kernel
theorem D83 {x:Nat} (h0:0<x) (h:x<4294967296) (k:VP):wUn .neg (.int .u32 (x:Int)) k=k (.int .u32 ((4294967296-x:Nat):Int)):=by
 have e:unV .neg (.int .u32 (x:Int))=some (.int .u32 (IntKind.u32.wrap (0-(x:Int)))):=rfl
 have e2:IntKind.u32.wrap (0-(x:Int))=((4294967296-x:Nat):Int):=by
  simp only[IntKind.wrap,IntKind.signed,IntKind.bits]
  simp
  omega
 unfold wUn
 rw[e,e2,R9];rfl
theorem D79 (x:Int) (k:VP):M4 [.int .i64 0,.slice none 0 0] [(0,1),(1,1)] [(0,.int .i64 x)] k=k (.agg ⟨[.int .i64 x,.slice none 0 0]⟩):=E3 _ _
theorem V48 (x:Int) (k:List Value->Prop):G7 1 1 [.int .u32 0] [(0,.int .u32 x)] k=k [.int .u32 x]:=rfl
theorem D0.thru {H:Y0} {nx:Nat} {K:Y0} {m:Nat} {H':Y0} {nx':Nat} (a:D0 H nx K m) (b:D0 K nx H' nx'):D0 H nx H' nx':=⟨b.le,fun q hq=>(b.get q hq).trans (a.get q hq)⟩
theorem Q6.low {lo:Nat} {H:Y0} {nx size:Nat} {v:Value} {n:Nat} {c:List Value} (h:Q6 lo H nx size v n c) {i:Nat} (hi:i<lo) (b:Option V4):Q6 lo (Go.Clo.hs H i b) nx size v n c:=by
 obtain⟨hl,h | ⟨q,h1,h2,h3,h4⟩⟩:=h
 .exact⟨hl,.inl h⟩
 .exact⟨hl,.inr ⟨q,h1,h2,h3,by rw[M0 _ (by omega)];exact h4⟩⟩
theorem Q88 (a b x:Value):G6 [a,b] 1 [x]=[a,x]:=rfl
theorem V34 (a b:List Nat):N1 (a++b)=N1 a++N1 b:=by simp[N1]
end Go.Clo
namespace Go.Proofs.YtpiobdofbhkmjaaDoor
open Go.Clo
theorem R73 {N s cap:Nat} {A:Option Addr} {es:List Nat} {H:Y0} {nx:Nat} (hS:Sl H nx A (N1 es)) (hN:N<=6) (hsm:∀ e ∈ es,e<2^N) (hle:es.length<=8) (hs32:s<4294967296):
  J2 Tryd.prog 24 [gv N A es.length cap,.int .u32 (s:Int)] H nx fun r H' nx'=>(∃ B,r=gv N B (Y13 es s).length (Y13 es s).length/\Sl H' nx' B (N1 (Y13 es s)))/\D0 H nx H' nx':=by
 have hp64:2^N<=64:=Nat.pow_le_pow_right (n:=2) (by omega) hN
 have hsm32:Z4 es:=fun e he=>by have:=hsm e he;omega
 have hgc:R8 N es=0:=W14 (by omega) (by omega) fun i e he=>hsm e (List.mem_of_getElem? he)
 refine spec24 ?_
 unfold F24
 simp (disch:=first | omega | assumption | exact Y2 (by assumption) | exact Q1 (by assumption) | exact J1 (by omega) | fail) only[W0,Z0,B0.val,J3]
 generalize hK:hs (hs H nx (some (.cells [.int .i64 N,.slice A es.length cap] 0))) (nx+1) (some (.cells [.int .i64 0,.slice none 0 0] 0))=K
 have kG:X0 K nx=some (.cells [.int .i64 N,.slice A es.length cap] 0):=by rw[<- hK,M0 _ (by omega),Q0]
 have kR:X0 K (nx+1)=some (.cells [.int .i64 0,.slice none 0 0] 0):=by rw[<- hK,Q0]
 have hEK:D0 H nx K (nx+1+1):=by
  rw[<- hK];exact (((D0.refl H nx).new _ (by omega) (by omega):D0 H nx _ (nx+1)).new _ (by omega) (by omega))
 refine K0 (Y24 N A es cap _ _ (hS.ext hEK) hsm32) ?_
 rintro _ H3 nx3 ⟨rfl,hE3⟩
 have d1:decide (R8 N es≠0)=false:=by simp[hgc]
 have g3:=(hE3.get nx (by omega)).trans kG
 have r3:=(hE3.get (nx+1) (by omega)).trans kR
 have hle3:=hE3.le
 simp (disch:=first | omega | assumption | exact Y2 (by assumption) | exact Q1 (by assumption) | exact J1 (by omega) | fail) only[W0,Z0,Nat.reduceAdd,d1,g3,D79,C31]
 generalize hK4:hs (hs H3 nx3 (some (.cells [.int .i64 0,.slice none 0 0] 0))) nx3 (some (.cells [.int .i64 N,.slice none 0 0] 0))=K4
 have k4:X0 K4 nx3=some (.cells [.int .i64 N,.slice none 0 0] 0):=by rw[<- hK4,Q0]
 have hE4:D0 H3 nx3 K4 (nx3+1):=by rw[<- hK4];exact ((D0.refl _ _).new _ (Nat.le_refl _) (by omega):D0 H3 nx3 _ (nx3+1)).hs (Nat.le_refl _)
 have g4:=(hE4.get nx (by omega)).trans g3
 refine E1 (m:=es.length) (fun m L H' nx'=>∃ i v,m+i=es.length/\L=[.int .i64 (i:Int)]/\Q6 (nx3+1) H' nx' 1 v (Y13 (es.take i) s).length (N1 (Y13 (es.take i) s))/\X0 H' nx3=some (.cells [.int .i64 N,v] 0)/\D0 K4 nx3 H' nx'/\nx3+1<=nx') ?_
  ⟨0,.slice none 0 0,by omega,rfl,Q6.nil _ _ _ _,k4,D0.self (by omega),by omega⟩
 rintro m ih L H5 nx5 ⟨i,v,hm,rfl,hA,g5,hE5,hle5⟩ hih
 have hE05:D0 H nx H5 nx5:=(hEK.trans hE3).trans (hE4.thru hE5)
 have r5:=((hE4.thru hE5).get (nx+1) (by omega)).trans r3
 by_cases hi:i<es.length
 case neg=>
  have hi':¬ (i:Int)<(es.length:Int):=by omega
  rw[M29 hi] at hA
  obtain⟨B,rfl,hB⟩:=hA.sl
  simp (disch:=first | omega | assumption | exact Y2 (by assumption) | exact Q1 (by assumption) | exact J1 (by omega) | fail) only[W0,Z0,Nat.reduceAdd,hi',g5,J3,r5,C31]
  refine⟨⟨B,rfl,?_⟩,hE05.hs (by omega)⟩
  obtain⟨B',e,hB'⟩:=(hA.low (i:=nx+1) (by omega) (some (.cells [.int .i64 N,.slice B (Y13 es s).length (Y13 es s).length] 0))).sl
  cases e
  exact hB'
 have hi':(i:Int)<(es.length:Int):=by omega
 obtain⟨e,he⟩:∃ e,es[i]? = some e:=⟨_,List.getElem?_eq_getElem hi⟩
 obtain⟨A,oA,G17,rfl,hAn,hrowA,hgetA⟩:=(hS.ext hE05).open (i:=i) (by rw[G1];omega)
 have he32:=hsm32.get he
 have q0:=hgetA _ _ (G3 he)
 have hnext:=V79 s he
 have hil:(Y13 (es.take i) s).length<=8:=by have:=Y62 (es.take i) s;rw[List.length_take] at this;omega
 by_cases h0:e &&& s=0
 .rw[if_pos h0,List.append_nil] at hnext
  simp (disch:=first | omega | assumption | exact Y2 (by assumption) | exact Q1 (by assumption) | exact J1 (by omega) | fail) only[W0,hi',Y3 hrowA,q0,h0,K3,ne_eq,not_true_eq_false]
  exact hih (m-1) _ _ _ (by omega) ⟨i+1,v,by omega,by simp,by rw[hnext];exact hA,g5,hE5,hle5⟩
 .rw[if_neg h0] at hnext
  simp (disch:=first | omega | assumption | exact Y2 (by assumption) | exact Q1 (by assumption) | exact J1 (by omega) | fail) only[W0,hi',Y3 hrowA,q0,h0,K3,ne_eq,not_false_eq_true,g5,V48]
  have hE6:D0 H5 nx5 (hs H5 nx5 (some (.cells [.int .u32 ((e &&& s:Nat):Int)] 0))) (nx5+1):=(D0.refl _ _).new _ (Nat.le_refl _) (by omega)
  have g6:=(hE6.get nx3 (by omega)).trans g5
  refine N16 (H0:=hs H5 nx5 (some (.cells [.int .u32 ((e &&& s:Nat):Int)] 0))) (lo:=nx3+1) (m:=1) (l:=[.int .u32 ((e &&& s:Nat):Int)]) (by omega) (hA.ext hE6) (Z8 (Q0 _ _ _) rfl (by omega)) (by omega) rfl (by omega) (by omega) (D0.self (by omega)) (by omega) ?_
  intro v' H' hA' hE' _
  have g7:=(hE'.get nx3 (by omega)).trans g6
  obtain⟨B',rfl,_⟩:=hA'.sl
  simp (disch:=first | omega | assumption | exact Y2 (by assumption) | exact Q1 (by assumption) | exact J1 (by omega) | fail) only[W0,Nat.reduceAdd,g7,Q88]
  refine hih (m-1) _ _ _ (by omega) ⟨i+1,_,by omega,by simp,?_,Q0 _ _ _,?_,by omega⟩
  .rw[hnext,V34,List.length_append]
   exact hA'.low (by omega) _
  .exact (hE5.thru ⟨by omega,fun q hq=>(hE'.get q (by omega)).trans (hE6.get q (by omega))⟩).hs (Nat.le_refl _)
def U21 (es:List Nat) (N:Nat):List Nat:=W15 (E4 es N) N N (2^N-1)
theorem R29 {es:List Nat} {N:Nat}:∀ (u x:Nat),(E4 es N)[u]? = some x->x<2^N:=by
 intro u x h
 simp only[E4,List.getElem?_map,Option.map_eq_some_iff] at h
 obtain⟨v,_,rfl⟩:=h
 split
 .exact V22 _ _
 .exact Nat.two_pow_pos _
theorem B60 {N cap:Nat} {A:Option Addr} {es:List Nat} {H:Y0} {nx:Nat} (hS:Sl H nx A (N1 es)) (hN:N<=6) (hsm:∀ e ∈ es,e<2^N) (hle:es.length<=8):
  J2 Tryd.prog 23 [gv N A es.length cap] H nx fun r H' nx'=>(∃ B,r = .slice B (U21 es N).length (U21 es N).length/\Sl H' nx' B (N1 (U21 es N)))/\D0 H nx H' nx':=by
 have hp64:2^N<=64:=Nat.pow_le_pow_right (n:=2) (by omega) hN
 have hp1:0<2^N:=Nat.two_pow_pos N
 have hsm32:Z4 es:=fun e he=>by have:=hsm e he;omega
 have hgc:R8 N es=0:=W14 (by omega) (by omega) fun i e he=>hsm e (List.mem_of_getElem? he)
 have haL:=R29 (es:=es) (N:=N)
 refine spec23 ?_
 unfold F23
 have hE1:D0 H nx (hs H nx (some (.cells [.int .i64 N,.slice A es.length cap] 0))) (nx+1):=(D0.refl H nx).new _ (Nat.le_refl _) (by omega)
 have k1:X0 (hs H nx (some (.cells [.int .i64 N,.slice A es.length cap] 0))) nx=some (.cells [.int .i64 N,.slice A es.length cap] 0):=Q0 _ _ _
 simp (disch:=first | omega | assumption | exact Y2 (by assumption) | exact Q1 (by assumption) | exact J1 (by omega) | fail) only[W0,Z0,B0.val,J3]
 generalize hs H nx (some (.cells [.int .i64 N,.slice A es.length cap] 0))=K at *
 refine K0 (Y24 N A es cap _ _ (hS.ext hE1) hsm32) ?_
 rintro _ H2 nx2 ⟨rfl,hE2⟩
 have d1:decide (R8 N es≠0)=false:=by simp[hgc]
 have g2:=(hE2.get nx (by omega)).trans k1
 have hle2:=hE2.le
 simp (disch:=first | omega | assumption | exact Y2 (by assumption) | exact Q1 (by assumption) | exact J1 (by omega) | fail) only[W0,d1,g2,J3]
 refine K0 (B89 (by omega) A es cap _ _ (hS.ext (hE1.trans hE2)) hsm (by omega)) ?_
 rintro _ H3 nx3 ⟨rfl,hE3⟩
 have g3:=(hE3.get nx (by omega)).trans g2
 have hle3:=hE3.le
 have e1:(N1 (E4 es N)).length=32:=by rw[G1];exact B16 es N
 have e2:(N1 (List.replicate 32 0)).length=32:=by rw[G1];simp
 have e3:=Z5 (c:=N1 (List.replicate 32 0)) (vs:=N1 (E4 es N)) (by rw[e1,e2])
 have e4:=Q14 (E4 es N)
 rw[Y44]
 simp (disch:=first | omega | assumption | exact Y2 (by assumption) | exact Q1 (by assumption) | exact J1 (by omega) | fail) only[W0,e1,e2,e3,e4,g3]
 have hE4:D0 H3 nx3 (hs (hs H3 nx3 (some (.cells (N1 (List.replicate 32 0)) 0))) nx3 (some (.cells (N1 (E4 es N)) 0))) (nx3+1):=((D0.refl _ _).new _ (Nat.le_refl _) (m:=nx3+1) (by omega)).hs (Nat.le_refl _)
 have g43:X0 (hs (hs H3 nx3 (some (.cells (N1 (List.replicate 32 0)) 0))) nx3 (some (.cells (N1 (E4 es N)) 0))) nx3=some (.cells (N1 (E4 es N)) 0):=Q0 _ _ _
 generalize hs (hs H3 nx3 (some (.cells (N1 (List.replicate 32 0)) 0))) nx3 (some (.cells (N1 (E4 es N)) 0))=H4 at *
 have g4:=(hE4.get nx (by omega)).trans g3
 refine K0 (Y69 (n:=N) (by omega) _ _) ?_
 rintro _ _ _ ⟨rfl,rfl,rfl⟩
 have hE04:=((hE1.trans hE2).trans hE3).trans hE4
 generalize hL:E4 es N=aL at *
 have hLN:aL.length=32:=by rw[<- hL];exact B16 es N
 refine E1 (m:=N) (fun m L H' nx'=>∃ (l:Nat) (v:Value) (res:List Nat),L=[v,.int .u32 (l:Int)]/\(Y4 N l).length<=m/\l<2^N/\res.length+m<=N+1/\res++W15 aL N m l=U21 es N/\Q6 (nx3+1) H' nx' 1 v res.length (N1 res)/\D0 H4 (nx3+1) H' nx') ?_
  ⟨2^N-1,.slice none 0 0,[],rfl,E15 _ _,by omega,by simp,by unfold U21;rw[hL];rfl,Q6.nil _ _ _ _,D0.refl _ _⟩
 rintro m ih L H5 nx5 ⟨l,v,res,rfl,hm,hl,hrm,hres,hA,hE5⟩ hih
 have g5:=(hE5.get nx (by omega)).trans g4
 have g53:=(hE5.get nx3 (by omega)).trans g43
 have hle5:=hE5.le
 have hl32:l<4294967296:=by omega
 by_cases h0:l=0
 .subst h0
  have e:W15 aL N m 0=[]:=by cases m<;>rfl
  rw[e,List.append_nil] at hres
  obtain⟨B,rfl,hB⟩:=hA.sl
  simp (disch:=first | omega | assumption | exact Y2 (by assumption) | exact Q1 (by assumption) | exact J1 (by omega) | fail) only[W0,ne_eq,not_true_eq_false]
  rw[hres] at hB ⊢
  exact⟨⟨B,rfl,hB⟩,hE04.trans hE5⟩
 have h0':¬ (l:Int)=0:=by omega
 obtain⟨m',rfl⟩:∃ m',m=m'+1:=by
  cases m with
  | zero=>
   obtain⟨u,hu⟩:=W13 h0
   have:=Y25 (X11 hl hu) hu
   omega
  | succ m=>exact⟨m,rfl⟩
 have e:W15 aL N (m'+1) l=J12 aL N N 0 (2^tz l) :: W15 aL N m' (M2 l (J12 aL N N 0 (2^tz l))):=if_neg h0
 rw[e] at hres
 have hv:=J50 (N:=N) (by omega) (by omega) hl
 have hlv:=M35 (x:=l) (by omega) (by omega)
 have hlow:=X91 l (by omega) (by omega)
 have hI:=Q89 (aL:=aL) haL hv
 have hn32:4294967296-l<4294967296:=by omega
 have hneg:=fun k=>D83 (x:=l) (by omega) hl32 k
 simp (disch:=first | omega | assumption | exact Y2 (by assumption) | exact Q1 (by assumption) | exact J1 (by omega) | fail) only[W0,ne_eq,h0',not_false_eq_true,hneg,hlow]
 generalize tz l=t at *
 refine E1 (m:=N) (fun f L H' nx'=>∃ (c b:Nat),L=[.int .u32 (c:Int),.int .u32 (b:Int)]/\c<2^N/\b<2^N/\N<=f+(Y4 N c).length/\(∀ w,b.testBit w=true->c.testBit w=false)/\J12 aL N f c b=J12 aL N N 0 (2^t)/\H5=H'/\nx5=nx') ?_
  ⟨0,2^t,rfl,hp1,V11 hv,by omega,by simp,rfl,rfl,rfl⟩
 rintro f ih6 L _ _ ⟨c,b,rfl,hc,hb,hf,hd,hcb,rfl,rfl⟩ hih6
 have hc32:c<4294967296:=by omega
 have hb32:b<4294967296:=by omega
 by_cases hb0:b=0
 .subst hb0
  have e5:J12 aL N f c 0=c:=by cases f<;>rfl
  rw[e5] at hcb
  rw[<- hcb] at hres hI
  have hm2:=X51 hv hlv hI.self
  have hnd32:M2 l c<4294967296:=Q1 hl32
  have hE6:D0 H5 nx5 (hs H5 nx5 (some (.cells [.int .u32 (c:Int)] 0))) (nx5+1):=(D0.refl _ _).new _ (Nat.le_refl _) (by omega)
  simp (disch:=first | omega | assumption | exact Y2 (by assumption) | exact Q1 (by assumption) | exact J1 (by omega) | fail) only[W0,ne_eq,not_true_eq_false,V48]
  refine N16 (H0:=H4) (lo:=nx3+1) (m:=1) (l:=[.int .u32 (c:Int)]) (by omega) (hA.ext hE6) (Z8 (Q0 _ _ _) rfl (by omega)) (by omega) rfl (by omega) (by omega) (hE5.trans hE6) (by omega) ?_
  intro v' H' hA' hE' _
  refine hih m' _ _ _ (by omega) ⟨M2 l c,v',res++[c],rfl,by omega,D7 hl,by simp;omega,by rw[List.append_assoc];exact hres,?_,hE'⟩
  rw[V34,List.length_append]
  exact hA'
 have hb0':¬ (b:Int)=0:=by omega
 obtain⟨f',rfl⟩:∃ f',f=f'+1:=by
  cases f with
  | zero=>exact absurd (M22 hb hd (by have:=E15 N c;omega)) hb0
  | succ f=>exact⟨f,rfl⟩
 have e6:J12 aL N (f'+1) c b=J12 aL N f' (c ||| b) (M2 (K20 aL b N) (c ||| b)):=if_neg hb0
 rw[e6] at hcb
 have hg:=K59 hb hb0 hd
 have hcb32:c ||| b<2^N:=N17 hc hb
 simp (disch:=first | omega | assumption | exact Y2 (by assumption) | exact Q1 (by assumption) | exact J1 (by omega) | fail) only[W0,ne_eq,hb0',not_false_eq_true,g5]
 refine E1 (m:=N) (fun q L H' nx'=>∃ (j:Nat),q+j=N/\L=[.int .u32 (K20 aL b j:Int),.int .i64 (j:Int)]/\H5=H'/\nx5=nx') ?_ ⟨0,by omega,rfl,rfl,rfl⟩
 rintro q ih7 L _ _ ⟨j,hq,rfl,rfl,rfl⟩ hih7
 have hnl:=G35 (b:=b) haL
 by_cases hj:j<N
 case neg=>
  obtain rfl:j=N:=by omega
  have hj':¬ (j:Int)<(j:Int):=by omega
  have hnj:=hnl j
  have hx32:K20 aL b j<4294967296:=by omega
  have hy32:c ||| b<4294967296:=by omega
  simp (disch:=first | omega | assumption | exact Y2 (by assumption) | exact Q1 (by assumption) | exact J1 (by omega) | fail) only[W0,hj']
  refine hih6 f' _ _ _ (by omega) ⟨c ||| b,M2 (K20 aL b j) (c ||| b),rfl,hcb32,D7 hnj,by omega,fun w hw => ?_,hcb,rfl,rfl⟩
  rw[N3,Bool.and_eq_true] at hw
  simpa using hw.2
 have hj':(j:Int)<(N:Int):=by omega
 obtain⟨x,hx⟩:∃ x,aL[j]? = some x:=⟨aL[j]'(by omega),List.getElem?_eq_getElem _⟩
 have hx2:=haL j x hx
 have hx32:x<4294967296:=by omega
 have hnj:=hnl j
 have hn32:K20 aL b j<4294967296:=by omega
 have hxD:aL.getD j 0=x:=by simp[List.getD_eq_getElem?_getD,hx]
 have gx:=G3 hx
 have hstep:K20 aL b (j+1)=if b.testBit j=true then K20 aL b j ||| aL.getD j 0 else K20 aL b j:=rfl
 rw[hxD] at hstep
 have hj32:j<32:=by omega
 cases hbj:b.testBit j with
 | false=>
  rw[hbj,if_neg (by simp)] at hstep
  simp (disch:=first | omega | assumption | exact Y2 (by assumption) | exact Q1 (by assumption) | exact J1 (by omega) | fail) only[W0,hj',K3,hbj]
  exact hih7 (q-1) _ _ _ (by omega) ⟨j+1,by omega,by rw[hstep];simp,rfl,rfl⟩
 | true=>
  rw[hbj,if_pos rfl] at hstep
  simp (disch:=first | omega | assumption | exact Y2 (by assumption) | exact Q1 (by assumption) | exact J1 (by omega) | fail) only[W0,hj',K3,hbj,g53,gx]
  exact hih7 (q-1) _ _ _ (by omega) ⟨j+1,by omega,by rw[hstep];simp,rfl,rfl⟩
end Go.Proofs.YtpiobdofbhkmjaaDoor
