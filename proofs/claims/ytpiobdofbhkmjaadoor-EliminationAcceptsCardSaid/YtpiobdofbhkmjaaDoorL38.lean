/-
  Contract: the solver's cover.
  math/bits.TrailingZeros32 at the numbers below 64.
  Contract: the solver's bag.
  Contract: the solver's minimum.
  Plain: connected components as sets of bits.
-/
import Derived.Test.YtpiobdofbhkmjaaDoorL37
import Derived.Shelf.Abstract
import Derived.WalkKit
import Derived.OwnWalkIn
import Derived.TacticsInMore
import Derived.LoopNIn
import Derived.LoopIn
import Derived.Test.YtpiobdofbhkmjaaDoorProg
import Derived.Test.YtpiobdofbhkmjaaDoorL1
import Derived.Test.YtpiobdofbhkmjaaDoorL16
import Derived.Test.YtpiobdofbhkmjaaDoorL34
set_option linter.unusedSimpArgs false
set_option linter.unusedVariables false
set_option linter.unusedSectionVars false
namespace Go.Proofs.YtpiobdofbhkmjaaDoor
open Go.Clo
theorem U65 (N:Nat) (A:Option Addr) (len cap:Nat) (nb:List Nat) (rc rl:Nat) (k:VP):N9 (J24 N A len cap nb rc rl) 0 (some 2) k=k (.agg ⟨[.int .i64 (N:Int),.slice A len cap]⟩):=by
 rw[D16];simp[J24]
theorem X41 (a b x y z:Value) (k:VP):N9 [a,b,x,y,z] 2 (some 3) k=k (.agg ⟨[x,y,z]⟩):=by
 rw[D16];simp
theorem G48 {H:Y0} {nx p rc rl N cap set:Nat} {A:Option Addr} {es nb:List Nat} {L:Nat->Rat} (h:SV H nx p rc rl N A cap es nb L) (hN:N<=8) (hsm:∀ e ∈ es,e<2^N) (hle:es.length<=8) (hset:set<2^N) (hn0:0<(Y4 N set).length)
  (hcov:∀ v,set.testBit v=true->∃ e ∈ es,e.testBit v=true):
  J2 Tryd.prog 49 [.pointer (some ⟨p,0,none⟩),.int .u32 (set:Int)] H nx fun v H' nx'=>RR H' nx' v (Q21 es N set)/\SV H' nx' p rc rl N A cap es nb L/\Kp H nx rc rl H' nx':=by
 have hp32:2^N<4294967296:=Q33 (by omega)
 have hset32:set<4294967296:=by omega
 have hsm32:Z4 es:=fun e he=>by have:=hsm e he;omega
 have hgc:R8 N es=0:=W14 (by omega) (by omega) fun i e he=>hsm e (List.mem_of_getElem? he)
 refine spec49 ?_
 unfold F49
 have hE1:D0 H nx (hs H nx (some (.cells [.bool false,.slice none 0 0,.slice none 0 0] 0))) (nx+1):=(D0.refl _ _).new _ (Nat.le_refl _) (by omega)
 have g1:X0 (hs H nx (some (.cells [.bool false,.slice none 0 0,.slice none 0 0] 0))) nx=some (.cells [.bool false,.slice none 0 0,.slice none 0 0] 0):=Q0 _ _ _
 have h1:=h.ext hE1
 simp (disch:=first|omega|assumption) only[W0,B0.val,h1.hp,U65]
 generalize hs H nx (some (.cells [.bool false,.slice none 0 0,.slice none 0 0] 0))=H1 at *
 refine K0 (V85 (by omega) hset32 A es cap _ _ h1.es' hsm32 (by omega) hgc) ?_
 rintro _ H2 nx2 ⟨⟨x,rfl⟩,hE2⟩
 have hle2:=hE2.le
 have hE02:=hE1.trans hE2
 have h2:=h.ext hE02
 have g2:=(hE2.get nx (by omega)).trans g1
 cases hin:J31 es set with
 | true=>
  simp (disch:=first|omega|assumption) only[W0]
  refine K0 (V16 (n:=1) (by omega) (by omega) _ _) ?_
  rintro r H3 nx3 ⟨hr,hE3⟩
  obtain⟨c,rfl,hc⟩:=hr.num
  have g3:=(hE3.get nx (by omega)).trans g2
  simp (disch:=first|omega|assumption) only[W0,Nat.reduceAdd,hc.three,hc.one,g3,Z5 (show c.length=[Value.bool false,.slice none 0 0,.slice none 0 0].length from hc.three),Q3 hc]
  have hE:=(hE02.trans hE3).hs (i:=nx) (b:=some (.cells c 0)) (Nat.le_refl _)
  refine⟨?_,h.ext hE,hE.kp⟩
  unfold Q21
  rw[if_pos hin]
  exact hr.boxs g3 (X8 rfl) (.inl rfl)
 | false=>
  have hcf:Q21 es N set=M10 es N set:=by unfold Q21;rw[if_neg (by simp[hin])]
  obtain⟨M,hM,hMv⟩:=h2.cm
  have hl34:=G92 (N:=N) (A:=A) (len:=es.length) (cap:=cap) (rc:=rc) (rl:=rl) h2.nbl
  cases hk:M set with
  | some v=>
   have hv:=hMv set v hk
   obtain⟨c,rfl,hc⟩:=hv.num
   simp (disch:=first|omega|assumption) only[W0,Nat.reduceAdd,h2.hp,hl34,hM.lkS hk,K3,hc.three,hc.one,Z5 (show c.length=[Value.bool false,.slice none 0 0,.slice none 0 0].length from hc.three),Q3 hc,g2]
   have hE6:D0 H2 nx2 (hs (hs H2 nx2 (some (.cells [.bool false,.slice none 0 0,.slice none 0 0] 0))) nx2 (some (.cells c 0))) (nx2+1):=((D0.refl _ _).new _ (Nat.le_refl _) (m:=nx2+1) (by omega)).new _ (by omega) (by omega)
   have g6:=(hE6.get nx (by omega)).trans g2
   have hE:=(hE02.trans hE6).hs (i:=nx) (b:=some (.cells c 0)) (Nat.le_refl _)
   refine⟨?_,h.ext hE,hE.kp⟩
   rw[hcf]
   exact (hv.ext hE6).boxs g6 (X8 rfl) (.inl rfl)
  | none=>
   have hE6:D0 H2 nx2 (hs (hs H2 nx2 (some (.cells [.bool false,.slice none 0 0,.slice none 0 0] 0))) nx2 (some (.cells [.bool false,.slice none 0 0,.slice none 0 0] 0))) (nx2+1):=((D0.refl _ _).new _ (Nat.le_refl _) (m:=nx2+1) (by omega)).new _ (by omega) (by omega)
   have g67:X0 (hs (hs H2 nx2 (some (.cells [.bool false,.slice none 0 0,.slice none 0 0] 0))) nx2 (some (.cells [.bool false,.slice none 0 0,.slice none 0 0] 0))) nx2=some (.cells [.bool false,.slice none 0 0,.slice none 0 0] 0):=Q0 _ _ _
   have h6:=h2.ext hE6
   simp (disch:=first|omega|assumption) only[W0,Z0,Nat.reduceAdd,h2.hp,hl34,hM.lkN hk,G5]
   generalize hs (hs H2 nx2 (some (.cells [.bool false,.slice none 0 0,.slice none 0 0] 0))) nx2 (some (.cells [.bool false,.slice none 0 0,.slice none 0 0] 0))=H6 at *
   simp (disch:=first|omega|assumption) only[W0,K3,h6.hp,U65]
   refine K0 (K89 hN h6.es' hsm hle hset hn0 hcov) ?_
   rintro _ H8 nx8 ⟨hE8,AW,AP,lw,cw,lp,cp,t,Az,Cz,l,k,l',k',rfl,hz⟩
   have hle8:=hE8.le
   have g87:=(hE8.get nx2 (by omega)).trans g67
   have hE28:=hE6.trans hE8
   have g8:=(hE28.get nx (by omega)).trans g2
   have hput5:∀ (a b c d e a' b' c' d' e':Value),G6 [a,b,c,d,e] 0 [a',b',c',d',e']=[a',b',c',d',e']:=fun _ _ _ _ _ _ _ _ _ _=>rfl
   have hE10:D0 H8 nx8 (hs (hs H8 nx8 (some (.cells [.slice none 0 0,.slice none 0 0,.bool false,.slice none 0 0,.slice none 0 0] 0))) nx8 (some (.cells [.slice AW lw cw,.slice AP lp cp,.bool t,.slice Az l k,.slice Cz l' k'] 0))) (nx8+1):=((D0.refl _ _).new _ (Nat.le_refl _) (m:=nx8+1) (by omega)).new _ (by omega) (by omega)
   have g107:=(hE10.get nx2 (by omega)).trans g87
   simp (disch:=first|omega|assumption) only[W0,Z0,Nat.reduceAdd,hput5,X41,G5,g87,D3]
   generalize hs (hs H8 nx8 (some (.cells [.slice none 0 0,.slice none 0 0,.bool false,.slice none 0 0,.slice none 0 0] 0))) nx8 (some (.cells [.slice AW lw cw,.slice AP lp cp,.bool t,.slice Az l k,.slice Cz l' k'] 0))=H10 at *
   have hE210:=hE28.trans hE10
   have h10:=h2.ext hE210
   have hz10:=hz.ext hE10
   have g10:=(hE210.get nx (by omega)).trans g2
   have hE11:D0 H2 nx2 (hs H10 nx2 (some (.cells [.bool t,.slice Az l k,.slice Cz l' k'] 0))) (nx8+1):=hE210.hs (Nat.le_refl _)
   have g117:X0 (hs H10 nx2 (some (.cells [.bool t,.slice Az l k,.slice Cz l' k'] 0))) nx2=some (.cells [.bool t,.slice Az l k,.slice Cz l' k'] 0):=Q0 _ _ _
   have hz11:RR (hs H10 nx2 (some (.cells [.bool t,.slice Az l k,.slice Cz l' k'] 0))) (nx8+1) (.agg ⟨[.bool t,.slice Az l k,.slice Cz l' k']⟩) (M10 es N set):=hz10.boxs g107 (X8 rfl) (.inl rfl)
   have h11:=h2.ext hE11
   have g11:=(hE11.get nx (by omega)).trans g2
   generalize hs H10 nx2 (some (.cells [.bool t,.slice Az l k,.slice Cz l' k'] 0))=H11 at *
   obtain⟨M',hM',hMv'⟩:=h11.cm
   obtain⟨ML,hML,hMLv⟩:=h11.lm
   have hpc:=h11.pc
   have hpl:=h11.pl
   have hrcn:=h2.rcn
   have hpn:=h.pn
   have hrn0:=h.rcn
   have hrl0:=h.rln
   simp (disch:=first|omega|assumption) only[W0,h11.hp,hl34]
   refine hM'.put set _ fun mes mc hput => ?_
   obtain⟨mes0,mc0,hgm,_⟩:=hM'
   have g137:X0 (hs H11 rc (some (.map mes mc))) nx2=_:=(M0 _ (by omega)).trans g117
   have g13:X0 (hs H11 rc (some (.map mes mc))) nx=_:=(M0 _ (by omega)).trans g11
   simp (disch:=first|omega|assumption) only[W0,Z0,Nat.reduceAdd,g137,D3,g13,G5]
   have hbox:∀ {v:Value} {x:Rat},RR H11 (nx8+1) v x->RR (hs (hs H11 rc (some (.map mes mc))) nx (some (.cells [.bool t,.slice Az l k,.slice Cz l' k'] 0))) (nx8+1+7) v x:=fun hv=>
    ((hv.boxm hgm).boxs g13 (X8 rfl) (.inl rfl)).ext (D0.self (by omega))
   refine⟨by rw[hcf];exact hbox hz11,⟨?_,by omega,by omega,by omega,h.nbl,?_,⟨_,hput.same (M0 _ (by omega)),fun n v hv => ?_⟩,⟨ML,hML.same ?_,fun n v hv=>hbox (hMLv n v hv)⟩,h.ne⟩,?_⟩
   .rw[M0 _ (by omega),M0 _ hpc];exact h11.hp
   .have hk2:Kp H nx rc rl (hs (hs H11 rc (some (.map mes mc))) nx (some (.cells [.bool t,.slice Az l k,.slice Cz l' k'] 0))) (nx8+1+7):=((((hE02.trans hE11).kp).more (by omega)).hs (.inr (.inl rfl))).hs (.inl (Nat.le_refl _))
    exact h.es'.kp hk2 h.ic h.il
   .by_cases hns:n=set
    .subst hns
     simp only[if_true] at hv
     cases hv
     exact hbox hz11
    .simp only[hns,if_false] at hv
     exact hbox (hMv' n v hv)
   .rw[M0 _ (by omega),M0 _ (Ne.symm h.ne)]
   .exact ((((hE02.trans hE11).kp).more (by omega)).hs (.inr (.inl rfl))).hs (.inl (Nat.le_refl _))
end Go.Proofs.YtpiobdofbhkmjaaDoor

namespace Go.Clo
def tz (x:Nat):Nat:=((List.range 32).find? fun i=>x.testBit i).getD 32
end Go.Clo
namespace Go.Proofs.YtpiobdofbhkmjaaDoor
open Go.RowKit Go.Shelf Go.Clo
attribute [local go_sem] Oper.semAt_some
def tzi (x:Nat):Nat:=(bits BinOp.and IntKind.u32 x (4294967296-x)*125613361%4294967296/134217728).toNat
set_option maxRecDepth 100000 in
set_option maxHeartbeats 1000000 in
theorem R95 {x:Nat} (h0:0<x) (h64:x<64) (F:Fence) (n:Nat) (h:F.fn 66) (hro:F.round=none) (w:World) (t:Nat) (hc:w.cell? ⟨0,tzi x,none⟩=some (.int .u8 (t:Int))) (ht:t<32):
  CallsIn F n Tryd.prog 66 #[.int .u32 (x:Int)] w fun e w'=>e = .returned (.int .i64 (t:Int))/\w'=w:=by
 have e1:IntKind.u32.wrap (-(x:Int))=4294967296-(x:Int):=by
  simp only[IntKind.wrap,IntKind.signed,IntKind.bits]
  simp
  omega
 have hx0:¬ (x:Int)=0:=by omega
 refine callsIn_of_wp Tryd.func66 rfl h ?_ hro
 simp only[Tryd.ntmps66,List.size_toArray,List.length_cons,List.length_nil,Nat.reduceAdd,Nat.reduceSub,Array.replicate_succ,Array.replicate_zero,List.push_toArray,List.append_toArray,List.nil_append,List.cons_append]
 have hc':w.cell? ⟨0,(bits BinOp.and IntKind.u32 x (4294967296-x)*125613361%4294967296/134217728).toNat,none⟩=some (.int .u8 (t:Int)):=hc
 have hw:IntKind.i64.wrap (t:Int)=(t:Int):=by
  simp only[IntKind.wrap,IntKind.signed,IntKind.bits]
  simp
  omega
 gi_wp2
 go_ret
 exact⟨by simp[],rfl⟩
end Go.Proofs.YtpiobdofbhkmjaaDoor

namespace Go.Clo
theorem U80 {P:Program} {f:FuncId} {args:List Value} {v:Value} (hE:Enters P f) (ha:args.all W9=true) (hv:C11 v=true) (h:∀ w,GlW w->Calls P f args.toArray w fun e w'=>e = .returned v/\w'=w) (H:Y0) (nx:Nat):
  J2 P f args H nx fun r H' nx'=>v=r/\H=H'/\nx=nx':=by
 refine⟨v,H,nx,⟨hE,fun F args' w hh hl => ?_⟩,rfl,rfl,rfl⟩
 have e:=K24 hl ha
 subst e
 refine (h w hh.gl.1).mono fun e w' ⟨he,hw⟩ => ?_
 subst hw
 exact⟨v,F,he,K11 F v hv,U5.refl hh⟩
theorem X64:∀ x,x<64->0<x->x.testBit (tz x)=true/\tz x<6:=by decide
theorem M35 {x:Nat} (h:x<64) (h0:0<x):x.testBit (tz x)=true:=(X64 x h h0).1
theorem J50 {x N:Nat} (h:x<64) (h0:0<x) (hN:x<2^N):tz x<N:=by
 refine Classical.byContradiction fun hn => ?_
 have h1:=M35 h h0
 rw[Nat.testBit_lt_two_pow (Nat.lt_of_lt_of_le hN (Nat.pow_le_pow_right (n:=2) (by omega) (show N<=tz x by omega)))] at h1
 cases h1
def K12 (nb:List Nat) (gone v:Nat):Nat->Nat->Nat->Nat
 | 0,r,_=>r
 | f+1,r,b=>if b=0 then r else
  if tz b=v\/gone.testBit (tz b)=true then K12 nb gone v f (r ||| 2^tz b) (M2 b (2^tz b) ||| M2 (nb.getD (tz b) 0) (r ||| 2^tz b))
  else K12 nb gone v f (r ||| 2^tz b) (M2 b (2^tz b))
def Z31 (nb:List Nat) (N v comp left:Nat):Nat:=M2 (K12 nb (M2 comp left) v N 0 (2^v)) (M2 comp left)
theorem X44 {N r u:Nat} (hu:u<N) (hr:r.testBit u=false):(Y4 N (r ||| 2^u)).length=(Y4 N r).length+1:=by
 induction N with
 | zero=>omega
 | succ N ih=>
  rw[M32,M32,Nat.testBit_or,Nat.testBit_two_pow]
  by_cases e:u=N
  .subst e
   have h1:Y4 u (r ||| 2^u)=Y4 u r:=by
    unfold Y4
    apply List.filter_congr
    intro v hv
    have:v<u:=List.mem_range.1 hv
    rw[Nat.testBit_or,Nat.testBit_two_pow]
    simp[show ¬ u=v by omega]
   simp[hr,h1]
  .have:=ih (by omega)
   cases hb:r.testBit N with
   | true=>simp[this]
   | false=>simp[show ¬ u=N from e,this]
theorem E81 {N r:Nat} (h:(Y4 N r).length=N) {v:Nat} (hv:v<N):r.testBit v=true:=by
 have h1:(Y4 N r).length=(List.range N).length:=by rw[h];simp
 have:=List.length_filter_eq_length_iff.1 h1
 exact this v (List.mem_range.2 hv)
theorem N17 {a b N:Nat} (ha:a<2^N) (hb:b<2^N):a ||| b<2^N:=Nat.or_lt_two_pow ha hb
theorem V11 {u N:Nat} (hu:u<N):2^u<2^N:=Nat.pow_lt_pow_right (by omega) hu
theorem M22 {N b r:Nat} (hb:b<2^N) (hd:∀ v,b.testBit v=true->r.testBit v=false) (hf:(Y4 N r).length=N):b=0:=by
 apply Nat.eq_of_testBit_eq
 intro v
 rw[Nat.zero_testBit]
 cases hbv:b.testBit v with
 | false=>rfl
 | true=>
  have hv:v<N:=by
   refine Classical.byContradiction fun hn => ?_
   rw[Nat.testBit_lt_two_pow (Nat.lt_of_lt_of_le hb (Nat.pow_le_pow_right (n:=2) (by omega) (show N<=v by omega)))] at hbv
   cases hbv
  have:=hd v hbv
  rw[E81 hf hv] at this
  cases this
end Go.Clo
namespace Go.Proofs.YtpiobdofbhkmjaaDoor
open Go.Clo
theorem W78:∀ x,x<64->0<x->deB[tzi x]? = some (tz x):=by decide
theorem W93 {w:World} (h:GlW w) {i n:Nat} (hi:deB[i]? = some n):w.cell? ⟨0,i,none⟩=some (.int .u8 (n:Int)):=
 (h _ (List.mem_singleton.2 rfl)).2 i _ (by simp[hi])
theorem C82:Go.Clo.Enters Tryd.prog 66:=⟨_,_,Tryd.func66,rfl,by kernel_rfl⟩
theorem K95 {x:Nat} (h0:0<x) (h64:x<64) (H:Y0) (nx:Nat):J2 Tryd.prog 66 [.int .u32 (x:Int)] H nx fun r H' nx' => .int .i64 (tz x:Int)=r/\H=H'/\nx=nx':=by
 refine U80 C82 rfl rfl (fun w hg => ?_) H nx
 exact callsIn_wide.1 (R95 h0 h64 _ 0 trivial rfl w (tz x) (W93 hg (W78 x h64 h0)) (by have:=(X64 x h64 h0).2;omega))
theorem J83 {H:Y0} {nx p rc rl N cap v comp left:Nat} {A:Option Addr} {es nb:List Nat} {L:Nat->Rat} (h:SV H nx p rc rl N A cap es nb L) (hN:N<=6) (hnb:∀ (u x:Nat),nb[u]? = some x->x<2^N) (hv:v<N) (hc:comp<2^N) (hl:left<2^N):
  J2 Tryd.prog 50 [.pointer (some ⟨p,0,none⟩),.int .i64 (v:Int),.int .u32 (comp:Int),.int .u32 (left:Int)] H nx fun r H' nx'=>r = .int .u32 (Z31 nb N v comp left:Int)/\D0 H nx H' nx':=by
 have hp64:2^N<=64:=Nat.pow_le_pow_right (n:=2) (by omega) hN
 have hg:M2 comp left<2^N:=D7 hc
 generalize hgone:M2 comp left=gone at *
 have hc32:comp<4294967296:=by omega
 have hl32:left<4294967296:=by omega
 have hg32:gone<4294967296:=by omega
 refine spec50 ?_
 unfold F50
 simp (disch:=first | omega | assumption | exact Y2 (by assumption) | exact Q1 (by assumption) | exact J1 (by omega) | fail) only[W0,hgone]
 refine E1 (m:=N) (fun f L H' nx'=>∃ r b:Nat,L=[.int .u32 (r:Int),.int .u32 (b:Int)]/\f+(Y4 N r).length=N/\r<2^N/\b<2^N/\(∀ w,b.testBit w=true->r.testBit w=false)/\K12 nb gone v f r b=K12 nb gone v N 0 (2^v)/\D0 H nx H' nx') ?_
  ⟨0,2^v,rfl,by simp[Y4],Nat.two_pow_pos _,V11 hv,fun w _=>by simp,rfl,D0.self (by omega)⟩
 rintro f ih L1 H1 nx1 ⟨r,b,rfl,hf,hr,hb,hd,hbs,hE⟩ hih
 by_cases hb0:b=0
 .subst hb0
  have hr32:r<4294967296:=by omega
  have hres:K12 nb gone v N 0 (2^v)=r:=by
   rw[<- hbs]
   cases f with
   | zero=>rfl
   | succ f=>show (if 0=0 then r else _)=r;rw[if_pos rfl]
  simp (disch:=first | omega | assumption | exact Y2 (by assumption) | exact Q1 (by assumption) | exact J1 (by omega) | fail) only[W0,ne_eq,not_true_eq_false]
  refine⟨?_,hE⟩
  unfold Z31
  rw[hgone,hres]
 have hb0':¬ (b:Int)=0:=by omega
 have hb64:b<64:=by omega
 have hu:=J50 hb64 (by omega) hb
 have hub:=M35 hb64 (by omega)
 have hru:=hd _ hub
 simp (disch:=first | omega | assumption | exact Y2 (by assumption) | exact Q1 (by assumption) | exact J1 (by omega) | fail) only[W0,ne_eq,hb0',not_false_eq_true]
 refine K0 (K95 (by omega) hb64 _ _) ?_
 rintro _ _ _ ⟨rfl,rfl,rfl⟩
 generalize hu':tz b=u at *
 have hf0:f≠0:=by
  rintro rfl
  exact hb0 (M22 hb hd (by omega))
 obtain⟨f',rfl⟩:∃ f',f=f'+1:=⟨f-1,by omega⟩
 have hlen:=X44 hu hru
 have hp32u:2^u<4294967296:=by have:=V11 hu;omega
 have hr32:r<4294967296:=by omega
 have hb32:b<4294967296:=by omega
 have hr2:r ||| 2^u<2^N:=N17 hr (V11 hu)
 have hr232:r ||| 2^u<4294967296:=by omega
 have hbd:M2 b (2^u)<2^N:=D7 hb
 have hbd32:M2 b (2^u)<4294967296:=by omega
 have hu32:u<32:=by omega
 obtain⟨x,hx⟩:∃ x,nb[u]? = some x:=⟨nb[u]'(by rw[h.nbl];exact hu32),List.getElem?_eq_getElem _⟩
 have hx2:=hnb u x hx
 have hxD:nb.getD u 0=x:=by simp[List.getD_eq_getElem?_getD,hx]
 have hx32:x<4294967296:=by omega
 have hnd32:M2 x (r ||| 2^u)<4294967296:=Q1 hx32
 have h1:=h.ext hE
 have hd2:∀ w,(M2 b (2^u)).testBit w=true->(r ||| 2^u).testBit w=false:=fun w hw=>by
  rw[N3,Nat.testBit_two_pow] at hw
  rw[Nat.testBit_or,Nat.testBit_two_pow]
  simp at hw
  rw[hd w hw.1]
  simp[hw.2]
 have hd3:∀ w,(M2 b (2^u) ||| M2 x (r ||| 2^u)).testBit w=true->(r ||| 2^u).testBit w=false:=fun w hw=>by
  rw[Nat.testBit_or] at hw
  cases h1:(M2 b (2^u)).testBit w with
  | true=>exact hd2 w h1
  | false=>
   rw[h1,N3] at hw
   simpa using (by simpa using hw:x.testBit w=true/\_).2
 have hstep:K12 nb gone v (f'+1) r b=if u=v\/gone.testBit u=true then K12 nb gone v f' (r ||| 2^u) (M2 b (2^u) ||| M2 x (r ||| 2^u)) else K12 nb gone v f' (r ||| 2^u) (M2 b (2^u)):=by
  show (if b=0 then r else _)=_
  rw[if_neg hb0,hu',hxD]
 rw[hstep] at hbs
 have hcell:=X93 (N:=N) (A:=A) (len:=es.length) (cap:=cap) (rc:=rc) (rl:=rl) hx
 by_cases hc1:u=v\/gone.testBit u=true
 .rw[if_pos hc1] at hbs
  have hb2:M2 b (2^u) ||| M2 x (r ||| 2^u)<2^N:=N17 hbd (D7 hx2)
  have hfin:=hih f' [.int .u32 ((r ||| 2^u:Nat):Int),.int .u32 ((M2 b (2^u) ||| M2 x (r ||| 2^u):Nat):Int)] H1 nx1 (by omega) ⟨_,_,rfl,by omega,hr2,hb2,hd3,hbs,hE⟩
  by_cases hc2:u=v
  .subst hc2
   simp (disch:=first | omega | assumption | exact Y2 (by assumption) | exact Q1 (by assumption) | exact J1 (by omega) | fail) only[W0,K3,h1.hp,hcell]
   exact hfin
  .have hg2:gone.testBit u=true:=hc1.resolve_left hc2
   have hc2':¬ (u:Int)=(v:Int):=by omega
   simp (disch:=first | omega | assumption | exact Y2 (by assumption) | exact Q1 (by assumption) | exact J1 (by omega) | fail) only[W0,K3,hc2',hg2,h1.hp,hcell]
   exact hfin
 .rw[if_neg hc1] at hbs
  have hfin:=hih f' [.int .u32 ((r ||| 2^u:Nat):Int),.int .u32 ((M2 b (2^u):Nat):Int)] H1 nx1 (by omega) ⟨_,_,rfl,by omega,hr2,hbd,hd2,hbs,hE⟩
  have hc2':¬ (u:Int)=(v:Int):=by omega
  have hg2:gone.testBit u=false:=by simpa using fun hh=>hc1 (.inr hh)
  simp (disch:=first | omega | assumption | exact Y2 (by assumption) | exact Q1 (by assumption) | exact J1 (by omega) | fail) only[W0,K3,hc2',hg2]
  exact hfin
end Go.Proofs.YtpiobdofbhkmjaaDoor

namespace Go.Clo
theorem V27 {x v:Nat} (h:x.testBit v=true):M2 x (2^v)<x:=by
 have h1:M2 x (2^v)<=x:=Nat.le_of_testBit fun i hi=>by
  rw[N3] at hi
  simp at hi
  exact hi.1
 have h2:M2 x (2^v)≠x:=fun e=>by
  have:=N3 x (2^v) v
  rw[e,h,Nat.testBit_two_pow] at this
  simp at this
 omega
def G23 (w c:Rat) (acc:Option Rat):Option Rat:=match acc with
 | none=>some (gr w c)
 | some b=>if b<=w then some b else if gr w c<b then some (gr w c) else some b
noncomputable def V10 (N:Nat) (f:Nat->Nat->Rat) (left:Nat):Rat:=
 if left=0 then 0 else ((List.range N).foldl (fun acc v=>if h:left.testBit v=true then G23 (V10 N f (M2 left (2^v))) (f v left) acc else acc) none).getD 0
termination_by left
decreasing_by exact V27 h
noncomputable def E13 (N:Nat) (f:Nat->Nat->Rat) (left i:Nat):Option Rat:=(List.range i).foldl (fun acc v=>if left.testBit v=true then G23 (V10 N f (M2 left (2^v))) (f v left) acc else acc) none
theorem E29 (N:Nat) (f:Nat->Nat->Rat) (left:Nat):V10 N f left=if left=0 then 0 else (E13 N f left N).getD 0:=by
 rw[V10]
 rfl
theorem Z27 (N:Nat) (f:Nat->Nat->Rat) (left i:Nat):E13 N f left (i+1)=if left.testBit i=true then G23 (V10 N f (M2 left (2^i))) (f i left) (E13 N f left i) else E13 N f left i:=by
 unfold E13
 rw[List.range_succ,List.foldl_append]
 rfl
theorem W81 (w c : Rat) (acc : Option Rat) : ∃ b, G23 w c acc = some b := by
  unfold G23
  cases acc with
  | none => exact ⟨_, rfl⟩
  | some b => dsimp only; split; · exact ⟨_, rfl⟩
              split <;> exact ⟨_, rfl⟩
theorem Z40 {N:Nat} {f:Nat->Nat->Rat} {left:Nat}:∀ {i:Nat},(∃ v,v<i/\left.testBit v=true)->∃ b,E13 N f left i=some b
 | 0,h=>by obtain⟨v,h,_⟩:=h;omega
 | i+1,h=>by
  rw[Z27]
  by_cases hb:left.testBit i=true
  .rw[if_pos hb];exact W81 _ _ _
  .rw[if_neg hb]
   obtain⟨v,h1,h2⟩:=h
   refine Z40 ⟨v,?_,h2⟩
   by_cases e:v=i
   .rw[e] at h2;exact absurd h2 hb
   .omega
theorem Q74 {w c:Rat} {acc:Option Rat} {L:Nat} (hw:X4 w L) (hc:X4 c L) (ha:∀ b,acc=some b->X4 b L):∀ b,G23 w c acc=some b->X4 b L:=by
 intro b hb
 unfold G23 at hb
 cases acc with
 | none=>cases hb;exact Z24 hw hc
 | some d=>
  dsimp only at hb
  split at hb
  .cases hb;exact ha _ rfl
  .split at hb
   .cases hb;exact Z24 hw hc
   .cases hb;exact ha _ rfl
theorem M27 {N:Nat} {f:Nat->Nat->Rat} {L:Nat} (h0:X4 0 L) (hf:∀ v l,X4 (f v l) L):∀ (left:Nat),X4 (V10 N f left) L/\∀ i b,E13 N f left i=some b->X4 b L:=by
 intro left
 induction left using Nat.strongRecOn with
 | _ left ih=>
  have hS:∀ i b,E13 N f left i=some b->X4 b L:=by
   intro i
   induction i with
   | zero=>intro b hb;cases hb
   | succ i ihi=>
    intro b hb
    rw[Z27] at hb
    split at hb
    .rename_i hbit
     exact Q74 (ih _ (V27 hbit)).1 (hf _ _) ihi b hb
    .exact ihi b hb
  refine⟨?_,hS⟩
  rw[E29]
  split
  .exact h0
  .cases hm:E13 N f left N with
   | none=>exact h0
   | some b=>exact hS N b hm
theorem D39 (nb:List Nat) (gone v w:Nat):∀ (f r b:Nat),r.testBit w=true->(K12 nb gone v f r b).testBit w=true
 | 0,r,b,h=>h
 | f+1,r,b,h=>by
  show (if b=0 then r else _:Nat).testBit w=true
  split
  .exact h
  .have h2:(r ||| 2^tz b).testBit w=true:=by rw[Nat.testBit_or,h];rfl
   split<;>exact D39 nb gone v w f _ _ h2
theorem M54 {nb:List Nat} {N:Nat} (hnb:∀ (u x:Nat),nb[u]? = some x->x<2^N) (h64:2^N<=64) (gone v:Nat):∀ (f r b:Nat),r<2^N->b<2^N->K12 nb gone v f r b<2^N
 | 0,r,b,h,_=>h
 | f+1,r,b,h,hb=>by
  show (if b=0 then r else _:Nat)<2^N
  split
  .exact h
  .rename_i h0
   have hu:=V11 (J50 (show b<64 by omega) (by omega) hb)
   have h2:=N17 h hu
   have hx:nb.getD (tz b) 0<2^N:=by
    rw[List.getD_eq_getElem?_getD]
    cases hg:nb[tz b]? with
    | none=>exact Nat.two_pow_pos _
    | some x=>exact hnb _ _ hg
   split
   .exact M54 hnb h64 gone v f _ _ h2 (N17 (D7 hb) (D7 hx))
   .exact M54 hnb h64 gone v f _ _ h2 (D7 hb)
theorem N83:∀ v,v<6->tz (2^v)=v:=by decide
theorem K57 {nb:List Nat} {N v comp left:Nat} (hN:N<=6) (hv:v<N) (hl:left.testBit v=true):(Z31 nb N v comp left).testBit v=true:=by
 unfold Z31
 rw[N3,N3,hl]
 obtain⟨n,rfl⟩:∃ n,N=n+1:=⟨N-1,by omega⟩
 have:(K12 nb (M2 comp left) v (n+1) 0 (2^v)).testBit v=true:=by
  show (if 2^v=0 then 0 else _:Nat).testBit v=true
  rw[if_neg (by have:=Nat.two_pow_pos v;omega),N83 v (by omega),if_pos (.inl rfl)]
  refine D39 nb _ v v n _ _ ?_
  rw[Nat.zero_or,Nat.testBit_two_pow];simp
 rw[this];simp
theorem E70 {nb:List Nat} {N v comp left:Nat} (hnb:∀ (u x:Nat),nb[u]? = some x->x<2^N) (hN:N<=6) (hv:v<N):Z31 nb N v comp left<2^N:=
 D7 (M54 hnb (Nat.pow_le_pow_right (n:=2) (by omega) hN) _ v N 0 _ (Nat.two_pow_pos _) (V11 hv))
theorem Y25 {N s v:Nat} (hv:v<N) (h:s.testBit v=true):0<(Y4 N s).length:=List.length_pos_of_mem (G31.2 ⟨hv,h⟩)
theorem K70 {x y:Rat}:0<=Q11 x y<->y<=x:=by
 have:=@Q22 x y
 constructor
 .intro h
  have:¬ x<y:=fun hh=>by have:=this.2 hh;omega
  grind
 .intro h
  refine Classical.byContradiction fun hn => ?_
  have:=this.1 (by omega)
  grind
theorem G43 {x y:Rat}:Q11 x y<=0<->x<=y:=by
 unfold Q11
 by_cases h:x<y
 .rw[if_pos h];simp;grind
 .rw[if_neg h]
  by_cases h2:y<x
  .rw[if_pos h2];simp;grind
  .rw[if_neg h2];simp;grind
end Go.Clo
namespace Go.Proofs.YtpiobdofbhkmjaaDoor
open Go.Clo
theorem R12 (es:List Nat) (N set:Nat) (h:es.length<=8):X4 (Q21 es N set) 100000:=by
 unfold Q21
 split
 .exact B41 _ (by omega)
 .exact Y38 es N set h
theorem Y20 (L:Nat) (h:1<L):X4 0 L:=by
 have h1:(R0 1).length<=1:=X7 (by omega)
 have h0:(R0 0).length<=1:=X7 (by omega)
 exact⟨by show (R0 0).length<_;omega,by show (R0 1).length<_;omega⟩
noncomputable def C6 (es nb:List Nat) (N comp v left:Nat):Rat:=Q21 es N (Z31 nb N v comp left)
theorem M41 {l c x:Nat} (h:∀ w,l.testBit w=true->c.testBit w=true):∀ w,(M2 l x).testBit w=true->c.testBit w=true:=fun w hw=>by
 rw[N3] at hw
 simp at hw
 exact h w hw.1
theorem SV.box {H:Y0} {nx p rc rl N:Nat} {A:Option Addr} {cap:Nat} {es nb:List Nat} {L:Nat->Rat} (h:SV H nx p rc rl N A cap es nb L) {i:Nat} {l l':List Value} (hg:X0 H i=some (.cells l 0)) (hr:noU l=true) (hip:i≠p) (hir:∀ B,V3 H i=some B->noU B=true->∀ v ∈ N1 es,v ∉ B):SV (hs H i (some (.cells l' 0))) nx p rc rl N A cap es nb L:=by
 have hic:i≠rc:=h.ic.ne (row:=l) (by rw[V3,hg];rfl)
 have hil:i≠rl:=h.il.ne (row:=l) (by rw[V3,hg];rfl)
 refine⟨by rw[M0 _ (Ne.symm hip)];exact h.hp,h.pn,h.rcn,h.rln,h.nbl,fun j v hv => ?_,?_,?_,h.ne⟩
 .obtain⟨b,o,row,e1,e2,e3,e4⟩:=h.es' j v hv
  refine⟨b,o,row,e1,e2,?_,e4⟩
  have hbi:b≠i:=by
   rintro rfl
   have hrow:row=l:=by rw[V3,hg] at e3;exact (Option.some.inj e3).symm
   subst hrow
   exact hir row e3 hr v (List.mem_of_getElem? hv) (List.mem_of_getElem? e4)
  rw[V3,M0 _ hbi];exact e3
 .obtain⟨M,a,b⟩:=h.cm
  exact⟨M,a.same (M0 _ (Ne.symm hic)),fun n v hv=>(b n v hv).boxs hg (X8 hr) (.inl rfl)⟩
 .obtain⟨M,a,b⟩:=h.lm
  exact⟨M,a.same (M0 _ (Ne.symm hil)),fun n v hv=>(b n v hv).boxs hg (X8 hr) (.inl rfl)⟩
theorem SV.boxs {H:Y0} {nx p rc rl N:Nat} {A:Option Addr} {cap:Nat} {es nb:List Nat} {L:Nat->Rat} (h:SV H nx p rc rl N A cap es nb L) {i:Nat} {l l':List Value} (hg:X0 H i=some (.cells l 0)) (hr:noU l=true) (hip:i≠p):SV (hs H i (some (.cells l' 0))) nx p rc rl N A cap es nb L:=by
 refine h.box hg hr hip fun B hB hnB v hv hvB => ?_
 obtain⟨e,_,rfl⟩:=List.mem_map.1 hv
 have:=List.all_eq_true.1 hnB _ hvB
 cases this
theorem G9.noU {c:List Value} (h:G9 c):noU c=true:=by obtain⟨s,A,l,k,C,l',k',rfl⟩:=h;rfl
end Go.Proofs.YtpiobdofbhkmjaaDoor

namespace Go.Clo
def K20 (aL:List Nat) (b:Nat):Nat->Nat
 | 0=>0
 | v+1=>if b.testBit v=true then K20 aL b v ||| aL.getD v 0 else K20 aL b v
theorem C49 {aL:List Nat} {b w:Nat}:∀ {n:Nat},(K20 aL b n).testBit w=true<->∃ u,u<n/\b.testBit u=true/\(aL.getD u 0).testBit w=true
 | 0=>by simp[K20]
 | n+1=>by
  have ih:=@C49 aL b w n
  show (if b.testBit n=true then _ else _:Nat).testBit w=true<->_
  by_cases h:b.testBit n=true
  .rw[if_pos h,Nat.testBit_or,Bool.or_eq_true,ih]
   constructor
   .rintro (⟨u,h1,h2,h3⟩ | h3)
    .exact⟨u,by omega,h2,h3⟩
    .exact⟨n,by omega,h,h3⟩
   .rintro⟨u,h1,h2,h3⟩
    by_cases e:u=n
    .subst e;exact .inr h3
    .exact .inl ⟨u,by omega,h2,h3⟩
  .rw[if_neg h,ih]
   constructor
   .rintro⟨u,h1,h2,h3⟩
    exact⟨u,by omega,h2,h3⟩
   .rintro⟨u,h1,h2,h3⟩
    refine⟨u,?_,h2,h3⟩
    by_cases e:u=n
    .subst e;exact absurd h2 h
    .omega
theorem G35 {aL:List Nat} {b N:Nat} (h:∀ (u x:Nat),aL[u]? = some x->x<2^N):∀ n,K20 aL b n<2^N
 | 0=>Nat.two_pow_pos _
 | n+1=>by
  show (if b.testBit n=true then _ else _:Nat)<2^N
  split
  .refine N17 (G35 h n) ?_
   rw[List.getD_eq_getElem?_getD]
   cases hg:aL[n]? with
   | none=>exact Nat.two_pow_pos _
   | some x=>exact h _ _ hg
  .exact G35 h n
def J12 (aL:List Nat) (N:Nat):Nat->Nat->Nat->Nat
 | 0,c,_=>c
 | f+1,c,b=>if b=0 then c else J12 aL N f (c ||| b) (M2 (K20 aL b N) (c ||| b))
theorem R64 (aL:List Nat) (N w:Nat):∀ (f c b:Nat),c.testBit w=true->(J12 aL N f c b).testBit w=true
 | 0,c,b,h=>h
 | f+1,c,b,h=>by
  show (if b=0 then c else _:Nat).testBit w=true
  split
  .exact h
  .exact R64 aL N w f _ _ (by rw[Nat.testBit_or,h];rfl)
theorem N69 {aL:List Nat} {N:Nat} (h:∀ (u x:Nat),aL[u]? = some x->x<2^N):∀ (f c b:Nat),c<2^N->b<2^N->J12 aL N f c b<2^N
 | 0,c,b,hc,_=>hc
 | f+1,c,b,hc,hb=>by
  show (if b=0 then c else _:Nat)<2^N
  split
  .exact hc
  .exact N69 h f _ _ (N17 hc hb) (D7 (G35 h N))
theorem E65 {aL:List Nat} {N:Nat} (P:Nat->Prop) (hP:∀ u w,P u->(aL.getD u 0).testBit w=true->P w):∀ (f c b:Nat),(∀ w,c.testBit w=true->P w)->(∀ w,b.testBit w=true->P w)->∀ w,(J12 aL N f c b).testBit w=true->P w
 | 0,c,b,hc,_=>hc
 | f+1,c,b,hc,hb=>by
  intro w hw
  have hw':(if b=0 then c else J12 aL N f (c ||| b) (M2 (K20 aL b N) (c ||| b)):Nat).testBit w=true:=hw
  split at hw'
  .exact hc w hw'
  .refine E65 P hP f _ _ (fun x hx => ?_) (fun x hx => ?_) w hw'
   .rw[Nat.testBit_or,Bool.or_eq_true] at hx
    exact hx.elim (hc x) (hb x)
   .rw[N3,Bool.and_eq_true] at hx
    obtain⟨u,_,h2,h3⟩:=C49.1 hx.1
    exact hP u x (hb u h2) h3
theorem D57 {N a b:Nat} (h:∀ w,a.testBit w=true->b.testBit w=true):(Y4 N a).length<=(Y4 N b).length:=by
 unfold Y4
 rw[<- List.countP_eq_length_filter,<- List.countP_eq_length_filter]
 exact List.countP_mono_left fun x _ hx=>h x hx
theorem W13 {b:Nat} (h:b≠0):∃ u,b.testBit u=true:=Nat.exists_testBit_of_ne_zero h
theorem X11 {b N u:Nat} (hb:b<2^N) (h:b.testBit u=true):u<N:=by
 refine Classical.byContradiction fun hn => ?_
 rw[Nat.testBit_lt_two_pow (Nat.lt_of_lt_of_le hb (Nat.pow_le_pow_right (n:=2) (by omega) (show N<=u by omega)))] at h
 cases h
theorem K59 {N c b:Nat} (hb:b<2^N) (h0:b≠0) (hd:∀ w,b.testBit w=true->c.testBit w=false):(Y4 N c).length+1<=(Y4 N (c ||| b)).length:=by
 obtain⟨u,hu⟩:=W13 h0
 rw[<- X44 (X11 hb hu) (hd u hu)]
 refine D57 fun w hw => ?_
 rw[Nat.testBit_or,Bool.or_eq_true] at hw ⊢
 rcases hw with h | h
 .exact .inl h
 .rw[Nat.testBit_two_pow] at h
  have:u=w:=by simpa using h
  subst this;exact .inr hu
theorem U45 {aL:List Nat} {N:Nat} (h:∀ (u x:Nat),aL[u]? = some x->x<2^N):∀ (f c b:Nat),N<=f+(Y4 N c).length->b<2^N->(∀ w,b.testBit w=true->c.testBit w=false) ->
  (∀ u w,c.testBit u=true->(aL.getD u 0).testBit w=true->c.testBit w=true\/b.testBit w=true) ->
  ∀ u w,(J12 aL N f c b).testBit u=true->(aL.getD u 0).testBit w=true->(J12 aL N f c b).testBit w=true
 | 0,c,b,hf,hb,hd,hc=>by
  have h0:b=0:=M22 hb hd (by have:=E15 N c;omega)
  subst h0
  intro u w hu hw
  have hu':c.testBit u=true:=hu
  rcases hc u w hu' hw with h | h
  .exact h
  .simp at h
 | f+1,c,b,hf,hb,hd,hc=>by
  intro u w hu hw
  by_cases h0:b=0
  .have e:J12 aL N (f+1) c b=c:=if_pos h0
   rw[e] at hu ⊢
   rcases hc u w hu hw with h | h
   .exact h
   .rw[h0] at h;simp at h
  .have e:J12 aL N (f+1) c b=J12 aL N f (c ||| b) (M2 (K20 aL b N) (c ||| b)):=if_neg h0
   rw[e] at hu ⊢
   have hg:=K59 hb h0 hd
   refine U45 h f _ _ (by omega) (D7 (G35 h N)) (fun x hx => ?_) (fun x y hx hy => ?_) u w hu hw
   .rw[N3,Bool.and_eq_true] at hx
    simpa using hx.2
   .rw[Nat.testBit_or,Bool.or_eq_true] at hx
    by_cases hy2:(c ||| b).testBit y=true
    .exact .inl hy2
    .right
     rw[N3]
     have hy3:(c ||| b).testBit y=false:=by simpa using hy2
     rw[hy3]
     rcases hx with hx | hx
     .rcases hc x y hx hy with g | g
      .rw[Nat.testBit_or,g] at hy3;simp at hy3
      .rw[Nat.testBit_or,g] at hy3;simp at hy3
     .rw[C49.2 ⟨x,X11 hb hx,hx,hy⟩];rfl
def W15 (aL:List Nat) (N:Nat):Nat->Nat->List Nat
 | 0,_=>[]
 | f+1,l=>if l=0 then [] else J12 aL N N 0 (2^tz l) :: W15 aL N f (M2 l (J12 aL N N 0 (2^tz l)))
theorem Y76 {aL:List Nat} {N v:Nat} (hN:0<N):(J12 aL N N 0 (2^v)).testBit v=true:=by
 obtain⟨n,rfl⟩:∃ n,N=n+1:=⟨N-1,by omega⟩
 show (if 2^v=0 then 0 else _:Nat).testBit v=true
 rw[if_neg (by have:=Nat.two_pow_pos v;omega)]
 refine R64 aL _ v n _ _ ?_
 rw[Nat.zero_or,Nat.testBit_two_pow];simp
structure M75 (aL:List Nat) (N v c:Nat):Prop where
 lt:c<2^N
 self:c.testBit v=true
 closed:∀ u w,c.testBit u=true->(aL.getD u 0).testBit w=true->c.testBit w=true
 least:∀ P:Nat->Prop,P v->(∀ u w,P u->(aL.getD u 0).testBit w=true->P w)->∀ w,c.testBit w=true->P w
theorem Q89 {aL:List Nat} {N v:Nat} (h:∀ (u x:Nat),aL[u]? = some x->x<2^N) (hv:v<N):M75 aL N v (J12 aL N N 0 (2^v)):=
 ⟨N69 h N 0 _ (Nat.two_pow_pos _) (V11 hv),Y76 (by omega),U45 h N 0 _ (by omega) (V11 hv) (by simp) (by simp),fun P h0 hP=>E65 P hP N 0 _ (by simp) (fun w hw=>by
  rw[Nat.testBit_two_pow] at hw
  have:v=w:=by simpa using hw
  subst this;exact h0)⟩
theorem X51 {N l c v:Nat} (hv:v<N) (hl:l.testBit v=true) (hc:c.testBit v=true):(Y4 N (M2 l c)).length<(Y4 N l).length:=by
 have h1:(M2 l c).testBit v=false:=by rw[N3,hl,hc];rfl
 have h2:=X44 hv h1
 have h3:(Y4 N (M2 l c ||| 2^v)).length<=(Y4 N l).length:=D57 fun w hw=>by
  rw[Nat.testBit_or,Bool.or_eq_true] at hw
  rcases hw with h | h
  .rw[N3,Bool.and_eq_true] at h;exact h.1
  .rw[Nat.testBit_two_pow] at h
   have:v=w:=by simpa using h
   subst this;exact hl
 omega
theorem X54 {aL:List Nat} {N:Nat} (h:∀ (u x:Nat),aL[u]? = some x->x<2^N) (h64:2^N<=64) (hsy:∀ u w,(aL.getD u 0).testBit w=true->(aL.getD w 0).testBit u=true):
  ∀ (f l:Nat),(Y4 N l).length<=f->l<2^N->(∀ u w,l.testBit u=true->(aL.getD u 0).testBit w=true->l.testBit w=true) ->
  (∀ c ∈ W15 aL N f l,∃ v,v<N/\M75 aL N v c)/\(W15 aL N f l).Pairwise (fun c d=>∀ w,c.testBit w=true->d.testBit w=false) /\
  (∀ w,l.testBit w=true<->∃ c ∈ W15 aL N f l,c.testBit w=true)
 | 0,l,hf,hl,_=>by
  have h0:l=0:=by
   refine Classical.byContradiction fun hn => ?_
   obtain⟨u,hu⟩:=W13 hn
   have:=Y25 (X11 hl hu) hu
   omega
  subst h0
  exact⟨by simp[W15],by simp[W15],by simp[W15]⟩
 | f+1,l,hf,hl,hcl=>by
  by_cases h0:l=0
  .have e:W15 aL N (f+1) l=[]:=if_pos h0
   rw[e,h0]
   exact⟨by simp,by simp,by simp⟩
  have e:W15 aL N (f+1) l=J12 aL N N 0 (2^tz l) :: W15 aL N f (M2 l (J12 aL N N 0 (2^tz l))):=if_neg h0
  rw[e]
  have hv:=J50 (N:=N) (by omega) (by omega) hl
  have hlv:=M35 (x:=l) (by omega) (by omega)
  have hI:=Q89 h hv
  generalize tz l=v at *
  generalize J12 aL N N 0 (2^v)=c at *
  have hm:=X51 hv hlv hI.self
  have hcl2:∀ u w,(M2 l c).testBit u=true->(aL.getD u 0).testBit w=true->(M2 l c).testBit w=true:=fun u w hu hw=>by
   rw[N3,Bool.and_eq_true] at hu
   rw[N3,hcl u w hu.1 hw]
   cases hcw:c.testBit w with
   | false=>rfl
   | true=>
    have:=hI.closed w u hcw (hsy u w hw)
    rw[this] at hu;simp at hu
  obtain⟨h1,h2,h3⟩:=X54 h h64 hsy f (M2 l c) (by omega) (D7 hl) hcl2
  have hsub:∀ w,c.testBit w=true->l.testBit w=true:=hI.least _ hlv hcl
  refine⟨fun d hd => ?_,?_,fun w => ?_⟩
  .rcases List.mem_cons.1 hd with rfl | hd
   .exact⟨v,hv,hI⟩
   .exact h1 d hd
  .refine List.Pairwise.cons (fun d hd w hw => ?_) h2
   cases hdw:d.testBit w with
   | false=>rfl
   | true=>
    have:=(h3 w).2 ⟨d,hd,hdw⟩
    rw[N3,hw] at this
    simp at this
  .constructor
   .intro hw
    cases hcw:c.testBit w with
    | true=>exact⟨c,by simp,hcw⟩
    | false=>
     obtain⟨d,hd,hdw⟩:=(h3 w).1 (by rw[N3,hw,hcw];rfl)
     exact⟨d,by simp[hd],hdw⟩
   .rintro⟨d,hd,hdw⟩
    rcases List.mem_cons.1 hd with rfl | hd
    .exact hsub w hdw
    .have:=(h3 w).2 ⟨d,hd,hdw⟩
     rw[N3,Bool.and_eq_true] at this
     exact this.1
def Y13 (es:List Nat) (s:Nat):List Nat:=es.filterMap fun e=>if e &&& s=0 then none else some (e &&& s)
theorem Y62 (es:List Nat) (s:Nat):(Y13 es s).length<=es.length:=List.length_filterMap_le _ _
theorem D91 {es:List Nat} {s N:Nat} (h:∀ e ∈ es,e<2^N):∀ e ∈ Y13 es s,e<2^N:=by
 intro e he
 obtain⟨x,hx,hy⟩:=List.mem_filterMap.1 he
 split at hy
 .cases hy
 .cases hy
  exact Nat.lt_of_le_of_lt Nat.and_le_left (h x hx)
end Go.Clo
namespace Go.Proofs.YtpiobdofbhkmjaaDoor
open Go.Clo
theorem V79 {es:List Nat} {i e:Nat} (s:Nat) (h:es[i]? = some e):Y13 (es.take (i+1)) s=Y13 (es.take i) s++(if e &&& s=0 then [] else [e &&& s]):=by
 unfold Y13
 rw[K9 h,List.filterMap_append]
 congr 1
 by_cases h0:e &&& s=0<;>simp[h0]
end Go.Proofs.YtpiobdofbhkmjaaDoor
