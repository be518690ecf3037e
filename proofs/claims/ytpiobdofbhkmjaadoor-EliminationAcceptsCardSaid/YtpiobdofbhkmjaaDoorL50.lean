/-
  THE STATEMENT EliminationAccepts: for every input the law returns true,and each argument reads behind the call as it did (what the row lists of Go's tables is tied to the program's text). No condition.
  A graph as an argument,opened.
  The arguments of the law,opened;the listed table.
-/
import Derived.Test.YtpiobdofbhkmjaaDoorRows
import Derived.Test.YtpiobdofbhkmjaaDoorL16
import Derived.WalkKit
import Derived.ProofKit
import Derived.OpenShut
import Derived.Lib.SmallJoins
import Derived.Deep.Strs
import Derived.SizedLaws
import Derived.LaidMore
import Derived.Lay
import Derived.Stop.Joined
import Derived.Test.YtpiobdofbhkmjaaDoorL49
import Derived.Test.YtpiobdofbhkmjaaDoorTie
import Derived.Test.YtpiobdofbhkmjaaDoorCards
import Derived.SevenTiedAt
set_option linter.unusedSimpArgs false
set_option linter.unusedVariables false
set_option linter.unusedSectionVars false
namespace Go.Proofs.YtpiobdofbhkmjaaDoor
open Go.ChangeShapes Go.WideShapes Go.ChangeAt Go.RowKit Go.Joins Go.Deep Go.Clo
variable {A:Option Addr} {P:Program} {W:World} {cap len:Nat} {e t:TypeId} {r:Reach}
theorem own:ownKnob Tryd.prog.godebug=none:=by kernel_rfl
theorem G93:laidOutB Tryd.prog=true:=by kernel_rfl
def G18:List (String × DataW Unit):=Rows.eliminationBestRow.laid
theorem Y97:(Rows.laid_math_bits_deBruijn32tab:DataW Unit) = .agg (deB.map fun (n:Nat) => .lit (.int .u8 (n:Int))):=rfl
theorem C95:Tryd.prog.globalNamed (G18.map (·.1)).head! = some 0:=by kernel_rfl
theorem G63 (h:laidMetH Tryd.prog G18 W) (r n:Nat) (hr:deB[r]? = some n):W.cell? ⟨0,r,none⟩=some (.int .u8 (n:Int)):=by
 have hrl:r<32:=(List.getElem?_eq_some_iff.1 hr).1
 rw[MakeChecks.laidMetH_plain _ _ _ (by kernel_rfl)] at h
 obtain⟨ps,⟨g,t,cs,fuel,p,q,hg,ht,hv,hd,_,_⟩,_,_⟩:=h
 obtain rfl:=Option.some.inj (C95.symm.trans hg)
 obtain rfl:=Option.some.inj ((show (Tryd.prog.globals[0]?).map (·.type)=some 144 by kernel_rfl).symm.trans ht)
 obtain⟨xs,m,_,ex,_,hl,hel⟩:=DataW.trod_array Tryd.underlying144 hd
 have c5:Tryd.prog.cellsOf 5=1:=by kernel_rfl
 have hE:=hel r hrl
 rw[c5,Nat.mul_one,List.getElem?_eq_getElem (by omega)] at hE
 obtain⟨z,e1,e2,_⟩:=DataW.trod_int Tryd.underlying5 hE
 have e3:(xs.map (·.1))=deB.map fun (n:Nat) => .lit (.int .u8 (n:Int)):=(DataW.agg.inj (Prod.mk.inj ex).1).symm
 have e4:(xs.map (·.1))[r]? = (deB.map fun (n:Nat)=>(DataW.lit (.int .u8 (n:Int)):DataW Unit))[r]? := by rw[e3]
 rw[List.getElem?_map,List.getElem?_map,List.getElem?_eq_getElem (by omega:r<xs.length),hr,e2] at e4
 have hz:z=(n:Int):=by
  simpa only[Option.map_some,Option.some.injEq,DataW.lit.injEq,Lit.int.injEq,true_and] using e4
 rw[World.var?_cell hg hv r,<- hz]
 have:cs.toList[r]? = some (.int .u8 z):=by
  have h0:((cs.toList.drop r).take 1)[0]? = some (.int .u8 z):=by rw[e1];rfl
  simpa using h0
 simpa using this
theorem J45 (h:laidMetH Tryd.prog G18 W):GlW W:=fun x hx=>by
 rw[List.mem_singleton.1 hx]
 have h0:=G63 h 0 0 rfl
 constructor
 .unfold World.cell? at h0
  rcases Nat.lt_or_ge 0 W.heap.size with g | g
  .exact g
  .rw[Array.getElem?_eq_none g] at h0;cases h0
 .intro i v hv
  simp only[List.getElem?_map,Option.map_eq_some_iff] at hv
  obtain⟨n,hn,rfl⟩:=hv
  exact G63 h i n hn
section
variable {X:Type} {enc:TypeId × Value->X} {W:World} {b0 base:Nat} {spare:Nat->Bool} {held:Bool}
theorem C44 (ht:P.underlying t=some (.slice e)) (h:Cell.okWide P W r b0 t (.slice A len cap)):Cell.ok P W r b0 t (.slice A len cap):=by
 simp only[Cell.okWide,ht] at h
 exact h
theorem K94 (ht:P.underlying t=some (.slice e)) (h:Value.okWide P W r b0 t (.slice A len cap)):Cell.ok P W r b0 t (.slice A len cap):=by
 simp only[Value.okWide,ht] at h
 exact C44 ht h
theorem J44 {α:Type} (f:α->Value) (xs:List α):(xs.flatMap fun a=>[f a])=xs.map f:=by
 induction xs with
 | nil=>rfl
 | cons a xs ih=>simp[ih]
set_option maxRecDepth 100000 in
theorem C96 {F:FM} {H:Y0} {nx:Nat} (hi:In W F H nx) {n:Nat} {y:DataW X × List MemPlace} (hok:Cell.ok Tryd.prog W .any b0 27 (.slice A len cap)) (h:DataW.trod enc Tryd.prog W base spare held n 27 [.slice A len cap]=some y):
  ∃ (F':FM) (H':Y0) (nx':Nat) (A':Option Addr) (l:List Int),In W F' H' nx'/\F.le F'/\VR F' (.slice A' l.length cap) (.slice A len cap)/\l.length=len/\Sl H' nx' A' (R3 l)/\D0 H nx H' nx'/\Has H' nx' A':=by
 obtain⟨F',H',nx',A',xs,h1,h2,h3,rfl,h5,h6,h7,_,h9⟩:=hi.sliceH (f:=fun a:Int=>[Value.int .i64 a]) (Pr:=fun _=>True) (sz:=1) Tryd.underlying27 (by kernel_rfl) (fun _=>rfl) hok h (fun n cs y h=>by
  obtain⟨s,rfl,_,_⟩:=DataW.trod_int Tryd.underlying3 h
  exact⟨s,rfl,trivial⟩) (fun _=>rfl)
 rw[J44] at h6
 exact⟨F',H',nx',A',xs,h1,h2,h3,rfl,h6,h7,h9⟩
end
theorem W63 {X:Type} {enc:TypeId × Value->X} {fn:Func} {s:ChangeSpec} {W':World} {args:Array Value} {ds gs:List (DataW X)} {before p:List MemPlace}
  (hW:DataW.Whole enc Tryd.prog fn.params.toList s.vars false W args.toList ds gs before) (hv:s.vars=[]) (hres:(s.fn X (ds++gs)).results=[.lit (.bool true)]) (hvars:(s.fn X (ds++gs)).vars=[])
  (hargs:(s.fn X (ds++gs)).args=ds) (hrt:fn.resultTypes = #[4]) (hts:∀ t ∈ fn.params.toList,Tryd.prog.readableRec t=true/\t<Tryd.prog.types.size) (hb:Below W.heap.size W W')
  (hA:DataW.TrodAll enc Tryd.prog W 0 (fun _=>true) true fn.params.toList args.toList ds p) (hp:∀ x ∈ p,x ∈ before):
  s.post enc Tryd.prog fn false true false false W args (.bool true) W':=by
 refine G60 (pa:=p) (pv:=[]) hW hb (fun _ _ _ => ?_) ?_ ?_
 .rw[hres,hrt]
  exact trodAll_cons_mk (shut_bool Tryd.underlying4 _) trodAll_mk0
 .rw[hargs]
  exact K39 G93 hb _ _ _ _ hts hA fun x hx=>hW.lt x (hp x hx)
 .rw[hv,hvars];rfl
theorem V83 (os:Os):(World.laidAll Tryd.prog os G18).Shaped Tryd.prog:=World.shaped_of_ZipB (by kernel_rfl) (by kernel_rfl)
theorem met (os:Os) (args:Array Value):laidMetH Tryd.prog G18 ((World.laidAll Tryd.prog os G18).forCall (fun _ _=>0) ⟨#[],args,[]⟩).memory:=by
 rw[MakeChecks.laidMetH_plain _ _ _ (by kernel_rfl)];exact laidMet_laidAll _ (by kernel_rfl) (by kernel_rfl)
end Go.Proofs.YtpiobdofbhkmjaaDoor

namespace Go.Proofs.YtpiobdofbhkmjaaDoor
open Go.ChangeShapes Go.WideShapes Go.ChangeAt Go.RowKit Go.Joins Go.Deep Go.Clo
variable {n:Nat}
section
variable {X:Type} {enc:TypeId × Value->X} {W:World} {b0 base:Nat} {spare:Nat->Bool} {held:Bool}
theorem J91:Tryd.prog.cellTypes Tryd.prog.depth 24=some [3,22]:=by kernel_rfl
set_option maxRecDepth 100000 in
theorem W51 {v:Value} {d:DataW X} {p:List MemPlace} (hv:Value.okWide Tryd.prog W .any b0 24 v) (h:DataW.Trod enc Tryd.prog W base spare held 24 v d p):
  ∃ (N:Int) (A:Option Addr) (len cap n:Nat) (y:DataW X × List MemPlace),v = .agg #[.int .i64 N,.slice A len cap]/\(Lit.int .i64 N).wf=true/\Cell.ok Tryd.prog W .any b0 22 (.slice A len cap) /\
   DataW.trod enc Tryd.prog W base spare held n 22 [.slice A len cap]=some y:=by
 have hv':=hv
 obtain⟨v0,v1,y0,y1,n,rfl,rfl,rfl,h0,h1⟩:=open_agg2 Tryd.underlying24 (by kernel_rfl) (by kernel_rfl) hv h
 obtain⟨N,e0,_,hN⟩:=DataW.trod_int Tryd.underlying3 h0
 simp only[List.cons.injEq,and_true] at e0
 subst e0
 simp only[Value.okWide,Tryd.underlying24] at hv'
 obtain⟨cs,e,_,ts,hts,_,hrow⟩:=hv'
 cases e
 rw[J91] at hts
 cases hts
 obtain⟨u,hu,hc⟩:=hrow 1 v1 rfl
 cases hu
 obtain⟨A,len,cap,rfl⟩:∃ A len cap,v1 = .slice A len cap:=by
  simp only[Cell.okWide,Tryd.underlying22] at hc
  cases v1<;>simp_all [Cell.ok]
 exact⟨N,A,len,cap,n,y1,rfl,hN,C44 Tryd.underlying22 hc,h1⟩
theorem W86 {cs:List Value} {y:DataW X × List MemPlace} (h:DataW.trod enc Tryd.prog W base spare held n 42 cs=some y):∃ a:Nat,[Value.int .u32 (a:Int)]=cs/\a<4294967296:=by
 obtain⟨z,rfl,_,hz⟩:=DataW.trod_int Tryd.underlying42 h
 simp only[Lit.wf,Bool.and_eq_true,decide_eq_true_eq,show IntKind.u32.min=0 from rfl,show IntKind.u32.max=4294967295 from rfl] at hz
 exact⟨z.toNat,by rw[Int.toNat_of_nonneg (by omega)],by omega⟩
set_option maxRecDepth 100000 in
theorem C51 {F:FM} {H:Y0} {nx:Nat} (hi:In W F H nx) {A:Option Addr} {len cap:Nat} {y:DataW X × List MemPlace} (hok:Cell.ok Tryd.prog W .any b0 22 (.slice A len cap)) (h:DataW.trod enc Tryd.prog W base spare held n 22 [.slice A len cap]=some y):
  ∃ (F':FM) (H':Y0) (nx':Nat) (A':Option Addr) (es:List Nat),In W F' H' nx'/\F.le F'/\VR F' (.slice A' es.length cap) (.slice A len cap)/\Z4 es/\Sl H' nx' A' (N1 es)/\D0 H nx H' nx'/\Has H' nx' A':=by
 obtain⟨F',H',nx',A',xs,h1,h2,h3,rfl,h5,h6,h7,_,h9⟩:=hi.sliceH (f:=fun a:Nat=>[Value.int .u32 (a:Int)]) (Pr:=fun a=>a<4294967296) (sz:=1) Tryd.underlying22 (by kernel_rfl) (fun _=>rfl) hok h (fun n cs y h=>W86 h) (fun _=>rfl)
 rw[J44] at h6
 exact⟨F',H',nx',A',xs,h1,h2,h3,h5,h6,h7,h9⟩
end
end Go.Proofs.YtpiobdofbhkmjaaDoor

namespace Go.Proofs.YtpiobdofbhkmjaaDoor.eliminationAccepts
open Go.ChangeShapes Go.WideShapes Go.ChangeAt Go.RowKit Go.Joins Go.Clo
set_option maxRecDepth 100000 in
theorem lifted (os:Os) (started:os.Started) (H:Type) (enc:TypeId × Value->H):
  ReturnsInHanded {} Tryd.checked os 3 .any (fun w args=>(Rows.eliminationAcceptsSpec.pre enc Tryd.prog Tryd.f3 Rows.eliminationAcceptsRow.domain false w args/\laidMetH Tryd.prog G18 w)/\sizedMet enc Tryd.prog Tryd.f3 (OpenSpec.ofChange Rows.eliminationAcceptsSpec) false w args)
   (Rows.eliminationAcceptsSpec.post enc Tryd.prog Tryd.f3 false true false false):=by
 refine returnsInHanded_of_change_and (C:=Tryd.checked) (X:=fun w _=>laidMetH Tryd.prog G18 w) (fun _ _ _ hh h=>h.of_heap hh) own started (by kernel_rfl) Tryd.func3
  (ChangeSpec.witness_shaped (enc:=enc) (C:=Tryd.checked) (os:=os) (X:=fun w _=>laidMetH Tryd.prog G18 w) false (World.laidAll Tryd.prog os G18) #[.agg #[.int .i64 0,.slice none 0 0],.int .u8 0] 8 (World.laidAll_os _ _ _)
   (V83 os) (by kernel_rfl) (by kernel_rfl) (by kernel_rfl) (met os _)) ?_
 intro W base args ds gs before hval0 hW _ _ hlaid _
 have hval:∀ (j:Nat) t v,Tryd.f3.params[j]? = some t->args[j]? = some v->Value.okWide Tryd.prog W .any base t v:=hval0
 have hW':=hW
 obtain⟨p,q,hA0,hV,rfl,_,_⟩:=hW
 have hA:DataW.TrodAll enc Tryd.prog W 0 (fun _=>true) true Tryd.f3.params.toList args.toList ds p:=hA0
 have hAll:=hA
 rw[Tryd.params3] at hA hval
 obtain⟨v0,vs0,d0,ds0,p0,q0,hargs,rfl,rfl,h0,r0⟩:=trodAll_cons hA
 obtain⟨v1,vs1,d1,ds1,p1,q1,rfl,rfl,rfl,h1,r1⟩:=trodAll_cons r0
 obtain⟨rfl,rfl,rfl⟩:=trodAll_nil r1
 obtain rfl:args = #[v0,v1]:=by cases args;simp_all
 obtain⟨rfl,rfl⟩:=trodVars_none hV
 obtain⟨N,A,len,cap,n0,y0,rfl,_,hok0,ht0⟩:=W51 (hval 0 24 v0 rfl rfl) h0
 obtain⟨free,rfl,rfl,rfl,hz⟩:=open_int Tryd.underlying5 (hval 1 5 v1 rfl rfl) h1
 simp only[Lit.wf,Bool.and_eq_true,decide_eq_true_eq,show IntKind.u8.min=0 from rfl,show IntKind.u8.max=255 from rfl] at hz
 obtain⟨fr,rfl⟩:=Int.eq_ofNat_of_zero_le hz.1
 obtain⟨F1,H1,nx1,A',es,hi1,hle1,hr1,hsm,hS,hE1,_⟩:=C51 (In.start W (J45 hlaid)) hok0 ht0
 have hvl:VL F1 [gv N A' es.length cap,.int .u8 (fr:Int)] [.agg #[.int .i64 N,.slice A len cap],.int .u8 (fr:Int)]:=
  .cons (VR.agg' (.cons (.int _ _) (.cons hr1 .nil))) (.cons (.int _ _) .nil)
 refine (U41 (U97 N fr A' es cap H1 nx1 hS hsm (by omega)) (fun _ _ _ h=>h) hi1 hvl).mono fun e W' ⟨he,hb⟩ => ?_
 subst he
 refine⟨_,rfl,W63 hW' rfl rfl rfl rfl (by kernel_rfl) ?_ hb hAll fun x hx=>List.mem_append_left _ hx⟩
 rw[Tryd.params3]
 intro t ht
 simp only[List.mem_cons,List.not_mem_nil,or_false] at ht
 rcases ht with rfl | rfl<;>exact⟨by kernel_rfl,of_decide_eq_true (by kernel_rfl)⟩
theorem over:Rows.eliminationAcceptsRow.holds Tryd.pinned (OpenSpec.ofChange Rows.eliminationAcceptsSpec):=
 OpenClaim.holds_of_wide 3 Tryd.f3 rfl rfl rfl rfl rfl rfl rfl ⟨rfl,rfl,rfl,rfl,rfl⟩ rfl rfl rfl rfl rfl (by kernel_rfl) Tryd.func3 (by kernel_rfl)
  (of_decide_eq_true (by kernel_rfl)) (by unfold Func.isWrapper;first | (rw[if_pos (by decide +kernel)];kernel_rfl) | (rw[if_neg (by decide +kernel)];exact⟨rfl,rfl⟩))
  (fun os started H enc _=>lifted os started H enc)
theorem proved:Rows.EliminationAcceptsCardSaid:=
 Claim7.holds_tied_plain_at .later [] [.data] true (true, "5027b243044485eb1fbafc7e09734fa63e6928ed2f4a8232569ae1f8cbe902c9") false over (fun _ h => by cases h) (by kernel_rfl) (fun _ h => by cases h) eliminationAccepts_row_tie rfl ⟨rfl, rfl⟩ (by kernel_rfl) rfl
  (fun f fn hf hfn=>by
   obtain rfl:f=3:=Option.some.inj ((show Tryd.prog.funcNamed Rows.eliminationAcceptsRow.func=some 3 by kernel_rfl).symm.trans hf) |>.symm
   obtain rfl:fn=Tryd.f3:=(Option.some.inj (Tryd.func3.symm.trans hfn)).symm
   exact⟨by kernel_rfl,fun j t ht=>by
    rw[Tryd.params3] at ht
    have hm:t ∈ [24,5]:=by simpa using Array.mem_of_getElem? ht
    have hall:([24,5].all fun u => !Tryd.prog.wantsStandIn u)=true:=by kernel_rfl
    exact (show Tryd.prog.wantsStandIn t=false by simpa using List.all_eq_true.1 hall t hm)⟩)
  (by kernel_rfl)
end Go.Proofs.YtpiobdofbhkmjaaDoor.eliminationAccepts
