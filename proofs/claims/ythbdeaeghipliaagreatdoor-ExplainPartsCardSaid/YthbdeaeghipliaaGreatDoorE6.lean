/-
  THE STATEMENT ExplainParts: for every input the law returns true,and each argument reads behind the call as it did (what the row lists of Go's tables is tied to the program's text). No condition.
  A query as an argument,opened;a verdict.
-/
import Derived.Test.YthbdeaeghipliaaGreatDoorE3
import Derived.Test.YthbdeaeghipliaaGreatDoorE5
import Derived.Test.YthbdeaeghipliaaGreatDoorRows
import Derived.Test.YthbdeaeghipliaaGreatDoorTie
import Derived.Test.YthbdeaeghipliaaGreatDoorCards
import Derived.WalkKit
import Derived.ProofKit
import Derived.OpenShut
import Derived.Lib.SmallJoins
import Derived.Lib.LaidTab
import Derived.SizedLaws
import Derived.LaidMore
import Derived.Lay
import Derived.Stop.Joined
import Derived.SevenTiedAt
set_option maxHeartbeats 8000000
set_option maxRecDepth 100000
set_option linter.all false
open Go.DataW renaming TrodAll->hU,trod->eB,weights->gK,weights_mem_each->eF
open Go.Lit renaming int->gZ
open Go.OpenSpec renaming ofChange->gP
open Go.Proofs.Tryz renaming prog->gQ
open Go.Value renaming bool->dU,int->cD,string->aB
open List renaming all_eq_true->iE,getElem?_eq_getElem->aE,mem_append->dN,mem_append_left->dX,mem_cons->aU,mem_singleton->dJ
open List.cons renaming injEq->fM
open Nat renaming le_refl->aD,lt_of_lt_of_le->aO,mul_le_mul->eL
open Option renaming bind_eq_some_iff->eA
open Option.some renaming inj->fA
namespace Go.Proofs.YthbdeaeghipliaaGreatDoor
open Go.Clo
section
variable {b0:Nat}
section
variable {X:Type} {enc:TypeId × Value->X} {W:World}
abbrev W145:=X0.int (enc:=enc) (w:=W) Tryz.underlying3
abbrev N130:=X0.string (enc:=enc) (w:=W) Tryz.underlying9
abbrev E140:=X0.bool (enc:=enc) (w:=W) Tryz.underlying4
theorem M136:X0 enc gQ W 69 (fun x:Int × Int × ByteArray × Unit=>[O8 x.1,O8 x.2.1,.string x.2.2.1]) (fun _ _ x=>(gZ .i64 x.2.1).wf=true):=
 X0.map id (X0.struct Tryz.underlying69 (by kernel_rfl) (W17.cons 1 rfl (by kernel_rfl) X36 W145 (W17.cons 1 rfl (by kernel_rfl) X36 (X0.int Tryz.underlying2) (W17.cons 1 rfl (by kernel_rfl) X56 N130 W17.nil)))) (fun _=>rfl) (fun _ _ _ h=>h.2.1)
theorem C145:X0 enc Tryz.prog W 76 U118 (fun _ _ t=>(Lit.int .i64 t.int).wf=true):=
 X0.map (fun x:ByteArray × (Int × Int × ByteArray × Unit) × Unit=>⟨x.1,x.2.1.1,x.2.1.2.1,x.2.1.2.2.1⟩) (X0.struct Tryz.underlying76 (by kernel_rfl) (W17.cons 1 rfl (by kernel_rfl) X56 N130 (W17.cons 3 rfl (by kernel_rfl) X36 M136 W17.nil))) (fun _=>rfl) (fun _ _ _ h=>h.2.1)
theorem Y148:X0 enc Tryz.prog W 71 Y127 (fun _ _ c=>(Lit.int .i64 c.int).wf=true):=
 X0.map (fun x:ByteArray × Int × (Int × Int × ByteArray × Unit) × Unit=>⟨x.1,x.2.1,x.2.2.1.1,x.2.2.1.2.1,x.2.2.1.2.2.1⟩) (X0.struct Tryz.underlying71 (by kernel_rfl) (W17.cons 1 rfl (by kernel_rfl) X56 N130 (W17.cons 1 rfl (by kernel_rfl) X36 W145 (W17.cons 3 rfl (by kernel_rfl) X36 M136 W17.nil)))) (fun _=>rfl) (fun _ _ _ h=>h.2.2.1)
theorem V148:X0 enc gQ W 63 D19 (fun _ _ _=>True):=
 X0.map (fun x:ByteArray × Bool × Unit=>⟨x.1,x.2.1⟩) (X0.struct Tryz.underlying63 (by kernel_rfl) (W17.cons 1 rfl (by kernel_rfl) X56 N130 (W17.cons 1 rfl (by kernel_rfl) X56 E140 W17.nil))) (fun _=>rfl) (fun _ _ _ _=>trivial)
theorem X146:X0 enc Tryz.prog W 74 Q115 (fun H nx a=>D122 H nx a/\a.terms.length<=reachBytes/\∀ t ∈ a.terms,(Lit.int .i64 t.int).wf=true):=
 X0.map (fun x:Bool × ByteArray × (Option Addr × Nat × List R33) × Unit=>⟨x.1,x.2.1,x.2.2.1.1,x.2.2.1.2.1,x.2.2.1.2.2⟩)
  (X0.struct Tryz.underlying74 (by kernel_rfl) (W17.cons 1 rfl (by kernel_rfl) X56 E140 (W17.cons 1 rfl (by kernel_rfl) X56 N130 (W17.cons 1 rfl (by kernel_rfl) (J126 (X36 (p:=fun t:R33=>(Lit.int .i64 t.int).wf=true)))
   (X0.slice Tryz.underlying72 (by kernel_rfl) (by omega) (of_decide_eq_true (by kernel_rfl)) V117 (X36 (p:=fun t:R33=>(Lit.int .i64 t.int).wf=true)) C145) W17.nil)))) (fun _=>rfl) (fun _ _ _ h=>⟨h.2.2.1.1,h.2.2.1.2.2,h.2.2.1.2.1⟩)
theorem U133:Y7 (fun H nx a=>D122 H nx a/\a.terms.length<=reachBytes/\∀ t ∈ a.terms,(gZ .i64 t.int).wf=true):=fun _ _ _ _ _ h e=>⟨h.1.ext e,h.2⟩
structure J140 (H:Y0) (nx:Nat) (r:V32):Prop where
 ok:V118 H nx r
 atoms:r.atoms.length<=reachBytes
 conds:r.conds.length<=reachBytes
 terms:∀ a ∈ r.atoms,a.terms.length<=reachBytes
 nums:(∀ a ∈ r.atoms,∀ t ∈ a.terms,(gZ .i64 t.int).wf=true)/\∀ c ∈ r.conds,(gZ .i64 c.int).wf=true
theorem D140:Y7 J140:=fun _ _ _ _ _ h e=>⟨h.ok.ext e,h.atoms,h.conds,h.terms,h.nums⟩
theorem C147:X0 enc Tryz.prog W 67 K111 J140:=
 X0.map (fun x:(Option Addr × Nat × List J90) × (Option Addr × Nat × List Q111) × Unit=>⟨x.1.1,x.1.2.1,x.1.2.2,x.2.1.1,x.2.1.2.1,x.2.1.2.2⟩)
  (X0.struct Tryz.underlying67 (by kernel_rfl) (W17.cons 1 rfl (by kernel_rfl) (J126 U133)
   (X0.slice Tryz.underlying64 (by kernel_rfl) (by omega) (of_decide_eq_true (by kernel_rfl)) M117 U133 X146) (W17.cons 1 rfl (by kernel_rfl) (J126 (X36 (p:=fun c:Q111=>(Lit.int .i64 c.int).wf=true)))
   (X0.slice Tryz.underlying65 (by kernel_rfl) (by omega) (of_decide_eq_true (by kernel_rfl)) C121 (X36 (p:=fun c:Q111=>(Lit.int .i64 c.int).wf=true)) Y148) W17.nil))) (fun _=>rfl)
  (fun _ _ _ h=>⟨⟨h.1.1,fun a ha=>(h.1.2.1 a ha).1,h.2.1.1⟩,h.1.2.2,h.2.1.2.2,fun a ha=>(h.1.2.1 a ha).2.1,fun a ha=>(h.1.2.1 a ha).2.2,h.2.1.2.1⟩)
theorem M148:gQ.cellTypes gQ.depth 26=some [22,3,9,23,24]:=by kernel_rfl
theorem G127{P:Program}{r:Reach}{t e:TypeId}{v:Value}(ht:P.underlying t=some (.slice e))(h:Cell.okWide P W r b0 t v):∃ A len cap,v = .slice A len cap/\Cell.ok P W r b0 t (.slice A len cap):=by
 simp only[Cell.okWide,ht] at h;have h':=h
 cases v with
 | slice A len cap=>exact⟨A,len,cap,rfl,h⟩
 | _=>simp[Cell.ok,ht] at h
theorem U139 {F : FM} {H : Y0} {nx : Nat} (hi : In W F H nx) {v : Value} {d : DataW X} {p : List MemPlace} (hv : Value.okWide Tryz.prog W .any b0 26 v) (h : DataW.Trod enc Tryz.prog W 0 (fun _ => true) true 26 v d p)
    (hw : ∀ k ∈ d.weights Tryz.prog 26, k <= reachBytes) :
    ∃ (F' : FM) (H' : Y0) (nx' : Nat) (q : M13), In W F' H' nx' /\ F.le F' /\ D0 H nx H' nx' /\ VR F' (.agg ⟨Z16 q⟩) v /\ D66 H' nx' q /\ R130 q /\ ∀ r ∈ q.rules, (∀ a ∈ r.atoms, ∀ t ∈ a.terms, (Lit.int .i64 t.int).wf = true) /\ ∀ c ∈ r.conds, (Lit.int .i64 c.int).wf = true := by
  have hR : reachBytes = 140737488351232 := rfl
  simp only [Value.okWide, Tryz.underlying26] at hv
  obtain ⟨cs, rfl, hsz, ts, hts, _, hrow⟩ := hv
  rw [M148] at hts
  cases hts
  rw [show Tryz.prog.cellsOf 26 = 5 by kernel_rfl] at hsz
  obtain ⟨fuel, hdt⟩ := h
  obtain ⟨xs, m, _, hdx, hl, hxl, hel⟩ := DataW.trod_struct Tryz.underlying26 hdt
  obtain ⟨l⟩ := cs
  match l, hsz with
  | [v0, v1, v2, v3, v4], _ =>
  match xs, hxl with
  | [x0, x1, x2, x3, x4], _ =>
  have e0 := hel 0 _ rfl
  have e1 := hel 1 _ rfl
  have e2 := hel 2 _ rfl
  have e3 := hel 3 _ rfl
  have e4 := hel 4 _ rfl
  simp only [Prod.mk.injEq] at hdx
  obtain ⟨hdx, _⟩ := hdx
  subst hdx
  have hw' : ∀ k ∈ DataW.weightsEach Tryz.prog [22, 3, 9, 23, 24] [x0.1, x1.1, x2.1, x3.1, x4.1], k <= reachBytes := fun k hk => hw k (by rw [DataW.weights, Tryz.underlying26]; exact hk)
  have g0 : DataW.trod enc Tryz.prog W 0 (fun _ => true) true m 22 [v0] = some x0 := e0
  have g1 : DataW.trod enc Tryz.prog W 0 (fun _ => true) true m 3 [v1] = some x1 := e1
  have g2 : DataW.trod enc Tryz.prog W 0 (fun _ => true) true m 9 [v2] = some x2 := e2
  have g3 : DataW.trod enc Tryz.prog W 0 (fun _ => true) true m 23 [v3] = some x3 := e3
  have g4 : DataW.trod enc Tryz.prog W 0 (fun _ => true) true m 24 [v4] = some x4 := e4
  clear hel e0 e1 e2 e3 e4
  obtain ⟨u0, hu0, hc0⟩ := hrow 0 v0 rfl
  cases hu0
  obtain ⟨u4, hu4, hc4⟩ := hrow 4 v4 rfl
  cases hu4
  obtain ⟨A0, n0, c0, rfl, ok0⟩ := G127 Tryz.underlying22 hc0
  obtain ⟨A4, n4, c4, rfl, ok4⟩ := G127 Tryz.underlying24 hc4
  obtain ⟨F1, H1, nx1, HA, hd, i1, l1, E1, r1, hl1, hcap, hb0, hS, _, hH⟩ := In.sliceR (f := fun s : ByteArray => [Value.string s]) (sz := 1) Tryz.underlying22 (by kernel_rfl) (of_decide_eq_true (by kernel_rfl)) (fun _ => rfl) X56 (X0.string Tryz.underlying9) hi ok0 g0 (fun k hk => hw' k (DataW.weights_mem_each (j := 0) rfl rfl k hk))
  obtain ⟨ag, hag, _, _⟩ := DataW.trod_int Tryz.underlying3 g1
  obtain ⟨av, hav, _, _⟩ := DataW.trod_string Tryz.underlying9 g2
  simp only [List.cons.injEq, and_true] at hag hav
  subst hag; subst hav
  obtain ⟨F2, H2, nx2, ⟨RA, rc, rules⟩, i2, l2, E2, r2, hS2, hp2, hb2⟩ := X0.slice Tryz.underlying23 (by kernel_rfl) (by omega) (of_decide_eq_true (by kernel_rfl)) G124 D140 C147 F1 H1 nx1 m _ _ i1 g3 (fun k hk => hw' k (DataW.weights_mem_each (j := 3) rfl rfl k hk))
  obtain ⟨F3, H3, nx3, OA, ord, i3, l3, E3, r3, hl3, _, hb3, hS3, _, hH3⟩ := In.sliceR Tryz.underlying24 (by kernel_rfl) (of_decide_eq_true (by kernel_rfl)) B126 X56 V148 i2 ok4 g4 (fun k hk => hw' k (DataW.weights_mem_each (j := 4) rfl rfl k hk))
  have hE13 := E2.trans E3
  refine ⟨F3, H3, nx3, ⟨HA, c0, hd, ag, av, RA, rc, rules, OA, c4, ord⟩, i3, fun _ _ h => l3 _ _ (l2 _ _ (l1 _ _ h)), E1.trans hE13, ?_, ?_, ?_, fun r hr => (hp2 r hr).nums⟩
  · refine VR.agg' (.cons ((r1.mono l2).mono l3) (.cons (.int _ _) (.cons (.string _) ?_)))
    have r2' := VL.mono l3 r2
    cases r2' with
    | cons a b => exact .cons a (.cons r3 .nil)
  · have e : N0 hd = hd.flatMap fun s => [Value.string s] := by
      unfold N0
      clear hl1 hb0 hS hH r1
      induction hd with
      | nil => rfl
      | cons a l ih => simp [ih]
    exact { head := by
              show Sl H3 nx3 HA (N0 hd)
              rw [e]; exact hS.ext hE13
            headH := by
              rcases hH with ⟨h, _⟩ | ⟨b, h, hb, hg⟩
              · exact .inl h
              · exact .inr ⟨b, 0, _, h, Nat.lt_of_lt_of_le hb hE13.le, (hE13.get b hb).trans hg⟩
            hcap := by show hd.length <= c0; omega
            hnil := fun h => by
              rcases hH with ⟨_, h0⟩ | ⟨b, h0, _⟩
              · exact h0
              · have h : HA = none := h
                rw [h] at h0; cases h0
            rules := hS2.ext E3
            rule := fun r hr => (hp2 r hr).ok.ext E3
            order := hS3
            orderH := by
              rcases hH3 with ⟨h, _⟩ | ⟨b, h, hb, hg⟩
              · exact .inl h
              · exact .inr ⟨b, 0, _, h, hb, by rw [Q5, hg]; rfl⟩ }
  · exact { head := by show hd.length < _; omega
            order := by show ord.length < _; omega
            rules := by show rules.length < _; have : rules.length <= reachBytes := hb2; omega
            atoms := fun r hr => by have := (hp2 r hr).atoms; omega
            conds := fun r hr => by have := (hp2 r hr).conds; omega
            terms := fun r hr a ha => by have := (hp2 r hr).terms a ha; omega }
end
end
end Go.Proofs.YthbdeaeghipliaaGreatDoor
namespace Go.Clo
section
variable {X:Type} {enc:TypeId × Value->X} {P:Program} {w:World} {α β:Type}
def Z19(H:Y0)(nx:Nat)(x:Option Addr × Nat × List α):Prop:=((V9 H nx x.1/\(x.1=none->x.2.1=0))\/∃ s,x.1=some ⟨0,0,some s⟩/\x.2.2.length=0/\x.2.1=0)/\x.2.2.length<=x.2.1
theorem X0.sliceG{t e:TypeId}{f:α->List Value}{Pr:Y0->Nat->α->Prop}{sz:Nat}(ht:P.underlying t=some (.slice e))(M:P.cellsOf e=sz)(h0:0<sz)(Z:1<=P.bytesOf e)(hf:∀ a,(f a).length=sz)(hK:Y7 Pr)(he:X0 enc P w e f Pr):
  X0 enc P w t (fun x:Option Addr × Nat × List α=>[.slice x.1 x.2.2.length x.2.1]) (fun H nx x=>(Sl H nx x.1 (x.2.2.flatMap f)/\(∀ a ∈ x.2.2,Pr H nx a)/\x.2.2.length<=reachBytes)/\Z19 H nx x):=by
 intro F H nx n cs y hi hd hw;rcases DataW.trod_slice ht hd with ⟨rfl,_⟩ | ⟨a,len,cap,B,E,m,_,rfl,rfl,_,a4,_,V,U,J,_⟩
 .exact⟨F,H,nx,(none,0,[]),hi,fun _ _ h=>h,D0.refl _ _,.cons (.sliceN 0 0) .nil,⟨Sl.nil _ _ _,O2,O2⟩,.inl ⟨.inl rfl,fun _=>rfl⟩,aD _⟩
 .have a0:∀ z ∈ B,∀ k ∈ z.1.weights P e,k<=reachBytes:=fun z hz k hk=>hw k (by
   simp only[gK,ht,aU,dN];exact .inr (.inl (E121 (List.mem_map_of_mem hz) k hk)))
  have a1:len<=reachBytes:=by
   have h1:=hw ((B.length+E.length)*P.bytesOf e) (by simp[gK,ht]);have h2:=eL (show len<=B.length+E.length by omega) Z;omega
  by_cases hcap:cap=0
  .subst hcap
   have L:len=0:=O0;rw[L];exact⟨F,H,nx,(some ⟨0,0,some 0⟩,0,[]),hi,fun _ _ h=>h,D0.refl _ _,.cons (.sliceW 0 a) .nil,⟨Sl.nil _ _ _,O2,O2⟩,.inr ⟨0,rfl,rfl,rfl⟩,aD _⟩
  .obtain⟨R,O⟩:∃ R,w.cells? 0 (a.add 0) sz=some R:=by
    by_cases L:0<len
    .have h1:=U 0 L
     rw[aE O0,Nat.zero_mul,M] at h1;obtain⟨cs,h2,_⟩:=eA.mp h1;exact⟨cs,h2⟩
    .obtain⟨a2,h1⟩:=J rfl
     have h2:=h1 0 O0;rw[aE O0,show(len+0)*P.cellsOf e=0 by rw[show len=0 by omega];simp,M] at h2;obtain⟨cs,h3,_⟩:=eA.mp h2;exact⟨cs,h3⟩
   obtain⟨hs,c',a3,mm,hb,Q⟩:=Z126 O h0 rfl;obtain⟨F',H',nx',b,xs,i1,l1,e1,v1,c1,Y,hg,p1⟩:=U130 (cap:=cap) M hf hK he hi hs hb Q V U a0;exact⟨F',H',nx',(some ⟨b,0,none⟩,cap,xs),i1,l1,e1,by show VL F' [.slice (some ⟨b,0,none⟩) xs.length cap] _;rw[c1];exact .cons v1 .nil,⟨J135 Y hg,p1,by show xs.length<=_;omega⟩,
    .inl ⟨.inr ⟨b,0,_,rfl,Y,hg⟩,fun h=>by cases h⟩,by show xs.length<=cap;omega⟩
theorem Z19.ext{H:Y0}{nx:Nat}{x:Option Addr × Nat × List α}{H':Y0}{nx':Nat}(h:Z19 H nx x)(e:D0 H nx H' nx'):Z19 H' nx' x:=⟨h.1.imp (fun h=>⟨h.1.ext e,h.2⟩) id,h.2⟩
theorem X0.one{t e:TypeId}{f:α->List Value}{Pr:Y0->Nat->α->Prop}{r:Reach}{b0:Nat}(ht:P.underlying t=some (.slice e))(h:X0 enc P w t f Pr){F:FM}{H:Y0}{nx:Nat}(hi:In w F H nx){v:Value}{d:DataW X}{p:List MemPlace}(hv:Value.okWide P w r b0 t v)(hd:DataW.Trod enc P w 0 (fun _=>true) true t v d p)(hw:∀ k ∈ d.weights P t,k<=reachBytes):
  ∃(F':FM) (H':Y0) (nx':Nat) (a:α),In w F' H' nx'/\F.le F'/\D0 H nx H' nx'/\VL F' (f a) [v]/\Pr H' nx' a:=by
 simp only[Value.okWide,ht] at hv;have hc:v.cells.toList=[v]:=by
  simp only[Cell.okWide,ht] at hv
  cases v with
  | slice A len cap=>rfl
  | _=>simp[Cell.ok,ht] at hv
 obtain⟨B,hd⟩:=hd;rw[hc] at hd;obtain⟨F',H',nx',a,h1,h2,h3,h4,h5⟩:=h F H nx B _ _ hi hd hw;exact⟨F',H',nx',a,h1,h2,h3,h4,h5⟩
end
end Go.Clo
namespace Go.Proofs.YthbdeaeghipliaaGreatDoor
section
open Go.ChangeShapes Go.WideShapes Go.ChangeAt Go.RowKit Go.Joins Go.Clo
theorem own:ownKnob gQ.godebug=none:=by kernel_rfl
theorem V68:laidOutB gQ=true:=by kernel_rfl
def B123:List (String × DataW Unit):=Rows.explainPartsRow.laid
theorem U143:(Rows.laid_internal_strconv_uint64pow10:DataW Unit)=Lib.tabData .u64 Lib.pow10Tab:=by kernel_rfl
theorem B48{W:World}(h:laidMetH gQ B123 W):GlW W:=by
 rw[MakeChecks.laidMetH_plain _ _ _ (by kernel_rfl)] at h;obtain⟨ps,⟨_,_,_,_,_,_,_,_,_,_,⟨_,_,_,_,_,_,_,_,_,_,⟨g,t,cs,B,p,q,hg,ht,hv,hd,_,_⟩,_⟩,_⟩,_,_⟩:=h;have J:gQ.globalNamed ((B123.map (·.1)).getD 2 default)=some 0:=by kernel_rfl
 obtain rfl:=fA (J.symm.trans hg);obtain rfl:=fA ((show(gQ.globals[0]?).map (·.type)=some 190 by kernel_rfl).symm.trans ht);have E:eB (fun _=>()) gQ W 0 (fun _=>true) false B 190 cs.toList=some (Lib.tabData .u64 Lib.pow10Tab,p):=by rw[<- U143];exact hd
 have hc:=Lib.cells_of_tab Tryz.underlying190 Tryz.underlying124 (by kernel_rfl) (by kernel_rfl) E;intro x hx;rw[dJ.1 hx];unfold World.var? at hv;rw[hg] at hv;simp only[Option.bind_some] at hv
 split at hv
 .rename_i L e m hw
  cases hv
  refine⟨(Array.getElem?_eq_some_iff.1 hw).1,e,m,?_⟩;rw[hw,<- hc]
 .cases hv
section
variable {X:Type} {enc:TypeId × Value->X} {W:World}
theorem Y49{α:Type}(f:α->Value)(xs:List α):(xs.flatMap fun a=>[f a])=xs.map f:=by
 induction xs with
 | nil=>rfl
 | cons a xs ih=>simp[ih]
theorem U132:X0 enc gQ W 28 (fun x:Option Addr × Nat × List Int=>[.slice x.1 x.2.2.length x.2.1]) (fun H nx x=>Sl H nx x.1 (U4 x.2.2)/\x.2.2.length<=reachBytes):=
 X0.map id (X0.slice (f:=fun n:Int=>[cD .i64 n]) Tryz.underlying28 (by kernel_rfl) (sz:=1) O0 (of_decide_eq_true (by kernel_rfl)) (fun _=>rfl) X36 (X0.int Tryz.underlying3)) (fun _=>rfl)
  (fun _ _ a h=>⟨by have:=h.1;rw[Y49] at this;exact this,h.2.2⟩)
theorem K127:Y7 (fun H nx (x:Option Addr × Nat × List Int)=>Sl H nx x.1 (U4 x.2.2)/\x.2.2.length<=reachBytes):=fun _ _ _ _ _ h e=>⟨h.1.ext e,h.2⟩
theorem B138:X0 enc gQ W 30 (fun x:Int × (Option Addr × Nat × List Int) × (Option Addr × Nat × List Int)=>[O8 x.1,.slice x.2.1.1 x.2.1.2.2.length x.2.1.2.1,.slice x.2.2.1 x.2.2.2.2.length x.2.2.2.1])
  (fun H nx x=>(Sl H nx x.2.1.1 (U4 x.2.1.2.2)/\x.2.1.2.2.length<=reachBytes)/\Sl H nx x.2.2.1 (U4 x.2.2.2.2)/\x.2.2.2.2.length<=reachBytes):=
 X0.map (fun(x:Int × (Option Addr × Nat × List Int) × (Option Addr × Nat × List Int) × Unit)=>(x.1,x.2.1,x.2.2.1)) (X0.struct Tryz.underlying30 (by kernel_rfl) (W17.cons 1 rfl (by kernel_rfl) X36 (X0.int Tryz.underlying3)
  (W17.cons 1 rfl (by kernel_rfl) K127 U132 (W17.cons 1 rfl (by kernel_rfl) K127 U132 W17.nil)))) (fun _=>rfl) (fun _ _ _ h=>⟨h.2.1,h.2.2.1⟩)
theorem D134:Y7 (fun H nx (x:Int × (Option Addr × Nat × List Int) × (Option Addr × Nat × List Int))=>(Sl H nx x.2.1.1 (U4 x.2.1.2.2)/\x.2.1.2.2.length<=reachBytes)/\Sl H nx x.2.2.1 (U4 x.2.2.2.2)/\x.2.2.2.2.length<=reachBytes):=
 fun _ _ _ _ _ h e=>⟨⟨h.1.1.ext e,h.1.2⟩,h.2.1.ext e,h.2.2⟩
theorem R142:X0 enc gQ W 22 (fun x:Option Addr × Nat × List ByteArray=>[.slice x.1 x.2.2.length x.2.1]) (fun H nx x=>Sl H nx x.1 (N0 x.2.2)/\x.2.2.length<=reachBytes/\Z19 H nx x):=
 X0.map id (X0.sliceG (f:=fun s:ByteArray=>[aB s]) Tryz.underlying22 (by kernel_rfl) (sz:=1) O0 (of_decide_eq_true (by kernel_rfl)) (fun _=>rfl) X56 (X0.string Tryz.underlying9)) (fun _=>rfl)
  (fun _ _ a h=>⟨by have:=h.1.1;rw[Y49] at this;exact this,h.1.2.2,h.2⟩)
theorem W139:Y7 (fun H nx (x:Option Addr × Nat × List ByteArray)=>Sl H nx x.1 (N0 x.2.2)/\x.2.2.length<=reachBytes/\Z19 H nx x):=fun _ _ _ _ _ h e=>⟨h.1.ext e,h.2.1,h.2.2.ext e⟩
theorem V142:X0 enc gQ W 44 (fun x:Option Addr × Nat × List Bool=>[.slice x.1 x.2.2.length x.2.1]) (fun H nx x=>Sl H nx x.1 (bls x.2.2)/\x.2.2.length<=reachBytes):=
 X0.map id (X0.slice (f:=fun b:Bool=>[dU b]) Tryz.underlying44 (by kernel_rfl) (sz:=1) O0 (of_decide_eq_true (by kernel_rfl)) (fun _=>rfl) X56 (X0.bool Tryz.underlying4)) (fun _=>rfl)
  (fun _ _ a h=>⟨by have:=h.1;rw[Y49] at this;exact this,h.2.2⟩)
theorem Y139:Y7 (fun H nx (x:Option Addr × Nat × List Bool)=>Sl H nx x.1 (bls x.2.2)/\x.2.2.length<=reachBytes):=fun _ _ _ _ _ h e=>⟨h.1.ext e,h.2⟩
theorem E145:X0 enc gQ W 47 C95 M138:=
 X0.map (fun(x:(Option Addr × Nat × List ByteArray) × Int × (Option Addr × Nat × List Bool) × (Int × (Option Addr × Nat × List Int) × (Option Addr × Nat × List Int)) × (Option Addr × Nat × List Int) × Int × Int × Unit)=>
   { VA:=x.1.1,vc:=x.1.2.1,vars:=x.1.2.2,free:=x.2.1,DA:=x.2.2.1.1,dc:=x.2.2.1.2.1,desc:=x.2.2.1.2.2,kind:=x.2.2.2.1.1,PA:=x.2.2.2.1.2.1.1,pc:=x.2.2.2.1.2.1.2.1,p:=x.2.2.2.1.2.1.2.2,WA:=x.2.2.2.1.2.2.1,wc:=x.2.2.2.1.2.2.2.1,w:=x.2.2.2.1.2.2.2.2,EA:=x.2.2.2.2.1.1,ec:=x.2.2.2.2.1.2.1,e:=x.2.2.2.2.1.2.2,num:=x.2.2.2.2.2.1,den:=x.2.2.2.2.2.2.1 })
  (X0.struct Tryz.underlying47 (by kernel_rfl) (W17.cons 1 rfl (by kernel_rfl) W139 R142 (W17.cons 1 rfl (by kernel_rfl) X36 (X0.int Tryz.underlying3) (W17.cons 1 rfl (by kernel_rfl) Y139 V142
   (W17.cons 3 rfl (by kernel_rfl) D134 B138 (W17.cons 1 rfl (by kernel_rfl) K127 U132 (W17.cons 1 rfl (by kernel_rfl) X36 (X0.int Tryz.underlying45) (W17.cons 1 rfl (by kernel_rfl) X36 (X0.int Tryz.underlying45) W17.nil)))))))) (fun _=>rfl)
  (fun _ _ x h=>by
   obtain⟨⟨v1,v2,v3⟩,_,⟨d1,d2⟩,⟨⟨p1,p2⟩,w1,w2⟩,⟨e1,e2⟩,n1,n2,_⟩:=h;have hR:reachBytes=140737488351232:=rfl;exact { vars:=v1,varsW:=v3.1,vcap:=v3.2,desc:=d1,p:=p1,w:=w1,e:=e1,lens:=⟨by show x.1.2.2.length<_;omega,by show x.2.2.1.2.2.length<_;omega,by show x.2.2.2.1.2.1.2.2.length<_;omega,by show x.2.2.2.1.2.2.2.2.length<_;omega,by show x.2.2.2.2.1.2.2.length<_;omega⟩,num:=bounds_i8 n1,den:=bounds_i8 n2 })
theorem K141:Y7 M138:=fun _ _ _ _ _ h e=>⟨h.vars.ext e,h.varsW.sub e.subN e.le,h.vcap,h.desc.ext e,h.p.ext e,h.w.ext e,h.e.ext e,h.lens,h.num,h.den⟩
end
theorem D64{X:Type}{enc:TypeId × Value->X}{fn:Func}{s:ChangeSpec}{W W':World}{args:Array Value}{ds gs:List (DataW X)}{B p:List MemPlace}(hW:DataW.Whole enc gQ fn.params.toList s.vars false W args.toList ds gs B)(hv:s.vars=[])(L:(s.fn X (ds++gs)).results=[.lit (.bool true)])(E:(s.fn X (ds++gs)).vars=[])(J:(s.fn X (ds++gs)).args=ds)(O:fn.resultTypes = #[4])(M:∀ t ∈ fn.params.toList,gQ.readableRec t=true/\t<gQ.types.size)(hb:Below W.heap.size W W')(hA:hU enc gQ W 0 (fun _=>true) true fn.params.toList args.toList ds p)(hp:∀ x ∈ p,x ∈ B):
  s.post enc gQ fn false true false false W args (.bool true) W':=by
 refine J41 (pa:=p) (pv:=[]) hW hb (fun _ _ _ => ?_) ?_ ?_
 .rw[L,O]
  exact trodAll_cons_mk (shut_bool Tryz.underlying4 _) trodAll_mk0
 .rw[J]
  exact N24 V68 hb _ _ _ _ M hA fun x hx=>hW.lt x (hp x hx)
 .rw[hv,E];rfl
theorem Q69(os:Os):(World.laidAll gQ os B123).Shaped gQ:=World.shaped_of_ZipB (by kernel_rfl) (by kernel_rfl)
theorem met(os:Os)(args:Array Value):laidMetH gQ B123 ((World.laidAll gQ os B123).forCall (fun _ _=>0) ⟨#[],args,[]⟩).memory:=by
 rw[MakeChecks.laidMetH_plain _ _ _ (by kernel_rfl)];exact laidMet_laidAll _ (by kernel_rfl) (by kernel_rfl)
namespace explainParts
theorem lifted(os:Os)(E:os.Started)(H:Type)(enc:TypeId × Value->H):
  ReturnsInHanded {} Tryz.checked os 4 .any (fun w args=>(Rows.explainPartsSpec.pre enc gQ Tryz.f4 Rows.explainPartsRow.domain false w args/\laidMetH gQ B123 w)/\sizedMet enc gQ Tryz.f4 (gP Rows.explainPartsSpec) false w args)
   (Rows.explainPartsSpec.post enc gQ Tryz.f4 false true false false):=by
 refine returnsInHanded_of_change_and (C:=Tryz.checked) (X:=fun w _=>laidMetH gQ B123 w) (fun _ _ _ hh h=>h.of_heap hh) own E (by kernel_rfl) Tryz.func4
  (ChangeSpec.witness_shaped (enc:=enc) (C:=Tryz.checked) (os:=os) (X:=fun w _=>laidMetH gQ B123 w) false (World.laidAll gQ os B123) #[.agg #[O6,O8 0,.string ⟨#[]⟩,O6,O6],O6] 8 (World.laidAll_os _ _ _)
   (Q69 os) (by kernel_rfl) (by kernel_rfl) (by kernel_rfl) (met os _)) ?_
 intro W base args ds gs Y M hW _ J O _;have B:∀(j:Nat) t v,Tryz.f4.params[j]? = some t->args[j]? = some v->Value.okWide gQ W .any base t v:=M;have a9:=hW;obtain⟨p,q,a3,hV,rfl,_,_⟩:=hW;have hA:hU enc gQ W 0 (fun _=>true) true Tryz.f4.params.toList args.toList ds p:=a3;have U:=hA;rw[Tryz.params4] at hA B;obtain⟨v0,ah,d0,ag,p0,q0,aa,rfl,rfl,h0,r0⟩:=trodAll_cons hA;obtain⟨v1,af,d1,ai,p1,q1,rfl,rfl,rfl,h1,r1⟩:=trodAll_cons r0;obtain⟨rfl,rfl,rfl⟩:=trodAll_nil r1;obtain rfl:args = #[v0,v1]:=by cases args;simp_all
 obtain⟨rfl,rfl⟩:=trodVars_none hV;have a4:(DataW.weightsEach gQ [26,40] [d0,d1]).all (· <= reachBytes)=true:=by
  rw[Tryz.params4] at J;exact J
 have L:=iE.1 a4;have hR:reachBytes=140737488351232:=rfl;obtain⟨F1,H1,ad,Q,Z,ab,ae,a2,hQ,hL,hN⟩:=U139 (In.start W (B48 O)) (B 0 26 v0 rfl rfl) h0 fun k hk=>by simpa using L k (eF (j:=0) rfl rfl k hk)
 obtain⟨F2,H2,nx2,⟨LA,lc,az⟩,a6,R,a1,a5,hS,hP,V⟩:=X0.one Tryz.underlying40 (X0.slice Tryz.underlying40 (by kernel_rfl) O0 (of_decide_eq_true (by kernel_rfl)) V135 K141 E145) Z (B 1 40 v1 rfl rfl) h1
  fun k hk=>by simpa using L k (eF (j:=1) rfl rfl k hk)
 have a7:az.length<=reachBytes:=V;have a8:VL F2 [.agg ⟨Z16 Q⟩,.slice LA az.length lc] [v0,v1] := .cons (a2.mono R) a5;have a0:X126 Q:=fun r hr=>⟨fun a ha t ht=>bounds_i64 ((hN r hr).1 a ha t ht),fun c hc=>bounds_i64 ((hN r hr).2 c hc)⟩
 refine(Y46 (N29 Q LA lc az H2 nx2 (hQ.ext a1) hL a0 hS hP O0) (fun _ _ _ h=>h.1.symm) a6 a8).mono fun e W' ⟨he,hb⟩ => ?_
 subst he;refine⟨_,rfl,D64 a9 rfl rfl rfl rfl (by kernel_rfl) ?_ hb U fun x hx=>dX _ hx⟩;rw[Tryz.params4];intro t ht;simp only[aU,List.not_mem_nil,or_false] at ht;rcases ht with rfl | rfl<;>exact⟨by kernel_rfl,of_decide_eq_true (by kernel_rfl)⟩
theorem over:Rows.explainPartsRow.holds Tryz.pinned (gP Rows.explainPartsSpec):=
 OpenClaim.holds_of_wide 4 Tryz.f4 rfl rfl rfl rfl rfl rfl rfl ⟨rfl,rfl,rfl,rfl,rfl⟩ rfl rfl rfl rfl rfl (by kernel_rfl) Tryz.func4 (by kernel_rfl)
  (of_decide_eq_true (by kernel_rfl)) (by unfold Func.isWrapper;first | (rw[if_pos (by decide +kernel)];kernel_rfl) | (rw[if_neg (by decide +kernel)];exact⟨rfl,rfl⟩))
  (fun os B H enc _=>lifted os B H enc)
theorem proved:Rows.ExplainPartsCardSaid:=
 Claim7.holds_tied_plain_at .later [] [.data, .data, .data, .data, .pinned] true (true, "9ab459e8f5ee4e6c054310dc6aca4bd7871d2ca6b66256096dc8718e47b619e6") false over (fun _ h => by cases h) (by kernel_rfl) (fun _ h => by cases h) explainParts_row_tie rfl ⟨rfl, rfl⟩ (by kernel_rfl) rfl
  (fun f fn hf E=>by
   obtain rfl:f=4:=fA ((show gQ.funcNamed Rows.explainPartsRow.func=some 4 by kernel_rfl).symm.trans hf) |>.symm;obtain rfl:fn=Tryz.f4:=(fA (Tryz.func4.symm.trans E)).symm;exact⟨by kernel_rfl,fun j t ht=>by
    rw[Tryz.params4] at ht;have hm:t ∈ [26,40]:=by simpa using Array.mem_of_getElem? ht
    have B:([26,40].all fun u => !gQ.wantsStandIn u)=true:=by kernel_rfl
    exact (show gQ.wantsStandIn t=false by simpa using iE.1 B t hm)⟩)
  (by kernel_rfl)
end explainParts
end
end Go.Proofs.YthbdeaeghipliaaGreatDoor
