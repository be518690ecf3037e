/-
  The executor as a claim: groups in a region that draws;code with its joins marked;what such a claim says.
  The executor as a claim: what the claim of a function's code says of its calls.
  The executor as a claim: what each operation asks,value by value.
  The executor as a claim: rules for proofs.
  The executor as a claim: sets of vertices as numbers.
  The executor as a claim: slices that read as lists.
  The executor as a claim: append to a slice that the function has made.
-/
import Derived.Test.YtoiioigihocgbaaGreatDoorD4
set_option maxHeartbeats 8000000
set_option maxRecDepth 100000
set_option linter.all false
noncomputable section
open BitVec renaming ofInt->cT,toNat_ofNat->eP
open Bool renaming and_eq_true->aG,eq_iff_iff->eX,not_eq_true'->cJ
open Go.Instr renaming findNow->dP
open Go.IntKind renaming bits->dW,signed->eK,u32->eW,wrap->eY
open Go.Value renaming int->cD
open Int renaming eq_ofNat_of_zero_le->fI
open List renaming all_eq_true->bW,any_eq_true->dY,ext_getElem?->dH,getElem?_append_left->bQ,getElem?_append_right->bS,getElem?_drop->dB,getElem?_eq_getElem->aE,getElem?_eq_none->aT,getElem?_of_mem->cH,getElem?_take->aX,length_append->bH,mem_append->dN,mem_append_left->dX,mem_of_getElem?->aH
open Nat renaming add_assoc->eH,add_mul->dM,beq->bR,ble->dD,blt->dE,eq_of_beq_eq_true->bT,eq_of_testBit_eq->bZ,eq_zero_or_pos->cI,le_of_lt->eG,le_refl->aD,le_trans->bK,lt_of_le_of_lt->cE,lt_of_lt_of_le->aO,lt_or_ge->aW,mod_eq_of_lt->bV,pow_le_pow_right->aK,rec->fC,shiftRight_eq_div_pow->eO,testBit_and->bI,testBit_lt_two_pow->dV,zero_add->cF
open Option renaming elim_some->aN
open Option.some renaming injEq->aZ
namespace Go.Clo
section
variable {T:K0 Value} {d n:Nat}
abbrev DK(β:Type):=K0 Value->Y0->Nat->List Y0->List Nat->List (Nat × V3)->List Rd->β
section
variable {β:Type} {P:Program} {d:Nat} {call:Z3 β} {z:β} {ms:List Nat} {N:Nat}
def X42(P:Program)(d:Nat)(call:Z3 β)(ms:List Nat)(N:Nat)(z:β)(k:DK β)(dst:Option Nat)(op:I)(i:Nat):DK β:=fun T H nx Ms es as rs=>
 match op with
   | .p op=>X4 P op T z fun v=>E4 d dst v T fun T=>k T H nx Ms es as rs
   | .r op=>U13 ms N es i H (fun h=>M9 P op T h z fun v=>E4 d dst v T fun T'=>k T' H nx Ms es as (⟨i,op,T,v⟩ :: rs)) as
   | .a op=>evA op T z fun b y=>M2 (N+i) fun q=>M0 (y.val q) fun v=>E4 d dst v T fun T=>k T H nx Ms es ((i,b) :: as) rs
   | .e op=>cond (es.all fun e=>D2 ms i e)
    (U13 ms N es i H (fun h=>evE op call T h nx z fun v H' nx=>E4 d dst v T fun T=>k T H' nx (H :: Ms) (i :: es) as rs) as) z
theorem K23(k:DK β)(g:Option (Nat × Bool))(dst:Option Nat)(op:I)(l:List S)(i:Nat)(T:K0 Value)(H:Y0)(nx:Nat)(Ms:List Y0)(es:List Nat)(as:List (Nat × V3))(rs:List Rd):
  Z4 P d call ms N z k (⟨g,dst,op⟩ :: l) i T H nx Ms es as rs=V8 g T z (X42 P d call ms N z (Z4 P d call ms N z k l (i+1)) dst op i T H nx Ms es as rs)
   (E4 d dst undef T fun T=>Z4 P d call ms N z k l (i+1) T H nx Ms es as rs):=rfl
theorem G49(k k':DK β)(dst:Option Nat)(op:I)(i:Nat)(T:K0 Value)(H:Y0)(nx:Nat)(Ms:List Y0)(es:List Nat)(as:List (Nat × V3))(rs:List Rd)
  (h:∀ v H nx Ms es as rs,k (B30 d dst v T) H nx Ms es as rs=k' (B30 d dst v T) H nx Ms es as rs):X42 P d call ms N z k dst op i T H nx Ms es as rs=X42 P d call ms N z k' dst op i T H nx Ms es as rs:=by
 unfold X42
 cases op with
 | p op=>dsimp only;congr 1;funext v;rw[R46,R46,h]
 | r op=>dsimp only;congr 1;funext hh;congr 1;funext v;rw[R46,R46,h]
 | a op=>dsimp only;congr 1;funext b y;rw[G1,G1,Y5,Y5,R46,R46,h]
 | e op=>dsimp only;congr 1;congr 1;funext hh;congr 1;funext v H' nx';rw[R46,R46,h]
theorem Q47(g:Option (Nat × Bool))(k:DK β):∀(l:List S) (i:Nat) (T:K0 Value) (H:Y0) (nx:Nat) (Ms:List Y0) (es:List Nat) (as:List (Nat × V3)) (rs:List Rd),WF d T->okL d g l=true->Y9 g T=some true ->
  Z4 P d call ms N z k (l.map (Y8 g)) i T H nx Ms es as rs=Z4 P d call ms N z k l i T H nx Ms es as rs
 | [],i,T,H,nx,Ms,es,as,rs,_,_,_=>rfl
 | s :: l,i,T,H,nx,Ms,es,as,rs,hw,hok,hd=>by
  obtain⟨g0,dst,op⟩:=s;have E:g0=none:=X43 hok;subst E;show Z4 P d call ms N z k (⟨g,dst,op⟩ :: l.map (Y8 g)) i T H nx Ms es as rs=_;rw[K23,K23,X10,X10 none,hd,G39];exact G49 _ _ dst op i T H nx Ms es as rs fun v H nx Ms es as rs=>Q47 g k l (i+1) _ H nx Ms es as rs (K28 hw) (J23 hok) ((V21 hw hok).trans hd)
theorem N49(g:Option (Nat × Bool))(k:DK β):∀(l:List S) (i:Nat) (T:K0 Value) (H:Y0) (nx:Nat) (Ms:List Y0) (es:List Nat) (as:List (Nat × V3)) (rs:List Rd),WF d T->okL d g l=true->Y9 g T=some false ->
  Z4 P d call ms N z k (l.map (Y8 g)) i T H nx Ms es as rs=Y15 d (fun T=>k T H nx Ms es as rs) l T
 | [],i,T,H,nx,Ms,es,as,rs,_,_,_=>rfl
 | s :: l,i,T,H,nx,Ms,es,as,rs,hw,hok,hd=>by
  obtain⟨g0,dst,op⟩:=s;show Z4 P d call ms N z k (⟨g,dst,op⟩ :: l.map (Y8 g)) i T H nx Ms es as rs=_;rw[K23,X10,hd];simp only[Y15];rw[R46,R46];exact N49 g k l (i+1) _ H nx Ms es as rs (K28 hw) (J23 hok) ((V21 (s:=⟨g0,dst,op⟩) hw hok).trans hd)
end
def G16(P:Program)(d:Nat)(ms:List Nat)(N:Nat)(k:DK Prop):List G->HT->Nat->DK Prop
 | [],_,_,T,H,nx,Ms,es,as,rs=>k T H nx Ms es as rs
 | (g,l) :: gs,ht,i,T,H,nx,Ms,es,as,rs=>match ht with
  | .nil=>False
  | .one r=>V8 g T False
   (Z4 P d (M8 P) ms N False (fun T H nx Ms es as rs=>G16 P d ms N k gs r (i+l.length) T H nx Ms es as rs) l i T H nx Ms es as rs)
   (Y15 d (fun T=>G16 P d ms N k gs r (i+l.length) T H nx Ms es as rs) l T)
  | .tst y n=>G54 d g T
   (fun T=>Z4 P d (M8 P) ms N False (fun T H nx Ms es as rs=>G16 P d ms N k gs y (i+l.length) T H nx Ms es as rs) l i T H nx Ms es as rs)
   (fun T=>Y15 d (fun T=>G16 P d ms N k gs n (i+l.length) T H nx Ms es as rs) l T)
theorem U30{P:Program}{ms:List Nat}{N:Nat}{g:Option (Nat × Bool)}{l:List S}{i:Nat}{T:K0 Value}{H:Y0}{nx:Nat}{Ms:List Y0}{es:List Nat}{as:List (Nat × V3)}{rs:List Rd}{k:DK Prop}(hw:WF d T)(E:okL d g l=true)
  (h:(Y9 g T=some true/\Z4 P d (M8 P) ms N False k l i T H nx Ms es as rs)\/(Y9 g T=some false/\Y15 d (fun T=>k T H nx Ms es as rs) l T)):Z4 P d (M8 P) ms N False k (l.map (Y8 g)) i T H nx Ms es as rs:=by
 rcases h with ⟨hd,h⟩ | ⟨hd,h⟩
 .rw[Q47 g k l i T H nx Ms es as rs hw E hd];exact h
 .rw[N49 g k l i T H nx Ms es as rs hw E hd];exact h
theorem Z39{P:Program}{d n:Nat}{ops:List Oper}{N:Nat}{H0:Y0}{n0:Nat}{T0:K0 Value}(hn:n<=2^d)(k:DK Prop):
  ∀(gs:List G) (ht:HT) (suf:List Oper) (rc:List D3) (T:K0 Value),R3 P n ops suf=some (Q11 gs)->(∀ j,j<suf.length->suf[j]? = ops[rc.length+j]?)->okG d gs=true->B11 P d n ops N H0 n0 T0 rc->WF d T->(∀ t,t<n->(tg T t).getD undef=C10 ops T0 rc t) ->
  G16 P d (U1 ops) N k gs ht rc.length T (hR H0 rc) (nR n0 rc) (MsR H0 rc) (D1 rc) (B3 rc) (rsR rc) ->
  ∃ E T',E.length=rc.length+suf.length/\B11 P d n ops N H0 n0 T0 E/\WF d T'/\(∀ t,t<n->(tg T' t).getD undef=C10 ops T0 E t) /\
   k T' (hR H0 E) (nR n0 E) (MsR H0 E) (D1 E) (B3 E) (rsR E)
 | [],ht,suf,rc,T,hc,hsuf,hok,hall,hw,hT,h=>by
  cases suf with
  | nil=>exact⟨rc,T,rfl,hall,hw,hT,h⟩
  | cons o suf=>
   simp only[Q11,R3] at hc
   split at hc<;>simp at hc
 | (g,l) :: gs,ht,suf,rc,T,hc,hsuf,hok,hall,hw,hT,h=>by
  simp only[okG,aG] at hok;obtain⟨s1,s2,rfl,O,V⟩:=W19 hc;have a0:l.length=s1.length:=by have:=K18 O;simpa using this
  have W:∃ J,Z4 P d (M8 P) (U1 ops) N False (fun T H nx Ms es as rs=>G16 P d (U1 ops) N k gs J (rc.length+l.length) T H nx Ms es as rs) (l.map (Y8 g)) rc.length T (hR H0 rc) (nR n0 rc) (MsR H0 rc) (D1 rc) (B3 rc) (rsR rc):=by
   simp only[G16] at h
   cases ht with
   | nil=>exact h.elim
   | one r=>
    dsimp only at h;rw[X10] at h;refine⟨r,U30 hw hok.1.1.1 ?_⟩
    cases hd:Y9 g T with
    | none=>rw[hd] at h;exact h.elim
    | some b=>
     rw[hd] at h
     cases b with
     | true=>exact .inl ⟨rfl,h⟩
     | false=>exact .inr ⟨rfl,h⟩
   | tst y m=>
    dsimp only at h;rcases Q51 hw hok.2 h with ⟨hd,h⟩ | ⟨hd,h⟩
    .exact⟨y,U30 hw hok.1.1.1 (.inl ⟨hd,h⟩)⟩
    .exact⟨m,U30 hw hok.1.1.1 (.inr ⟨hd,h⟩)⟩
  obtain⟨J,h'⟩:=W;have U:∀ j,j<s1.length->s1[j]? = ops[rc.length+j]? := fun j hj=>by
   have:=hsuf j (by simp;omega);rw[bQ hj] at this;exact this
  rcases U32 (N:=N) (H0:=H0) (n0:=n0) (T0:=T0) (X48 P) hn False _ s1 _ rc T O U hall hw hT with h1 | ⟨rc1,T1,hlen,hall1,hw1,hT1,h1⟩
  .rw[h1] at h';exact h'.elim
  .rw[h1] at h'
   have Z:∀ j,j<s2.length->s2[j]? = ops[rc1.length+j]? := fun j hj=>by
    have:=hsuf (s1.length+j) (by simp;omega);rw[bS (by omega)] at this;rw[hlen];simpa [eH] using this
   rw[a0,<- hlen] at h';obtain⟨Q,T2,g1,g2,g3,g4,g5⟩:=Z39 hn k gs J s2 rc1 T1 V Z hok.1.2 hall1 hw1 hT1 h';exact⟨Q,T2,by simp;omega,g2,g3,g4,g5⟩
inductive D where
 | skip
 | ops (gs:List G) (ht:HT)
 | draw (ms:List Nat) (gs:List G) (ht:HT)
 | seq (a b:D)
 | join (ws ds:List Nat) (a b:D)
 | cond (x:X) (t e:D)
 | block (id:Nat) (c:D)
 | loop (ws ds:List Nat) (c:D)
 | exit (id:Nat)
 | ret
def D.erase:D->C
 | .skip => .skip
 | .ops gs _ => .ops (Q11 gs)
 | .draw ms gs _ => .draw ms (Q11 gs)
 | .seq a b => .seq a.erase b.erase
 | .join _ _ a b => .seq a.erase b.erase
 | .cond x t e => .cond x t.erase e.erase
 | .block id c => .block id c.erase
 | .loop _ _ c => .loop c.erase
 | .exit id => .exit id
 | .ret => .ret
def D.writes:D->List Nat
 | .ops gs _=>X28 gs
 | .draw _ gs _=>X28 gs
 | .seq a b=>a.writes++b.writes
 | .join ws ds a b=>a.writes++((ws++ds)++b.writes)
 | .cond _ t e=>t.writes++e.writes
 | .block _ c=>c.writes
 | .loop ws ds c=>(ws++ds)++c.writes
 | _=>[]
def K54(a b:List Nat):Bool:=a.all fun x=>b.any fun y=>bR x y
def Y56(n:Nat)(l:List Nat):Bool:=l.all fun x=>dE x n
def X19:List Nat->Bool
 | []=>true
 | x :: l => !(l.any fun y=>bR x y)&&X19 l
def D.ok(n d:Nat):D->Bool
 | .ops gs _=>okG d gs
 | .draw _ gs _=>okG d gs
 | .seq a b=>a.ok n d&&b.ok n d
 | .join ws ds a b=>K54 a.writes (ws++ds)&&Y56 n (ws++ds)&&X19 ws&&a.ok n d&&b.ok n d
 | .cond _ t e=>t.ok n d&&e.ok n d
 | .block _ c=>c.ok n d
 | .loop ws ds c=>K54 c.writes (ws++ds)&&Y56 n (ws++ds)&&X19 ws&&c.ok n d
 | _=>true
abbrev JK:=List Value->Y0->Nat->Prop
def W21{β:Type}(T:K0 Value)(ws:List Nat):(List Value->β)->β:=
 @List.rec Nat (fun _=>(List Value->β)->β) (fun k=>k []) (fun w _ ih k=>tgK T w (ih fun vs=>k (undef :: vs)) fun v=>ih fun vs=>k (v :: vs)) ws
def W23{β:Type}(d:Nat)(L:List Value):List Nat->Nat->K0 Value->(K0 Value->β)->β
 | [],_,T,k=>k T
 | w :: ws,i,T,k=>tsK d T w (L.getD i undef) fun T=>W23 d L ws (i+1) T k
def Q23{β:Type}(d:Nat):List Nat->K0 Value->(K0 Value->β)->β
 | [],T,k=>k T
 | w :: ws,T,k=>tsK d T w C34 fun T=>Q23 d ws T k
def V4(body:JK->Prop)(rest:JK):Prop:=body rest
def Q33(F:JK->JK)(m:Nat):JK:=@fC (fun _=>JK) (fun _ _ _=>False) (fun _ ih=>F ih) m
def G3(F:JK->JK)(L:List Value)(H:Y0)(nx:Nat):Prop:=∃ m,Q33 F m L H nx
def K2(v:Value)(t e:Prop):Prop:=
 match v with
 | .bool b=>ifK b t e
 | _=>False
def wD(P:Program)(d:Nat)(c:D):K0 Value->Y0->Nat->K Prop->(Nat->K Prop)->K Prop->Prop:=
 match c with
 | .skip=>fun T H nx k _ _=>k T H nx
 | .ops gs ht=>fun T H nx k _ _=>Q17 P d k gs ht T H nx
 | .draw ms gs ht=>fun T H nx k _ _=>M2 (nx+(Q11 gs).length) fun nx'=>
   G16 P d ms nx (fun T H n Ms es as rs=>W62 P ms nx as rs es Ms H (Z13 ms nx es H (fun H=>k T H n) as) False) gs ht 0 T H nx' [] [] [] []
 | .seq a b=>fun T H nx k x r=>wD P d a T H nx (fun T H nx=>wD P d b T H nx k x r) x r
 | .join ws ds a b=>fun T H nx k x r=>V4 (fun j=>wD P d a T H nx (fun T H nx=>W21 T ws fun L=>j L H nx) x r)
   (fun L H nx=>Q23 d ds T fun T=>W23 d L ws 0 T fun T=>wD P d b T H nx k x r)
 | .cond c t e=>fun T H nx k x r=>W4 T c fun v=>K2 v (wD P d t T H nx k x r) (wD P d e T H nx k x r)
 | .block id c=>fun T H nx k x r=>wD P d c T H nx k (fun E T H nx=>cond (bR E id) (k T H nx) (x E T H nx)) r
 | .loop ws ds c=>fun T H nx _ x r=>W21 T ws fun L=>G3 (fun ih L H nx=>Q23 d ds T fun T=>W23 d L ws 0 T fun T=>wD P d c T H nx (fun T H nx=>W21 T ws fun L=>ih L H nx) x r) L H nx
 | .exit id=>fun T H nx _ x _=>x id T H nx
 | .ret=>fun T H nx _ _ r=>r T H nx
def slots(T:K0 Value)(ws:List Nat):List Value:=ws.map fun w=>(tg T w).getD undef
theorem D18{β:Type}(T:K0 Value):∀(ws:List Nat) (k:List Value->β),W21 T ws k=k (slots T ws)
 | [],k=>rfl
 | w :: ws,k=>by
  show tgK T w (W21 T ws fun vs=>k (undef :: vs)) (fun v=>W21 T ws fun vs=>k (v :: vs))=_;rw[J11]
  cases h:tg T w with
  | none=>simp only[Option.elim_none];rw[D18 T ws];simp[slots,h]
  | some v=>simp only[aN];rw[D18 T ws];simp[slots,h]
def M21(d:Nat)(L:List Value):List Nat->Nat->K0 Value->K0 Value
 | [],_,T=>T
 | w :: ws,i,T=>M21 d L ws (i+1) (ts d T w (L.getD i undef))
theorem Q31{β:Type}(d:Nat)(L:List Value):∀(ws:List Nat) (i:Nat) (T:K0 Value) (k:K0 Value->β),W23 d L ws i T k=k (M21 d L ws i T)
 | [],_,_,_=>rfl
 | w :: ws,i,T,k=>by simp only[W23,M21];rw[Z15];exact Q31 d L ws _ _ k
def J16(d:Nat):List Nat->K0 Value->K0 Value
 | [],T=>T
 | w :: ws,T=>J16 d ws (ts d T w C34)
theorem G30{β:Type}(d:Nat):∀(ws:List Nat) (T:K0 Value) (k:K0 Value->β),Q23 d ws T k=k (J16 d ws T)
 | [],_,_=>rfl
 | w :: ws,T,k=>by simp only[Q23,J16];rw[Z15];exact G30 d ws _ k
theorem U28{d:Nat}{L:List Value}:∀ {ws:List Nat} {i:Nat} {T:K0 Value},WF d T->WF d (M21 d L ws i T)
 | [],_,_,h=>h
 | w :: ws,i,T,h=>U28 (ws:=ws) (U16 d T w _ h)
theorem M15{d:Nat}:∀ {ws:List Nat} {T:K0 Value},WF d T->WF d (J16 d ws T)
 | [],_,h=>h
 | w :: ws,T,h=>M15 (ws:=ws) (U16 d T w _ h)
theorem E25{d n:Nat}(hn:n<=2^d):∀ {ws:List Nat} {T:K0 Value},WF d T->(∀ w ∈ ws,w<n)->∀ j,j<n->(tg (J16 d ws T) j).getD undef=if j ∈ ws then C34 else(tg T j).getD undef
 | [],T,_,_,j,_=>by simp[J16]
 | w :: ws,T,hw,hl,j,hj=>by
  have E:w<n:=hl w (by simp);simp only[J16];rw[E25 hn (U16 d T w _ hw) (fun x hx=>hl x (by simp[hx])) j hj]
  by_cases h1:j ∈ ws
  .simp[h1]
  .rw[if_neg h1,K21 d T w j _ hw (by omega) (by omega)]
   by_cases h2:j=w
   .simp[h2]
   .simp[h1,h2]
theorem M30{d n:Nat}(hn:n<=2^d){L:List Value}:∀ {ws:List Nat} {i:Nat} {T:K0 Value},WF d T->(∀ w ∈ ws,w<n)->X19 ws=true->∀ j,j<n ->
  (j ∉ ws->(tg (M21 d L ws i T) j).getD undef=(tg T j).getD undef)/\(∀ q,ws[q]? = some j->(tg (M21 d L ws i T) j).getD undef=L.getD (i+q) undef)
 | [],i,T,_,_,_,j,_=>⟨fun _=>rfl,fun q h=>by simp at h⟩
 | w :: ws,i,T,hw,hl,hnd,j,hj=>by
  have O:w<n:=hl w (by simp);simp only[X19,aG] at hnd;have J:w ∉ ws:=by
   intro h;have:=hnd.1;simp at this;exact this w h rfl
  obtain⟨h1,h2⟩:=M30 hn (L:=L) (ws:=ws) (i:=i+1) (U16 d T w (L.getD i undef) hw) (fun x hx=>hl x (by simp[hx])) hnd.2 j hj;simp only[M21];refine⟨fun E => ?_,fun q hq => ?_⟩
  .simp at E
   rw[h1 E.2,K21 d T w j _ hw (by omega) (by omega),if_neg E.1]
  .cases q with
   | zero=>
    simp at hq;subst hq;rw[h1 J,K21 d T w w _ hw (by omega) (by omega),if_pos rfl];simp
   | succ q=>
    rw[h2 q (by simpa using hq)];congr 1;omega
theorem TR.join{F:FM}{T':K0 Value}{tmps:Array Value}{ws ds W:List Nat}(hn:n<=2^d)(J:WF d T)(ht:TR d F T' n tmps)(ha:U8 n W T T')(hs:∀ j ∈ W,j ∈ ws++ds)(hl:∀ j ∈ ws++ds,j<n)(V:X19 ws=true):
  TR d F (M21 d (slots T' ws) ws 0 (J16 d ds T)) n tmps:=by
 have Q:∀ w ∈ ws,w<n:=fun w h=>hl w (dX _ h)
 have U:∀ w ∈ ds,w<n:=fun w h=>hl w (List.mem_append_right _ h)
 refine⟨U28 (M15 J),ht.size,ht.le,fun j hj => ?_⟩;obtain⟨h1,h2⟩:=M30 hn (L:=slots T' ws) (ws:=ws) (i:=0) (M15 (ws:=ds) J) Q V j hj
 by_cases E:j ∈ ws
 .obtain⟨q,hq⟩:=cH E
  rw[h2 q hq];have:(slots T' ws).getD (0+q) undef=(tg T' j).getD undef:=by simp[slots,hq]
  rw[this];exact ht.get j hj
 .rw[h1 E,E25 hn J U j hj]
  by_cases O:j ∈ ds
  .rw[if_pos O];exact .any _
  .rw[if_neg O,<- ha j hj (fun h=>(dN.1 (hs j h)).elim E O)]
   exact ht.get j hj
theorem Y24{L:List Value}{ws ds:List Nat}(hn:n<=2^d)(J:WF d T)(hl:∀ j ∈ ws++ds,j<n)(O:X19 ws=true):U8 n (ws++ds) T (M21 d L ws 0 (J16 d ds T)):=by
 intro j hj E;rw[dN] at E;obtain⟨h1,_⟩:=M30 hn (L:=L) (ws:=ws) (i:=0) (M15 (ws:=ds) J) (fun w h=>hl w (dX _ h)) O j hj;rw[h1 (fun h=>E (.inl h)),E25 hn J (fun w h=>hl w (List.mem_append_right _ h)) j hj,if_neg (fun h=>E (.inr h))]
theorem V48{a b:List Nat}(h:K54 a b=true):∀ j ∈ a,j ∈ b:=by
 intro j hj;unfold K54 at h;have:=bW.1 h j hj;obtain⟨y,hy,he⟩:=dY.1 this;rw[bT he];exact hy
theorem X39{a:List Nat}(h:Y56 n a=true):∀ j ∈ a,j<n:=by
 intro j hj;have:=bW.1 h j hj;simpa using this
end
theorem R29:∀(gs:List G),Q10 (Q11 gs)=X28 gs
 | []=>rfl
 | (g,l) :: gs=>by
  have app:∀(a b:List S),Q10 (a++b)=Q10 a++Q10 b:=by
   intro a b
   induction a with
   | nil=>rfl
   | cons s a ih=>simp[Q10,ih]
  have mp:∀(a:List S),Q10 (a.map (Y8 g))=Q10 a:=by
   intro a
   induction a with
   | nil=>rfl
   | cons s a ih=>simp[Q10,ih,Y8]
  simp only[Q11,X28];rw[app,mp,R29 gs]
section
variable {P:Program} {d n:Nat}
theorem W45(hm:P.follows .mixedOrders=true)(hn:n<=2^d):∀(G6:Code) (c:D),R18 P n G6=some c.erase->c.ok n d=true->∀(T:K0 Value) (H:Y0) (nx:Nat) (k:K Prop) (x:Nat->K Prop) (r:K Prop),WF d T->wD P d c T H nx k x r ->
  ∃ o T' H' nx',Ox.go k x r o T' H' nx'/\WF d T'/\U8 n c.writes T T'/\R47 P d n G6 T H nx o T' H' nx':=by
 intro G6
 induction G6 with
 | skip=>
  intro c hc Z T H nx k x r hw hk;simp only[R18,aZ] at hc
  cases c<;>simp[D.erase] at hc
  exact⟨.n,T,H,nx,hk,hw,U8.refl _ _ _,fun F a w Q ht hr hk=>wp_skip (hk F a w ht (N2.refl hr) rfl)⟩
 | label l=>
  intro c hc Z T H nx k x r hw hk;simp only[R18,aZ] at hc
  cases c<;>simp[D.erase] at hc
  exact⟨.n,T,H,nx,hk,hw,U8.refl _ _ _,fun F a w Q ht hr hk=>wp_label (hk F a w ht (N2.refl hr) rfl)⟩
 | exit id=>
  intro c hc Z T H nx k x r hw hk;simp only[R18,aZ] at hc
  cases c<;>simp[D.erase] at hc
  subst hc;exact⟨.x id,T,H,nx,hk,hw,U8.refl _ _ _,fun F a w Q ht hr hk=>wp_exit (hk F a w ht (N2.refl hr) rfl)⟩
 | ret=>
  intro c hc Z T H nx k x r hw hk;simp only[R18,aZ] at hc
  cases c<;>simp[D.erase] at hc
  exact⟨.r,T,H,nx,hk,hw,U8.refl _ _ _,fun F a w Q ht hr hk=>wp_ret (hk F a w ht (N2.refl hr) rfl)⟩
 | goto l=>intro c hc;simp[R18] at hc
 | refuse au=>intro c hc;simp[R18] at hc
 | rangeFunc f ps as b _ _=>intro c hc;simp[R18] at hc
 | region id ops draw=>
  intro c hc Z T H nx k x r hw hk;simp only[R18] at hc
  cases hl:R3 P n ops.toList ops.toList with
  | none=>simp[hl] at hc
  | some l=>
   simp only[hl] at hc
   cases draw with
   | false=>
    simp only[aZ] at hc
    cases c<;>simp[D.erase] at hc
    rename_i gs a7;subst hc;obtain⟨T',H',nx',aq,ag,ap,hp⟩:=D33 (d:=d) hn k gs a7 ops.toList 0 hl (fun j _=>by simp) Z T H nx hw hk;refine⟨.n,T',H',nx',aq,ag,ap,fun F a w Q ht hr hk=>wp_region ?_⟩;have:=hp F a w Q ht hr hk;simpa [List.range_eq_range'] using this
   | true=>
    cases hs:E13 (U1 ops.toList) ops.toList ops.toList 0 with
    | false=>simp[hs] at hc
    | true=>
     simp only[hs,cond_true,aZ] at hc
     cases c<;>simp[D.erase] at hc
     rename_i ms gs a7;obtain⟨rfl,rfl⟩:=hc;simp only[wD] at hk;rw[G1,K18 hl] at hk;obtain⟨rc,T',h1,ak,ag,ai,h5⟩:=Z39 (N:=nx) (H0:=H) (n0:=nx+ops.toList.length) (T0:=T) hn _ gs a7 ops.toList [] T hl (by simp) Z trivial hw (fun t _=>rfl) hk;rcases M66 P d n ops.toList nx H rc (Z13 (U1 ops.toList) nx (D1 rc) (hR H rc) (fun H=>k T' H (nR (nx+ops.toList.length) rc)) (B3 rc)) False with h | ⟨h,hrs⟩
     .rw[h] at h5;exact h5.elim
     .rw[h,N23] at h5
      refine⟨.n,T',_,_,h5,ag,?_,fun F a w Q ht hr hk => ?_⟩
      .have hv:U8 n (Q10 (Q11 gs)) T T':=fun j hj ah=>by rw[ai j hj];exact C24 (N21 hl) ah
       rw[R29] at hv;exact hv
      .have:=N38 hm hs hn (by simpa using h1) ak ag ai hrs id F a w Q ht hr hk
       simpa using this
 | seq a b a1 ab=>
  intro c hc Z T H nx k x r hw hk;simp only[R18] at hc
  cases ha:R18 P n a with
  | none=>simp[ha] at hc
  | some ca=>cases hb:R18 P n b with
   | none=>simp[ha,hb] at hc
   | some cb=>
    simp only[ha,hb,aZ] at hc
    cases c<;>simp only[D.erase,C.seq.injEq,reduceCtorEq] at hc
    .rename_i da db
     obtain⟨rfl,rfl⟩:=hc;simp only[D.ok,aG] at Z;obtain⟨o,T1,H1,V,h,a0,W,E⟩:=a1 da ha Z.1 T H nx (fun T H nx=>wD P d db T H nx k x r) x r hw hk
     cases o with
     | n=>
      obtain⟨o2,T2,H2,nx2,h2,a8,aa,a5⟩:=ab db hb Z.2 T1 H1 V k x r a0 h;refine⟨o2,T2,H2,nx2,h2,a8,W.trans aa,fun F ac w Q ht hr hk=>wp_seq (E F ac w _ ht hr fun F' a' w' O J U => ?_)⟩;exact a5 F' a' w' Q O J.hr fun F2 a2 w2 a9 a3 a4=>hk F2 a2 w2 a9 (J.trans a3) (a4.trans U)
     | x id=>exact⟨.x id,T1,H1,V,h,a0,W.mono (fun j hj=>dX _ hj),fun F ac w Q ht hr hk=>wp_seq (E F ac w _ ht hr fun F' a' w' O J U=>hk F' a' w' O J U)⟩
     | r=>exact⟨.r,T1,H1,V,h,a0,W.mono (fun j hj=>dX _ hj),fun F ac w Q ht hr hk=>wp_seq (E F ac w _ ht hr fun F' a' w' O J U=>hk F' a' w' O J U)⟩
    .rename_i ws ds da db
     obtain⟨rfl,rfl⟩:=hc;simp only[D.ok,aG] at Z;obtain⟨⟨⟨⟨q1,q2⟩,q3⟩,q4⟩,q5⟩:=Z;have hl:=X39 q2;obtain⟨o,T1,H1,V,h,a0,W,E⟩:=a1 da ha q4 T H nx (fun T1 H nx=>W21 T1 ws fun L=>Q23 d ds T fun T=>W23 d L ws 0 T fun T=>wD P d db T H nx k x r) x r hw hk
     cases o with
     | n=>
      simp only[Ox.go] at h;rw[D18,G30,Q31] at h;obtain⟨o2,T2,H2,nx2,h2,a8,aa,a5⟩:=ab db hb q5 _ H1 V k x r (U28 (M15 hw)) h;refine⟨o2,T2,H2,nx2,h2,a8,?_,fun F ac w Q ht hr hk=>wp_seq (E F ac w _ ht hr fun F' a' w' O J U => ?_)⟩
      .exact((Y24 hn hw hl q3).trans aa).mono fun j hj=>List.mem_append_right _ hj
      .exact a5 F' a' w' Q (TR.join hn hw O W (V48 q1) hl q3) J.hr fun F2 a2 w2 a9 a3 a4=>hk F2 a2 w2 a9 (J.trans a3) (a4.trans U)
     | x id=>exact⟨.x id,T1,H1,V,h,a0,W.mono (fun j hj=>dX _ hj),fun F ac w Q ht hr hk=>wp_seq (E F ac w _ ht hr fun F' a' w' O J U=>hk F' a' w' O J U)⟩
     | r=>exact⟨.r,T1,H1,V,h,a0,W.mono (fun j hj=>dX _ hj),fun F ac w Q ht hr hk=>wp_seq (E F ac w _ ht hr fun F' a' w' O J U=>hk F' a' w' O J U)⟩
 | cond v a b a1 ab=>
  intro c hc Z T H nx k x r hw hk;simp only[R18] at hc
  cases hv:W13 n v with
  | none=>simp[hv] at hc
  | some cv=>cases ha:R18 P n a with
   | none=>simp[hv,ha] at hc
   | some ca=>cases hb:R18 P n b with
    | none=>simp[hv,ha,hb] at hc
    | some cb=>
     simp only[hv,ha,hb,aZ] at hc
     cases c<;>simp only[D.erase,C.cond.injEq,reduceCtorEq] at hc
     rename_i y da db;obtain⟨rfl,rfl,rfl⟩:=hc;simp only[D.ok,aG] at Z;simp only[wD] at hk;rw[G2] at hk;unfold K2 at hk
     split at hk
     .rename_i t al
      rw[E14] at hk;have aj:∀(F:FM) (ac:Act),TR d F T n ac.tmps->ac.eval v = .bool t:=fun F ac ht=>by
       have:=ht.evX hv;rw[al] at this;exact this.bool_inv
      cases t with
      | true=>
       obtain⟨o,T1,H1,V,h,a0,W,E⟩:=a1 da ha Z.1 T H nx k x r hw (by simpa using hk);exact⟨o,T1,H1,V,h,a0,W.mono (fun j hj=>dX _ hj),fun F ac w Q ht hr hk=>wp_cond_true (aj F ac ht) (E F ac w Q ht hr hk)⟩
      | false=>
       obtain⟨o,T1,H1,V,h,a0,W,E⟩:=ab db hb Z.2 T H nx k x r hw (by simpa using hk);exact⟨o,T1,H1,V,h,a0,W.mono (fun j hj=>List.mem_append_right _ hj),fun F ac w Q ht hr hk=>wp_cond_false (aj F ac ht) (E F ac w Q ht hr hk)⟩
     .exact hk.elim
 | block id a a1=>
  intro c hc Z T H nx k x r hw hk;simp only[R18] at hc
  cases ha:R18 P n a with
  | none=>simp[ha] at hc
  | some ca=>
   simp only[ha,Option.map_some,aZ] at hc
   cases c<;>simp only[D.erase,C.block.injEq,reduceCtorEq] at hc
   rename_i av da;obtain⟨rfl,rfl⟩:=hc;obtain⟨o,T1,H1,V,h,a0,W,E⟩:=a1 da ha Z T H nx k (fun a6 T H nx=>cond (bR a6 id) (k T H nx) (x a6 T H nx)) r hw hk
   cases o with
   | n=>exact⟨.n,T1,H1,V,h,a0,W,fun F ac w Q ht hr hk=>wp_block (E F ac w _ ht hr fun F' a' w' O J U=>hk F' a' w' O J U)⟩
   | r=>exact⟨.r,T1,H1,V,h,a0,W,fun F ac w Q ht hr hk=>wp_block (E F ac w _ ht hr fun F' a' w' O J U=>hk F' a' w' O J U)⟩
   | x a6=>
    simp only[Ox.go] at h
    cases ad:bR a6 id with
    | true=>
     have e:=bT ad;subst e;rw[ad] at h;refine⟨.n,T1,H1,V,h,a0,W,fun F ac w Q ht hr hk=>wp_block (E F ac w _ ht hr fun F' a' w' O J U => ?_)⟩;simp only[Ox.exit,Exit.inBlock,if_true];exact hk F' a' w' O J U
    | false=>
     have e:a6≠id:=fun e=>by subst e;simp at ad
     rw[ad] at h;refine⟨.x a6,T1,H1,V,h,a0,W,fun F ac w Q ht hr hk=>wp_block (E F ac w _ ht hr fun F' a' w' O J U => ?_)⟩;simp only[Ox.exit,Exit.inBlock,e,if_false];exact hk F' a' w' O J U
 | scope a a1=>
  intro c hc Z T H nx k x r hw hk;simp only[R18] at hc;obtain⟨o,T1,H1,V,h,a0,W,E⟩:=a1 c hc Z T H nx k x r hw hk;refine⟨o,T1,H1,V,h,a0,W,fun F ac w Q ht hr hk=>wp_scope_straight (E F ac w _ ht hr fun F' a' w' O J U => ?_)⟩
  cases o<;>exact hk F' a' w' O J U
 | loop a a1=>
  intro c hc Z T H nx k x r hw hk;simp only[R18] at hc
  cases ha:R18 P n a with
  | none=>simp[ha] at hc
  | some ca=>
   simp only[ha,Option.map_some,aZ] at hc
   cases c<;>simp only[D.erase,C.loop.injEq,reduceCtorEq] at hc
   rename_i ws ds da;subst hc;simp only[D.ok,aG] at Z;obtain⟨⟨⟨q1,q2⟩,q3⟩,q4⟩:=Z;have hl:=X39 q2;simp only[wD] at hk;rw[D18] at hk;obtain⟨m,hk⟩:=hk;generalize hF:(fun(ih:JK) (L:List Value) (H:Y0) (nx:Nat)=>Q23 d ds T fun T=>W23 d L ws 0 T fun T=>wD P d da T H nx (fun T H nx=>W21 T ws fun L=>ih L H nx) x r)=Fn at hk;have ae:∀(m:Nat) (L:List Value) (H:Y0) (nx:Nat),Q33 Fn m L H nx ->
     ∃(o:Ox) (T':K0 Value) (H':Y0) (nx':Nat),o ≠ .n/\Ox.go k x r o T' H' nx'/\WF d T'/\U8 n ((ws++ds)++da.writes) T T' /\
      ∀(F:FM) (ac:Act) (w:World) (Q:Exit->Act->World->Prop),TR d F (M21 d L ws 0 (J16 d ds T)) n ac.tmps->HR F H nx w ->
       (∀ F' a' w',TR d F' T' n a'.tmps->N2 F H nx w F' H' nx' w'->a'.defers=ac.defers->Q o.exit a' w')->Code.rounds P a Q m ac w:=by
    intro m
    induction m with
    | zero=>intro L H nx h;exact h.elim
    | succ m an=>
     intro L H nx h;have h':Fn (Q33 Fn m) L H nx:=h;rw[<- hF] at h';rw[G30,Q31] at h';obtain⟨o,T1,H1,V,h1,a0,W,E⟩:=a1 da ha q4 _ H nx _ x r (U28 (M15 hw)) h'
     cases o with
     | n=>
      simp only[Ox.go] at h1;rw[D18,hF] at h1;obtain⟨o2,T2,H2,nx2,ah,h2,a8,aa,a5⟩:=an _ H1 V h1;refine⟨o2,T2,H2,nx2,ah,h2,a8,aa,fun F ac w Q ht hr hk => ?_⟩;rw[rounds_succ];refine E F ac w _ ht hr fun F' a' w' O J U => ?_
      have ao:U8 n (ws++ds) T T1:=((Y24 (L:=L) hn hw hl q3).trans W).mono fun j hj=>(dN.1 hj).elim id (V48 q1 j)
      exact a5 F' a' w' Q (TR.join hn hw O ao (fun j hj=>hj) hl q3) J.hr fun F2 a2 w2 a9 a3 a4=>hk F2 a2 w2 a9 (J.trans a3) (a4.trans U)
     | x id=>
      refine⟨.x id,T1,H1,V,by simp,h1,a0,(Y24 hn hw hl q3).trans W,fun F ac w Q ht hr hk => ?_⟩;rw[rounds_succ];exact E F ac w _ ht hr fun F' a' w' O J U=>hk F' a' w' O J U
     | r=>
      refine⟨.r,T1,H1,V,by simp,h1,a0,(Y24 hn hw hl q3).trans W,fun F ac w Q ht hr hk => ?_⟩;rw[rounds_succ];exact E F ac w _ ht hr fun F' a' w' O J U=>hk F' a' w' O J U
   obtain⟨o,T1,H1,V,_,h,a0,W,E⟩:=ae m _ H nx hk;refine⟨o,T1,H1,V,h,a0,W,fun F ac w Q ht hr hk=>wp_loop_rounds m (E F ac w Q ?_ hr hk)⟩;exact TR.join hn hw ht (U8.refl n (ws++ds) T) (fun j hj=>hj) hl q3
def X55(P:Program)(n d:Nat)(body:D)(res:List (X × Option (Option Nat)))(args:List Value)(H:Y0)(nx:Nat)(Q:Value->Y0->Nat->Prop):Prop:=
 J27 d args 0 .leaf fun T=>wD P d body T H nx (G14 P res False Q) (fun _ _ _ _=>False) (G14 P res False Q)
theorem X44(hm:P.follows .mixedOrders=true)(a7:J18 P){f:FuncId}{body:D}{res:List (X × Option (Option Nat))}(E:cfn P f=some ⟨n,d,body.erase,res⟩)(a6:body.ok n d=true){args:List Value}(hl:args.length<=n)
  {H:Y0}{nx:Nat}{Q:Value->Y0->Nat->Prop}(h:X55 P n d body res args H nx Q):Q2 P f args H nx Q:=by
 unfold cfn at E;rw[Q8] at E
 cases hf:P.funcs.toList[f]? with
 | none=>simp[hf] at E
 | some fn=>
  simp only[hf] at E;have U:P.funcs[f]? = some fn:=by simpa using hf
  cases hb:fn.body with
  | none=>simp[hb] at E
  | some c=>
   simp only[hb] at E
   cases hc:R18 P fn.ntmps c with
   | none=>simp[hc] at E
   | some cb=>
    cases O:M17 P fn.ntmps fn.results.toList with
    | none=>simp[hc,O] at E
    | some rs=>
     simp only[hc,O,aZ,CF.mk.injEq] at E;obtain⟨rfl,hd,rfl,rfl⟩:=E;have a1:fn.ntmps<=2^d:=by rw[<- hd];exact eG Nat.lt_log2_self
     unfold X55 at h;rw[Z24] at h;have wl:WF d (.leaf:K0 Value):=by cases d<;>trivial
     have hw:=Y19 d args 0 .leaf wl;obtain⟨o,T',H',nx',h1,a8,_,a2⟩:=W45 hm a1 c body hc a6 _ H nx _ _ _ hw h;have W:(o = .n\/o = .r)->G14 P rs False Q T' H' nx'->Q2 P f args H nx Q:=by
      intro hx J;unfold G14 at J;rcases B35 (d:=d) (T:=T') (H:=H') (nx:=nx') False _ rs O (fun vs=>M0 (tup vs) fun v=>Q v H' nx') with h2 | ⟨vs,h2,hok2⟩
      .rw[h2] at J;exact J.elim
      .rw[h2,Y5] at J
       refine⟨tup vs,H',nx',⟨⟨fn,c,U,hb,a7 f fn U⟩,fun F a4 w hr hv => ?_⟩,J⟩;refine calls_of_wp U hb (a2 F _ w _ (W32 hv a1 hl) hr fun F' a' w' a3 Z a5 => ?_);obtain⟨a0,h3,h4⟩:=hok2 F' a'.tmps w' a3 Z.hr.hb;have V:a'.defers=[]/\∃ v,(results fn a'.tmps).run P w' = .ok v w'/\(∃ v' F',Ending.returned v = .returned v'/\VR F' (tup vs) v'/\N2 F H nx w F' H' nx' w'):=
        ⟨a5,tup a0,J29 h3,tup a0,F',rfl,B58 h4,Z⟩
       rcases hx with rfl | rfl<;>exact V
     cases o with
     | n=>exact W (.inl rfl) h1
     | x id=>exact h1.elim
     | r=>exact W (.inr rfl) h1
end
abbrev VP:=Value->Prop
abbrev EP:=Value->Y0->Nat->Prop
def J65(c a b:Value)(k:VP):Prop:=match c with
 | .bool t=>ifK t (k a) (k b)
 | _=>False
def D10(op:BinOp)(x y:Value)(k:VP):Prop:=J42 op x y False k
def wUn(op:UnOp)(x:Value)(k:VP):Prop:=X22 (unV op x) False k
def D9(f:VF)(xs:List Value)(k:VP):Prop:=X22 (f.ev xs) False k
def B4(v:Value)(off:Nat)(k:VP):Prop:=match v with
 | .pointer (some a)=>U19 (a.off+off) a k
 | _=>False
def M3(v vi:Value)(len:Option Nat)(size:Nat)(k:VP):Prop:=match vi with
 | .int _ (.ofNat i)=>N41 len size i False k v
 | _=>False
def C70(v:Value)(k:VP):Prop:=match v with
 | .pointer (some a)=>k (.pointer (some a))
 | _=>False
def G9(v:Value)(i:Nat)(k:VP):Prop:=match v with
 | .tuple vs=>C30 vs.toList i False k
 | _=>False
def G42(v:Value)(off:Nat)(size:Option Nat)(k:VP):Prop:=match v with
 | .agg cs=>E21 cs.toList off size False k
 | _=>False
def D65(v vi:Value)(len size:Nat)(agg:Bool)(k:VP):Prop:=match vi with
 | .int _ (.ofNat i)=>(match v with
  | .agg cs=>cond (dE i len) (E21 cs.toList (i*size) (cond agg (some size) none) False k) False
  | _=>False)
 | _=>False
def U11(z:List Value)(pl:List (Nat × Nat))(vs:List (Nat × Value))(k:VP):Prop:=match V16 (nth pl) z vs with
 | some cs=>spine cs fun cs=>k (.agg ⟨cs⟩)
 | none=>False
def D90(v:Value)(n size:Nat)(lo hi mx:Option Value)(k:VP):Prop:=match v with
 | .pointer (some a)=>(match B26 (some a) n n size lo hi mx false with
  | some r=>X13 r k
  | none=>False)
 | _=>False
def J1(v:Value)(size:Option Nat)(H:Y0)(k:VP):Prop:=match v with
 | .pointer (some ⟨b,o,none⟩)=>D12 H b False (ldB o size False k)
 | _=>False
def wLk(kd:TypeDesc)(zero v vi:Value)(ok:Bool)(H:Y0)(k:VP):Prop:=cond (Q9 kd vi)
  ((fun(es:List MapEntry->Prop)=>match v with
   | .map none=>es []
   | .map (some r)=>D12 H r False fun b=>match b with
    | .map l _=>es l
    | _=>False
   | _=>False) fun l=>match dP kd vi l 0 with
    | some (some (_,v))=>cond ok (M6 k (.tuple ⟨[v,.bool true]⟩)) (M6 k v)
    | some none=>cond ok (M6 k (.tuple ⟨[zero,.bool false]⟩)) (M6 k zero)
    | none=>False) False
def R4(v:Value)(kd:Nat)(H:Y0)(k:VP):Prop:=match kd,v with
  | 0,.slice _ n _=>M6 k (.int .i64 (.ofNat n))
  | 1,.string s=>M2 s.size fun n=>M6 k (.int .i64 (.ofNat n))
  | 2,.map none=>M6 k (.int .i64 (.ofNat 0))
  | 2,.map (some r)=>D12 H r False fun b=>match b with
   | .map l _=>M2 l.length fun n=>M6 k (.int .i64 (.ofNat n))
   | _=>False
  | _,_=>False
def W8(kd:IntKind)(v:Value)(k:VP):Prop:=match v with
  | .int _ n=>cond (Q14 kd n) (M6 k (.int kd n)) (Q16 (kd.wrap n) fun n=>M6 k (.int kd n))
  | _=>False
def wSl(v:Value)(size:Nat)(lo hi mx:Option Value)(H:Y0)(k:VP):Prop:=match v with
  | .slice none len cap=>(match B26 none len cap size lo hi mx false with
   | some r=>X13 r k
   | none=>False)
  | .slice (some ⟨b,o,none⟩) len cap=>D12 H b False (slB ⟨b,o,none⟩ len cap size lo hi mx False k)
  | _=>False
def J3(b:V3)(y:Q0)(H:Y0)(nx:Nat)(k:EP):Prop:=
 E6 H nx (some b) fun H=>M2 (nx+1) fun n=>X13 (y.val nx) fun v=>k v H n
def E5(v:Value)(k:List Value->Prop):Prop:=cond (Z0 v.cells.toList) (spine v.cells.toList k) False
def K6(len size:Nat)(z:List Value)(vs:List (Nat × Value))(k:List Value->Prop):Prop:=
 match V16 (fun k=>some (k*size,size)) (Q19 z len) vs with
  | some cs=>cond (Z0 cs) (spine cs k) False
  | none=>False
def D30(vl vc:Value)(z:List Value)(k:List Value->Nat->Nat->Prop):Prop:=match vl,vc with
  | .int .i64 (.ofNat l),.int .i64 (.ofNat c)=>cond (dD l c&&dD c 1000000) (spine (Q19 z c) fun cs=>k cs l c) False
  | _,_=>False
def M64(x:Option Value)(k:Prop):Prop:=match x with
  | none=>k
  | some (.int _ _)=>k
  | _=>False
def wNm(nx i:Nat)(y:Q0)(k:VP):Prop:=M2 (nx+i) fun q=>M0 (y.val q) k
def D5(p v:Value)(size:Nat)(H:Y0)(k:Y0->Prop):Prop:=match p with
  | .pointer (some a)=>cond (bR v.cells.toList.length size&&Z0 v.cells.toList) (U12 H a v.cells.toList False k) False
  | _=>False
def W56(kd:TypeDesc)(m key v:Value)(H:Y0)(nx:Nat)(k:EP):Prop:=match m with
  | .map (some r)=>D12 H r False (G52 kd H nx r key v False k)
  | _=>False
def Y2(P:Program)(f:FuncId)(args:List Value)(H:Y0)(nx:Nat)(k:EP):Prop:=M8 P f args H nx False k
def M33(P:Program)(f:Value)(args:List Value)(H:Y0)(nx:Nat)(k:EP):Prop:=match f with
  | .func (.func g) ⟨first⟩ ⟨cap⟩=>spine (first++args++cap) fun vs=>M8 P g vs H nx False k
  | _=>False
def B5(s x:Value)(size bytes:Nat)(H:Y0)(nx:Nat)(k:EP):Prop:=Z22 H nx size bytes s x False k
def M82(d s:Value)(size:Nat)(H:Y0)(nx:Nat)(k:EP):Prop:=match d,Y45 s with
  | .slice base dLen _,some m=>M2 (Nat.min m dLen) fun n=>Z5 H size n s False fun cs=>cond (Z0 cs) (match base with
   | none=>M6 (M6 (M6 k (.int .i64 (.ofNat n))) H) nx
   | some a=>U12 H a cs False fun H=>M6 (M6 (M6 k (.int .i64 (.ofNat n))) H) nx) False
  | _,_=>False
def M41(v:Value)(H:Y0)(k:Y0->Prop):Prop:=match v with
  | .map none=>k H
  | .map (some r)=>D12 H r False fun b=>match b with
   | .map _ clock=>E6 H r (some (.map [] clock)) k
   | _=>False
  | _=>False
def K3(E:Bool)(v:Value)(J no:Prop):Prop:=match v with
  | .bool b=>ifK (cond b E (!E)) J no
  | _=>False
section
variable {H H1:Y0} {c:List Value} {m n1 nx:Nat} {v:Value}
theorem N5{body:JK->Prop}{rest:JK}(R:JK)(h1:∀ j:JK,(∀ L H nx,R L H nx->j L H nx)->body j)(h2:∀ L H nx,R L H nx->rest L H nx):V4 body rest:=h1 rest h2
theorem N13(body:JK->Prop)(rest:JK):V4 body rest=body rest:=rfl
theorem B1{F:JK->JK}(I:Nat->List Value->Y0->Nat->Prop)(step:∀ m ih L H nx,I m L H nx->(∀ m' L' H' nx',m'<m->I m' L' H' nx'->ih L' H' nx')->F ih L H nx)
  {m:Nat}{L:List Value}{H:Y0}{nx:Nat}(h:I m L H nx):G3 F L H nx:=by
 have key:∀(k m:Nat) (L:List Value) (H:Y0) (nx:Nat),m<k->I m L H nx->Q33 F k L H nx:=by
  intro k
  induction k with
  | zero=>intro m L H nx h;omega
  | succ k ih=>
   intro m L H nx hm hI;exact step m (Q33 F k) L H nx hI fun m' L' H' nx' J E=>ih m' L' H' nx' (by omega) E
 exact⟨m+1,key (m+1) m L H nx (by omega) h⟩
theorem R0{P:Program}{f:FuncId}{args:List Value}{k:EP}{Q:EP}(h:Q2 P f args H nx Q)(hk:∀ v H' nx',Q v H' nx'->k v H' nx'):Y2 P f args H nx k := .inr (h.mono hk)
structure D0 (H:Y0) (nx:Nat) (H':Y0) (nx':Nat):Prop where
 le:nx<=nx'
 get:∀ i,i<nx->J0 H' i=J0 H i
theorem D0.refl(H:Y0)(nx:Nat):D0 H nx H nx:=⟨aD _,fun _ _=>rfl⟩
theorem D0.trans{H:Y0}{nx:Nat}{H1:Y0}{n1:Nat}{H2:Y0}{n2:Nat}(a:D0 H nx H1 n1)(b:D0 H1 n1 H2 n2):D0 H nx H2 n2:=
 ⟨bK a.le b.le,fun i hi=>(b.get i (aO hi a.le)).trans (a.get i hi)⟩
theorem D0.new{i:Nat}(a:D0 H nx H1 n1)(b:Option V3)(hi:nx<=i)(hm:n1<=m):D0 H nx (hs H1 i b) m:=
 ⟨bK a.le hm,fun j hj=>by rw[N7,if_neg (by omega)];exact a.get j hj⟩
theorem D0.hs{H:Y0}{nx:Nat}{H1:Y0}{i m:Nat}{b:Option V3}(a:D0 H nx H1 m)(hi:nx<=i):D0 H nx (Go.Clo.hs H1 i b) m:=a.new b hi (aD _)
theorem D0.self(h:nx<=m):D0 H nx H m:=⟨h,fun _ _=>rfl⟩
theorem D0.more{H:Y0}{nx:Nat}{H1:Y0}{n1 m:Nat}(a:D0 H nx H1 n1)(hm:n1<=m):D0 H nx H1 m:=⟨bK a.le hm,a.get⟩
theorem D0.less{n0:Nat}(a:D0 H nx H1 n1)(hm:n0<=nx):D0 H n0 H1 n1:=⟨bK hm a.le,fun i hi=>a.get i (by omega)⟩
theorem G10(k:IntKind):eqK k k=true:=by cases k<;>rfl
theorem X6(op:BinOp)(x y:Value)(k:VP):D10 op x y k=(R9 op x y).elim False k:=V47 op x y False k
section
variable (K:IntKind) (a b:Int) (k:VP)
theorem E45:D10 .lss (.int K a) (.int K b) k=k (.bool (decide (a<b))):=by rw[X6];simp[R9,N4,G10,G7]
theorem Q43:D10 .leq (.int K a) (.int K b) k=k (.bool (decide (a<=b))):=by rw[X6];simp[R9,N4,G10,G7]
theorem G48:D10 .gtr (.int K a) (.int K b) k=k (.bool (decide (b<a))):=by rw[X6];simp[R9,N4,G10,G7]
theorem M42:D10 .geq (.int K a) (.int K b) k=k (.bool (decide (b<=a))):=by rw[X6];simp[R9,N4,G10,G7]
theorem V44:D10 .eql (.int K a) (.int K b) k=k (.bool (decide (a=b))):=by rw[X6];simp[R9,N4,G10,G7];rfl
theorem Z47:D10 .neq (.int K a) (.int K b) k=k (.bool (decide (a≠b))):=by
 rw[X6];simp only[R9,N4,G10,G7,cond_true,cond_false,aN];congr 2;rw[eX];simp
theorem Z63:D10 .add (.int K a) (.int K b) k=k (.int K (K.wrap (a+b))):=by rw[X6];simp[R9,N4,G10,G7]
theorem R11:D10 .sub (.int K a) (.int K b) k=k (.int K (K.wrap (a-b))):=by rw[X6];simp[R9,N4,G10,G7]
theorem B82:D10 .mul (.int K a) (.int K b) k=k (.int K (K.wrap (a*b))):=by rw[X6];simp[R9,N4,G10,G7]
theorem E105(h:b≠0):D10 .quo (.int K a) (.int K b) k=k (.int K (K.wrap (a.tdiv b))):=by rw[X6];simp[R9,N4,G10,G7,h]
theorem Z62(h:b≠0):D10 .rem (.int K a) (.int K b) k=k (.int K (a.tmod b)):=by rw[X6];simp[R9,N4,G10,G7,h]
theorem Y23{x:Int}(h1 : -9223372036854775808<=x)(h2:x<9223372036854775808):IntKind.i64.wrap x=x:=IntWalk.i64_in _ ⟨h1,by omega⟩
theorem N32(h1 : -9223372036854775808<=a+b)(h2:a+b<9223372036854775808):D10 .add (.int .i64 a) (.int .i64 b) k=k (.int .i64 (a+b)):=by rw[Z63,Y23 h1 h2]
theorem N33(h1 : -9223372036854775808<=a-b)(h2:a-b<9223372036854775808):D10 .sub (.int .i64 a) (.int .i64 b) k=k (.int .i64 (a-b)):=by rw[R11,Y23 h1 h2]
end
theorem C46(b:Bool)(t e:Prop):K2 (.bool b) t e=if b=true then t else e:=by unfold K2;exact E14 b t e
theorem M29(b:Bool)(y n:Prop):K3 true (.bool b) y n=if b=true then y else n:=by cases b<;>rfl
theorem Z27(b:Bool)(y n:Prop):K3 false (.bool b) y n=if b=true then n else y:=by cases b<;>rfl
theorem Y35(a b:Value)(k:VP):J65 (.bool true) a b k=k a:=rfl
theorem X29(a b:Value)(k:VP):J65 (.bool false) a b k=k b:=rfl
theorem Z50(b:Bool)(k:VP):wUn .not (.bool b) k=k (.bool !b):=by unfold wUn;rw[J8];rfl
theorem G51(b o:Nat)(s:Option Nat)(off:Nat)(k:VP):B4 (.pointer (some ⟨b,o,s⟩)) off k=k (.pointer (some ⟨b,o+off,s⟩)):=by
 show M2 (o+off) (fun n=>k (.pointer (some ⟨b,n,s⟩)))=_;rw[G1]
theorem U33{i:Int}{n:Nat}(h1:0<=i)(h2:i<n)(b o:Nat)(s:Option Nat)(c size:Nat)(kd:IntKind)(k:VP):M3 (.slice (some ⟨b,o,s⟩) n c) (.int kd i) none size k=k (.pointer (some ⟨b,o+i.toNat*size,s⟩)):=by
 obtain⟨j,rfl⟩:=fI h1;have:dE j n=true:=by simp;omega
 show cond (dE j n) (U19 (o+j*size) ⟨b,o,s⟩ k) False=_;rw[this];unfold U19;simp only[cond_true];rw[G1];rfl
theorem K32{i:Int}{n:Nat}(h1:0<=i)(h2:i<n)(b o:Nat)(s:Option Nat)(size:Nat)(kd:IntKind)(k:VP):M3 (.pointer (some ⟨b,o,s⟩)) (.int kd i) (some n) size k=k (.pointer (some ⟨b,o+i.toNat*size,s⟩)):=by
 obtain⟨j,rfl⟩:=fI h1;have:dE j n=true:=by simp;omega
 show cond (dE j n) (U19 (o+j*size) ⟨b,o,s⟩ k) False=_;rw[this];unfold U19;simp only[cond_true];rw[G1];rfl
theorem W47(a:Addr)(k:VP):C70 (.pointer (some a)) k=k (.pointer (some a)):=rfl
theorem M50(l:List Value)(i:Nat)(k:VP):G9 (.tuple ⟨l⟩) i k=(l[i]?).elim False k:=by unfold G9;exact Z12 l i False k
theorem W38(l:List Value)(o:Nat)(k:VP):G42 (.agg ⟨l⟩) o none k=(l[o]?).elim False k:=by unfold G42 E21;exact Z12 l o False k
theorem K40(l:List Value)(o n:Nat)(k:VP):G42 (.agg ⟨l⟩) o (some n) k=k (.agg ⟨(l.drop o).take n⟩):=by unfold G42 E21;exact V14 _ _
theorem J35(a:Option Addr)(n c:Nat)(H:Y0)(k:VP):R4 (.slice a n c) 0 H k=k (.int .i64 n):=rfl
theorem R28(s:ByteArray)(H:Y0)(k:VP):R4 (.string s) 1 H k=k (.int .i64 s.size):=by unfold R4;exact G1 _ _
theorem Z32(kd k':IntKind)(n:Int)(k:VP):W8 kd (.int k' n) k=k (.int kd (kd.wrap n)):=by
 show cond (Q14 kd n) (k (.int kd n)) (Q16 (kd.wrap n) fun n=>k (.int kd n))=_;rw[J21]
 cases hf:Q14 kd n with
 | true=>rw[Z21 hf];rfl
 | false=>rfl
theorem Q37(b:V3)(y:Q0)(H:Y0)(nx:Nat)(k:EP):J3 b y H nx k=k (y.val nx) (hs H nx (some b)) (nx+1):=by unfold J3;rw[G4,G1,E7]
theorem W59(nx i:Nat)(y:Q0)(k:VP):wNm nx i y k=k (y.val (nx+i)):=by unfold wNm;rw[G1,Y5]
theorem B18{v:Value}(h:Z0 v.cells.toList=true)(k:List Value->Prop):E5 v k=k v.cells.toList:=by unfold E5;rw[h];exact V14 _ _
theorem Y31(l:List Value)(k:List Value->Prop):E5 (.agg ⟨l⟩) k=if Z0 l=true then k l else False:=by
 show cond (Z0 l) (spine l k) False=_;rw[V14];cases Z0 l<;>rfl
theorem D45(K:IntKind)(n:Int)(k:List Value->Prop):E5 (.int K n) k=k [.int K n]:=B18 (v := .int K n) rfl k
theorem N35(A:Option Addr)(n c:Nat)(k:List Value->Prop):E5 (.slice A n c) k=k [.slice A n c]:=B18 (v := .slice A n c) rfl k
theorem Y30(s:ByteArray)(k:List Value->Prop):E5 (.string s) k=k [.string s]:=B18 (v := .string s) rfl k
theorem W41(s:Bool)(k:List Value->Prop):E5 (.bool s) k=k [.bool s]:=B18 (v := .bool s) rfl k
theorem Q45(s:Option Nat)(k:List Value->Prop):E5 (.map s) k=k [.map s]:=B18 (v := .map s) rfl k
theorem W44(s:Option Addr)(k:List Value->Prop):E5 (.pointer s) k=k [.pointer s]:=B18 (v := .pointer s) rfl k
theorem Q66(len size:Nat)(z:List Value)(vs:List (Nat × Value))(k:List Value->Prop):K6 len size z vs k=(match V16 (fun k=>some (k*size,size)) (Q19 z len) vs with | some cs=>if Z0 cs=true then k cs else False | none=>False):=by
 unfold K6
 cases V16 (fun k=>some (k*size,size)) (Q19 z len) vs with
 | none=>rfl
 | some cs=>dsimp only;rw[V14];cases Z0 cs<;>rfl
def B10(c:List Value)(o:Nat)(size:Option Nat)(k:VP):Prop:=match size with
 | none=>(c[o]?).elim False k
 | some n=>o+n<=c.length/\k (.agg ⟨(c.drop o).take n⟩)
def ldP(b:Option V3)(o:Nat)(size:Option Nat)(k:VP):Prop:=match b with
 | some (.cells c _)=>B10 c o size k
 | some (.rom c)=>B10 c o size k
 | _=>False
theorem R23{α:Type}:∀ {n:Nat} {l:List α},n<=l.length->G5 n l=some (l.take n)
 | 0,l,_=>by simp[G5]
 | n+1,[],h=>by simp at h
 | n+1,a :: l,h=>by simp[G5,R23 (n:=n) (l:=l) (by simpa using h)]
theorem M23{α:Type}:∀ {n:Nat} {l:List α},l.length<n->G5 n l=none
 | 0,l,h=>by omega
 | n+1,[],_=>rfl
 | n+1,a :: l,h=>by simp[G5,M23 (n:=n) (l:=l) (by simpa using h)]
theorem U57(o:Nat)(size:Option Nat)(k:VP)(c:List Value)(E:∀ n,size=some n->0<n):ldC o size False k c=B10 c o size k:=by
 unfold ldC B10
 cases size with
 | none=>exact Z12 c o False k
 | some n=>
  dsimp only;have hn:=E n rfl
  by_cases h:o+n<=c.length
  .rw[R23 (by simp;omega)];dsimp only;rw[V14];simp[h]
  .rw[M23 (by simp;omega)];simp[h]
theorem V60(b o:Nat)(size:Option Nat)(H:Y0)(k:VP)(E:∀ n,size=some n->0<n):J1 (.pointer (some ⟨b,o,none⟩)) size H k=ldP (J0 H b) o size k:=by
 show D12 H b False (ldB o size False k)=_;rw[Y4];unfold ldP
 cases J0 H b with
 | none=>rfl
 | some blk=>
  cases blk with
  | map es q=>rfl
  | cells c sl=>exact U57 o size k c E
  | rom c=>exact U57 o size k c E
theorem J48(b o:Nat)(H:Y0)(k:VP):J1 (.pointer (some ⟨b,o,none⟩)) none H k=ldP (J0 H b) o none k:=V60 b o none H k (fun n h=>by cases h)
theorem W31(b o n:Nat)(H:Y0)(k:VP):J1 (.pointer (some ⟨b,o,none⟩)) (some (n+1)) H k=ldP (J0 H b) o (some (n+1)) k:=V60 b o _ H k (fun m h=>by cases h;omega)
theorem V65(b o:Nat)(H:Y0)(k:VP):J1 (.pointer (some ⟨b,o,none⟩)) (some 2) H k=ldP (J0 H b) o (some 2) k:=W31 b o 1 H k
theorem G65(b o:Nat)(H:Y0)(k:VP):J1 (.pointer (some ⟨b,o,none⟩)) (some 3) H k=ldP (J0 H b) o (some 3) k:=W31 b o 2 H k
theorem X57(b o:Nat)(H:Y0)(k:VP):J1 (.pointer (some ⟨b,o,none⟩)) (some 32) H k=ldP (J0 H b) o (some 32) k:=W31 b o 31 H k
theorem Y40(c:List Value)(sl o:Nat)(size:Option Nat)(k:VP):ldP (some (.cells c sl)) o size k=B10 c o size k:=rfl
theorem Y50(c:List Value)(o:Nat)(size:Option Nat)(k:VP):ldP (some (.rom c)) o size k=B10 c o size k:=rfl
theorem Q40(c:List Value)(o:Nat)(k:VP):B10 c o none k=(c[o]?).elim False k:=rfl
theorem X21(c:List Value)(o n:Nat)(k:VP):B10 c o (some n) k=(o+n<=c.length/\k (.agg ⟨(c.drop o).take n⟩)):=rfl
def B12(c:List Value)(o:Nat)(vs:List Value):List Value:=c.take o++vs++c.drop (o+vs.length)
def stP(b:Option V3)(o:Nat)(vs:List Value)(k:V3->Prop):Prop:=match b with
 | some (.cells c sl)=>o+vs.length<=c.length/\k (.cells (B12 c o vs) sl)
 | _=>False
theorem J30(H:Y0)(b o:Nat)(vs:List Value)(k:Y0->Prop):U12 H ⟨b,o,none⟩ vs False k=stP (J0 H b) o vs fun blk=>k (hs H b (some blk)):=by
 unfold U12 stP;dsimp only;rw[Y4]
 cases J0 H b with
 | none=>rfl
 | some blk=>
  cases blk with
  | map es q=>rfl
  | rom c=>rfl
  | cells c sl=>
   dsimp only[aN]
   by_cases h:o+vs.length<=c.length
   .rw[Nat.ble_eq_true_of_le h];simp only[cond_true];rw[V14,G4];simp[h,B12]
   .have:dD (o+vs.length) c.length=false:=by
     cases hb:dD (o+vs.length) c.length with
     | false=>rfl
     | true=>exact absurd (Nat.le_of_ble_eq_true hb) h
    rw[this];simp[h]
theorem C16{size:Nat}(h1:v.cells.toList.length=size)(h2:Z0 v.cells.toList=true)(b o:Nat)(H:Y0)(k:Y0->Prop):D5 (.pointer (some ⟨b,o,none⟩)) v size H k=stP (J0 H b) o v.cells.toList fun blk=>k (hs H b (some blk)):=by
 show cond (bR v.cells.toList.length size&&Z0 v.cells.toList) (U12 H ⟨b,o,none⟩ v.cells.toList False k) False=_;rw[h2,h1];have:bR size size=true:=by simp
 rw[this];exact J30 H b o _ k
theorem C49(l:List Value)(size b o:Nat)(H:Y0)(k:Y0->Prop):D5 (.pointer (some ⟨b,o,none⟩)) (.agg ⟨l⟩) size H k=if l.length=size/\Z0 l=true then stP (J0 H b) o l fun blk=>k (hs H b (some blk)) else False:=by
 by_cases h:l.length=size/\Z0 l=true
 .rw[if_pos h];exact C16 (v := .agg ⟨l⟩) h.1 h.2 b o H k
 .rw[if_neg h]
  show cond (bR l.length size&&Z0 l) (U12 H ⟨b,o,none⟩ l False k) False=False;have:(bR l.length size&&Z0 l)=false:=by
   cases hb:(bR l.length size&&Z0 l) with
   | false=>rfl
   | true=>
    rw[aG] at hb;exact absurd ⟨bT hb.1,hb.2⟩ h
  rw[this];rfl
section
variable (b o:Nat) (H:Y0) (k:Y0->Prop)
theorem D50(K:IntKind)(n:Int):D5 (.pointer (some ⟨b,o,none⟩)) (.int K n) 1 H k=stP (J0 H b) o [.int K n] fun blk=>k (hs H b (some blk)):=C16 (v := .int K n) rfl rfl b o H k
theorem M47(x:Bool):D5 (.pointer (some ⟨b,o,none⟩)) (.bool x) 1 H k=stP (J0 H b) o [.bool x] fun blk=>k (hs H b (some blk)):=C16 (v := .bool x) rfl rfl b o H k
theorem R32(x:ByteArray):D5 (.pointer (some ⟨b,o,none⟩)) (.string x) 1 H k=stP (J0 H b) o [.string x] fun blk=>k (hs H b (some blk)):=C16 (v := .string x) rfl rfl b o H k
theorem Z41(A:Option Addr)(n c:Nat):D5 (.pointer (some ⟨b,o,none⟩)) (.slice A n c) 1 H k=stP (J0 H b) o [.slice A n c] fun blk=>k (hs H b (some blk)):=C16 (v := .slice A n c) rfl rfl b o H k
theorem U51(A:Option Addr):D5 (.pointer (some ⟨b,o,none⟩)) (.pointer A) 1 H k=stP (J0 H b) o [.pointer A] fun blk=>k (hs H b (some blk)):=C16 (v := .pointer A) rfl rfl b o H k
theorem C50(r:Option Nat):D5 (.pointer (some ⟨b,o,none⟩)) (.map r) 1 H k=stP (J0 H b) o [.map r] fun blk=>k (hs H b (some blk)):=C16 (v := .map r) rfl rfl b o H k
theorem G47(f:Fn)(x y:Array Value):D5 (.pointer (some ⟨b,o,none⟩)) (.func f x y) 1 H k=stP (J0 H b) o [.func f x y] fun blk=>k (hs H b (some blk)):=C16 (v := .func f x y) rfl rfl b o H k
end
theorem U20(c:List Value)(sl o:Nat)(vs:List Value)(k:V3->Prop):stP (some (.cells c sl)) o vs k=(o+vs.length<=c.length/\k (.cells (B12 c o vs) sl)):=rfl
theorem Q87{o:Nat}(h:o<c.length):B12 c o [v]=c.set o v:=by
 unfold B12;rw[List.set_eq_take_append_cons_drop,if_pos h];simp
theorem G24{vs:List Value}(h:vs.length=c.length):B12 c 0 vs=vs:=by
 unfold B12;simp[h]
theorem Z11(H:Y0)(i:Nat)(b:Option V3):J0 (hs H i b) i=b:=by rw[N7,if_pos rfl]
theorem Z1{H:Y0}{i j:Nat}(b:Option V3)(h:j≠i):J0 (hs H i b) j=J0 H j:=by rw[N7,if_neg h]
theorem Q25(H:Y0)(size n:Nat)(b o len cap:Nat)(k:List Value->Prop)(hn:0<n*size):Z5 H size n (.slice (some ⟨b,o,none⟩) len cap) False k=match (J0 H b).bind V3.row with
  | some c=>o+n*size<=c.length/\k ((c.drop o).take (n*size))
  | none=>False:=by
 unfold Z5 B19;dsimp only;rw[Y4];have E:∀ c:List Value,(match G5 (n*size) (c.drop o) with | some l=>spine l k | none=>False)=(o+n*size<=c.length/\k ((c.drop o).take (n*size))):=by
  intro c
  by_cases h:o+n*size<=c.length
  .rw[R23 (by simp;omega)];dsimp only;rw[V14];simp[h]
  .rw[M23 (by simp;omega)];simp[h]
 cases J0 H b with
 | none=>rfl
 | some blk=>
  cases blk with
  | map es q=>rfl
  | cells c sl=>exact E c
  | rom c=>exact E c
end
section
variable {a b n:Nat}
def Z2(a b:Nat):Nat:=a ^^^ (a &&& b)
theorem N1(a b i:Nat):(Z2 a b).testBit i=(a.testBit i && !b.testBit i):=by
 unfold Z2;rw[Nat.testBit_xor,bI];cases a.testBit i<;>cases b.testBit i<;>rfl
theorem Z6(h:a<2^n):Z2 a b<2^n:=Nat.xor_lt_two_pow h (Nat.and_lt_two_pow' _ h)
where
 Nat.and_lt_two_pow' {x n:Nat} (y:Nat) (h:x<2^n):x &&& y<2^n:=cE Nat.and_le_left h
theorem D15{a:Nat}(h:a<4294967296):eW.wrap (a:Int)=a:=by
 simp only[eY,eK,dW];simp;omega
theorem W10(w a:Nat):cT w (a:Int)=BitVec.ofNat w a:=by
 apply BitVec.eq_of_toNat_eq;simp
theorem D52(h:a<4294967296):a &&& b<4294967296:=cE Nat.and_le_left h
theorem M54(ha:a<4294967296)(hb:b<4294967296):a ||| b<4294967296:=Nat.or_lt_two_pow (n:=32) ha hb
theorem U10(ha:a<4294967296):Z2 a b<4294967296:=Z6 (n:=32) ha
section
variable {a b:Nat} (k:VP)
theorem D17(ha:a<4294967296)(hb:b<4294967296):D10 .and (.int .u32 (a:Int)) (.int .u32 (b:Int)) k=k (.int .u32 ((a &&& b:Nat):Int)):=by
 rw[X6];show k (.int .u32 (eW.wrap ((cT 32 (a:Int) &&& cT 32 (b:Int)).toNat:Int)))=_;rw[W10,W10,BitVec.toNat_and,eP,eP,bV (by simpa using ha),bV (by simpa using hb),D15 (D52 ha)]
theorem D39(ha:a<4294967296)(hb:b<4294967296):D10 .or (.int .u32 (a:Int)) (.int .u32 (b:Int)) k=k (.int .u32 ((a ||| b:Nat):Int)):=by
 rw[X6];show k (.int .u32 (eW.wrap ((cT 32 (a:Int) ||| cT 32 (b:Int)).toNat:Int)))=_;rw[W10,W10,BitVec.toNat_or,eP,eP,bV (by simpa using ha),bV (by simpa using hb),D15 (M54 ha hb)]
theorem V17(ha:a<4294967296)(hb:b<4294967296):D10 .andNot (.int .u32 (a:Int)) (.int .u32 (b:Int)) k=k (.int .u32 ((Z2 a b:Nat):Int)):=by
 rw[X6];show k (.int .u32 (eW.wrap ((cT 32 (a:Int) &&& ~~~(cT 32 (b:Int))).toNat:Int)))=_;rw[W10,W10];have e:(BitVec.ofNat 32 a &&& ~~~(BitVec.ofNat 32 b)).toNat=Z2 a b:=by
  apply bZ;intro i;rw[N1,BitVec.testBit_toNat,BitVec.getLsbD_and,BitVec.getLsbD_not,BitVec.getLsbD_ofNat,BitVec.getLsbD_ofNat]
  by_cases hi:i<32
  .simp[hi]
  .have:a.testBit i=false:=dV (aO ha (aK (n:=2) (by omega) (show 32<=i by omega)))
   simp[hi,this]
 rw[e,D15 (U10 ha)]
theorem V15{n:Nat}{K:IntKind}(ha:a<4294967296):D10 .shr (.int .u32 (a:Int)) (.int K (n:Int)) k=k (.int .u32 ((a >>> n:Nat):Int)):=by
 rw[X6];have hn:¬ (n:Int)<0:=by omega
 simp only[R9,N4,C18,cond_true,hn,if_false,aN,dW];congr 2;have e:((2:Int)^min ((n:Int)).toNat 32)=((2^min n 32:Nat):Int):=by simp
 rw[e,Int.fdiv_eq_ediv_of_nonneg _ (Int.natCast_nonneg _),<- Int.natCast_ediv,eO];congr 1
 by_cases h:n<=32
 .rw[Nat.min_eq_left h]
 .rw[Nat.min_eq_right (by omega),Nat.div_eq_of_lt (by simpa using ha),Nat.div_eq_of_lt (aO ha (by
   have:=aK (n:=2) (by omega) (show 32<=n by omega);simpa using this))]
theorem M35{n:Nat}{K:IntKind}(hn:n<32):D10 .shl (.int .u32 1) (.int K (n:Int)) k=k (.int .u32 ((2^n:Nat):Int)):=by
 rw[X6];have h0:¬ (n:Int)<0:=by omega
 simp only[R9,N4,C18,cond_true,h0,if_false,aN,dW];congr 2;have e:(1*(2:Int)^min ((n:Int)).toNat 32)=((2^n:Nat):Int):=by
  have:min n 32=n:=by omega
  simp[this]
 rw[e,D15];exact aO (Nat.pow_lt_pow_right (by omega) hn) (by decide)
theorem R40(ha:a<4294967296):D10 .and (.int .u32 (a:Int)) (.int .u32 1) k=k (.int .u32 ((a%2:Nat):Int)):=by
 have:=D17 (b:=1) k ha (by omega);rw[Nat.and_one_is_mod] at this;exact this
theorem R39(ha:a<4294967296):D10 .rem (.int .u32 (a:Int)) (.int .u32 2) k=k (.int .u32 ((a%2:Nat):Int)):=by
 rw[Z62 _ _ _ _ (by omega)];congr 2
theorem G0(ha:a<4294967296):a >>> n<4294967296:=cE (Nat.shiftRight_le a n) ha
theorem C36(a n:Nat):decide ((((a >>> n)%2:Nat):Int)=1)=a.testBit n:=by
 rw[Nat.testBit_eq_decide_div_mod_eq,eO];congr 1;apply propext;omega
theorem V31(a n:Nat):decide ((((a >>> n)%2:Nat):Int)=0) = !a.testBit n:=by
 rw[Nat.testBit_eq_decide_div_mod_eq,eO];generalize a/2^n=m;rw[eX];simp only[decide_eq_true_eq,cJ,decide_eq_false_iff_not];omega
theorem V38(a n:Nat):decide ((a >>> n)%2=0) = !a.testBit n:=by rw[<- V31];congr 1;apply propext;omega
theorem B44(a n:Nat):decide ((a >>> n)%2=1)=a.testBit n:=by rw[<- C36];congr 1;apply propext;omega
theorem E28(a:Nat):decide ((a:Int)=0)=decide (a=0):=by congr 1;apply propext;omega
theorem J28(a:Nat):decide ((a:Int)≠0)=decide (a≠0):=by congr 1;apply propext;omega
end
end
section
variable {A:Option Addr} {H H':Y0} {c l:List Value} {e i nx nx' o:Nat} {es:List Nat}
def Q5(H:Y0)(b:Nat):Option (List Value):=(J0 H b).bind V3.row
theorem X3{b:Nat}{row:List Value}(h:Q5 H b=some row)(o:Nat)(size:Option Nat)(k:VP):ldP (J0 H b) o size k=B10 row o size k:=by
 unfold Q5 at h
 cases hg:J0 H b with
 | none=>rw[hg] at h;cases h
 | some blk=>
  rw[hg] at h
  cases blk with
  | map es q=>cases h
  | cells c sl=>cases h;rfl
  | rom c=>cases h;rfl
theorem D0.row{b:Nat}(h:D0 H nx H' nx')(hb:b<nx):Q5 H' b=Q5 H b:=by unfold Q5;rw[h.get b hb]
def Sl(H:Y0)(nx:Nat)(A:Option Addr)(c:List Value):Prop:=
 ∀ i v,c[i]? = some v->∃ b o row,A=some ⟨b,o,none⟩/\b<nx/\Q5 H b=some row/\row[o+i]? = some v
theorem Sl.ext(h:Sl H nx A c)(e:D0 H nx H' nx'):Sl H' nx' A c:=fun i v hv=>
 let ⟨b,o,row,h1,h2,h3,h4⟩:=h i v hv
 ⟨b,o,row,h1,aO h2 e.le,by rw[e.row h2];exact h3,h4⟩
theorem Sl.nil(H:Y0)(nx:Nat)(A:Option Addr):Sl H nx A []:=fun i v h=>by simp at h
theorem Sl.open(h:Sl H nx A c)(hi:i<c.length):
  ∃ b o row,A=some ⟨b,o,none⟩/\b<nx/\Q5 H b=some row/\∀ j v,c[j]? = some v->row[o+j]? = some v:=by
 obtain⟨b,o,row,h1,h2,h3,_⟩:=h i c[i] (aE hi);refine⟨b,o,row,h1,h2,h3,fun j v hv => ?_⟩;obtain⟨b',o',row',g1,g2,g3,g4⟩:=h j v hv;rw[h1] at g1;cases g1;rw[h3] at g3;cases g3;exact g4
theorem M51{row:List Value}{n:Nat}(hl:l.length=n)(h:∀ j v,l[j]? = some v->row[o+j]? = some v)(k:VP)(hn:0<n):B10 row o (some n) k=k (.agg ⟨l⟩):=by
 have E:o+n<=row.length:=by
  have:=h (n-1) l[n-1] (aE (by omega));rcases aW (o+(n-1)) row.length with g | g
  .omega
  .rw[aT g] at this;cases this
 have e:(row.drop o).take n=l:=by
  apply dH;intro j
  by_cases hj:j<n
  .rw[aX,if_pos hj,dB,h j l[j] (aE (by omega)),aE (by omega)]
  .rw[aX,if_neg hj,aT (by omega)]
 rw[X21,e];simp[E]
theorem Z108{row:List Value}{x y z:Value}(h0:row[o]? = some x)(h1:row[o+1]? = some y)(h2:row[o+2]? = some z)(k:VP):B10 row o (some 3) k=k (.agg ⟨[x,y,z]⟩):=
 M51 (l:=[x,y,z]) rfl (fun j v hv=>by
  match j,hv with
  | 0,hv=>simp at hv;subst hv;simpa using h0
  | 1,hv=>simp at hv;subst hv;exact h1
  | 2,hv=>simp at hv;subst hv;exact h2
  | j+3,hv=>simp at hv) k (by simp)
theorem K26(k:VP):B10 l 0 (some l.length) k=k (.agg ⟨l⟩):=by rw[X21];simp
theorem C13(x y:Value)(k:VP):B10 [x,y] 0 (some 2) k=k (.agg ⟨[x,y]⟩):=K26 (l:=[x,y]) k
theorem Y12(x y z:Value)(k:VP):B10 [x,y,z] 0 (some 3) k=k (.agg ⟨[x,y,z]⟩):=K26 (l:=[x,y,z]) k
theorem G26(a b x y:Value):B12 [a,b] 0 [x,y]=[x,y]:=rfl
theorem D7(a b c x y z:Value):B12 [a,b,c] 0 [x,y,z]=[x,y,z]:=rfl
def K12(es:List Nat):List Value:=es.map fun(e:Nat)=>cD .u32 (e:Int)
def U4(xs:List Int):List Value:=xs.map fun x=>cD .i64 x
def U14(es:List Nat):Prop:=∀ e ∈ es,e<4294967296
theorem Q3{e:Nat}(h:es[i]? = some e):(K12 es)[i]? = some (.int .u32 (e:Int)):=by simp[K12,h]
theorem Z9{xs:List Int}{x:Int}(h:xs[i]? = some x):(U4 xs)[i]? = some (.int .i64 x):=by simp[U4,h]
theorem E1(es:List Nat):(K12 es).length=es.length:=by simp[K12]
theorem X9(xs:List Int):(U4 xs).length=xs.length:=by simp[U4]
theorem U14.get(h:U14 es)(he:es[i]? = some e):e<4294967296:=h e (aH he)
end
section
variable {H:Y0} {a b cap lo m n nx size:Nat} {c l:List Value} {v:Value}
def Acc(lo:Nat)(H:Y0)(nx:Nat)(size:Nat)(v:Value)(n:Nat)(c:List Value):Prop:=
 c.length=n*size/\((n=0/\v = .slice none 0 0)\/∃ b,lo<=b/\b<nx/\v = .slice (some ⟨b,0,none⟩) n n/\J0 H b=some (.cells c size))
theorem Acc.nil(lo:Nat)(H:Y0)(nx size:Nat):Acc lo H nx size (.slice none 0 0) 0 []:=⟨by simp,.inl ⟨rfl,rfl⟩⟩
theorem Acc.ext{H':Y0}{nx':Nat}(h:Acc lo H nx size v n c)(e:D0 H nx H' nx'):Acc lo H' nx' size v n c:=by
 refine⟨h.1,h.2.imp id ?_⟩;rintro⟨b,h1,h2,h3,h4⟩;exact⟨b,h1,aO h2 e.le,h3,by rw[e.get b h2];exact h4⟩
theorem Acc.sl(h:Acc lo H nx size v n c):∃ A,v = .slice A n n/\Sl H nx A c:=by
 obtain⟨hl,h⟩:=h;rcases h with ⟨rfl,rfl⟩ | ⟨b,h1,h2,rfl,h4⟩
 .refine⟨none,rfl,?_⟩
  simp at hl;subst hl;exact Sl.nil _ _ _
 .refine⟨_,rfl,fun i u hu=>⟨b,0,c,rfl,h2,by simp[Q5,h4,V3.row],by simpa using hu⟩⟩
theorem V6(h:a<=b):dD a b=true:=Nat.ble_eq_true_of_le h
theorem E27(h:b<a):dD a b=false:=by
 cases hb:dD a b with
 | false=>rfl
 | true=>exact absurd (Nat.le_of_ble_eq_true hb) (by omega)
theorem D13(a:Nat):bR a a=true:=by simp
theorem K43(h:a≠b):bR a b=false:=by
 cases hb:bR a b with
 | false=>rfl
 | true=>exact absurd (bT hb) h
structure Src (H:Y0) (size:Nat) (x:Value) (m:Nat) (l:List Value):Prop where
 len:Y45 x=some m
 first:∀ k:List Value->Prop,Z5 H size m x False k=k l
 size:l.length=m*size
theorem J9{sl:Nat}(hg:J0 H b=some (.cells l sl))(hl:l.length=m*size)(hm:0<m*size):Src H size (.slice (some ⟨b,0,none⟩) m cap) m l:=by
 refine⟨rfl,fun k => ?_,hl⟩;rw[Q25 _ _ _ _ _ _ _ _ hm,hg];simp only[Option.bind_some,V3.row];simp[<- hl]
theorem B68{A:Option Addr}(h:Sl H nx A l)(hl:l.length=m*size)(hm:0<m*size):Src H size (.slice A m cap) m l:=by
 obtain⟨b,o,row,rfl,hb,E,J⟩:=h.open (i:=0) (by omega);refine⟨rfl,fun k => ?_,hl⟩;rw[Q25 _ _ _ _ _ _ _ _ hm];unfold Q5 at E;rw[E];have:=M51 (row:=row) (o:=o) (n:=m*size) hl J (fun v=>match v with | .agg a=>k a.toList | _=>False) hm;rw[X21] at this;exact this
theorem Y20 {bytes:Nat} {x:Value} {H0:Y0} {k:EP} (hsz:0<size) (hA:Acc lo H nx size v n c) (hx:Src H size x m l) (hm:0<m) (ho:Z0 l=true)
  (hb1:(2*(n+m)+1000)*bytes<=281474976710656) (hb2:n+m<=1000000000) (hE:D0 H0 lo H nx) (hlo:lo<=nx)
  (hk:∀ v' H',Acc lo H' (nx+1) size v' (n+m) (c++l)->D0 H0 lo H' (nx+1)->(∀ i,i<nx->(∀ A n' c',v = .slice (some A) n' c'->A.block≠i)->J0 H' i=J0 H i)->k v' H' (nx+1)):B5 v x size bytes H nx k:=by
 obtain⟨hl,hA⟩:=hA
 have hlen:(c++l).length=(n+m)*size:=by rw[List.length_append,hl,hx.size,Nat.add_mul]
 unfold B5 Z22
 rcases hA with ⟨rfl,rfl⟩ | ⟨b,h1,h2,rfl,h4⟩
 .have hc:c=[]:=by simp at hl;exact hl
  subst hc
  rw[hx.len]
  dsimp only
  rw[G1,V6 hb1,V6 hb2]
  simp only[Bool.and_self,cond_true]
  rw[hx.first,ho,E27 (show 0<0+m by omega)]
  simp only[cond_true,cond_false]
  show spine ([]++l) _
  rw[V14]
  have e:([]++l).length=(0+m)*size:=hlen
  rw[e,D13]
  simp only[cond_true,D22,K11]
  rw[G1,G1,G4]
  refine hk _ _ ⟨hlen,.inr ⟨nx,hlo,by omega,rfl,Z11 _ _ _⟩⟩ (hE.new _ hlo (by omega)) fun i hi _=>Z1 _ (by omega)
 .rw[hx.len]
  dsimp only
  rw[G1,V6 hb1,V6 hb2]
  simp only[Bool.and_self,cond_true]
  rw[hx.first,ho,E27 (show n<n+m by omega)]
  simp only[cond_true,cond_false]
  have hold:∀ k:List Value->Prop,Z5 H size n (.slice (some ⟨b,0,none⟩) n n) False k=k c:=by
   intro k
   rcases Nat.eq_zero_or_pos n with h0 | h0
   .subst h0
    simp at hl;subst hl
    unfold Z5 B19
    dsimp only
    rw[Y4,h4]
    simp only[Option.elim_some,Nat.zero_mul,G5]
    exact V14 _ _
   .exact (J9 h4 hl (Nat.mul_pos h0 hsz)).first k
  rw[hold,V14,hlen,D13]
  simp only[cond_true,D22]
  rw[Y4,h4]
  simp only[Option.elim_some]
  have hls:N8 (.cells c size) 0 n size=some true:=by
   simp only[N8]
   rw[K43 (show size≠0 by omega),D13]
   simp only[cond_false,cond_true]
   rw[hl,Nat.zero_add,D13]
  rw[hls]
  dsimp only
  rw[G4]
  simp only[K11]
  rw[G1,G1,G4]
  refine hk _ _ ⟨hlen,.inr ⟨nx,hlo,by omega,rfl,Z11 _ _ _⟩⟩ ((hE.new _ h1 (Nat.le_refl _)).new _ hlo (by omega)) fun i hi hne => ?_
  rw[Z1 _ (by omega),Z1 _ (fun h=>hne _ _ _ rfl h.symm)]
end
end Go.Clo
