/-
  The executor as a claim: groups in a region that draws;code with its joins marked;what such a claim says.
  The executor as a claim: what the claim of a function's code says of its calls.
  The executor as a claim: what each operation asks,value by value.
-/
import Derived.Test.YtoiioigihocgbaaGreatDoorN11
set_option linter.all false
noncomputable section
namespace Go.Clo
variable {T:K0 Value} {d n:Nat}
abbrev DK(β:Type):=K0 Value->Y0->Nat->List Y0->List Nat->List (Nat × C1)->List Rd->β
section
variable {β:Type} {P:Program} {d:Nat} {call:Z3 β} {z:β} {ms:List Nat} {N:Nat}
def X42(P:Program)(d:Nat)(call:Z3 β)(ms:List Nat)(N:Nat)(z:β)(k:DK β)(dst:Option Nat)(op:I)(i:Nat):DK β:=fun T H nx Ms es as rs=>
 match op with
   | .p op=>X4 P op T z fun v=>E4 d dst v T fun T=>k T H nx Ms es as rs
   | .r op=>U13 ms N es i H (fun h=>M9 P op T h z fun v=>E4 d dst v T fun T'=>k T' H nx Ms es as (⟨i,op,T,v⟩ :: rs)) as
   | .a op=>evA op T z fun b y=>M2 (N+i) fun q=>M0 (y.val q) fun v=>E4 d dst v T fun T=>k T H nx Ms es ((i,b) :: as) rs
   | .e op=>cond (es.all fun e=>D2 ms i e)
    (U13 ms N es i H (fun h=>evE op call T h nx z fun v H' nx=>E4 d dst v T fun T=>k T H' nx (H :: Ms) (i :: es) as rs) as) z
theorem K23(k:DK β)(g:Option (Nat × Bool))(dst:Option Nat)(op:I)(l:List S)(i:Nat)(T:K0 Value)(H:Y0)(nx:Nat)(Ms:List Y0)(es:List Nat)(as:List (Nat × C1))(rs:List Rd):
  Z4 P d call ms N z k (⟨g,dst,op⟩ :: l) i T H nx Ms es as rs=V8 g T z (X42 P d call ms N z (Z4 P d call ms N z k l (i+1)) dst op i T H nx Ms es as rs)
   (E4 d dst undef T fun T=>Z4 P d call ms N z k l (i+1) T H nx Ms es as rs):=rfl
theorem G49(k k':DK β)(dst:Option Nat)(op:I)(i:Nat)(T:K0 Value)(H:Y0)(nx:Nat)(Ms:List Y0)(es:List Nat)(as:List (Nat × C1))(rs:List Rd)
  (h:∀ v H nx Ms es as rs,k (B30 d dst v T) H nx Ms es as rs=k' (B30 d dst v T) H nx Ms es as rs):X42 P d call ms N z k dst op i T H nx Ms es as rs=X42 P d call ms N z k' dst op i T H nx Ms es as rs:=by
 unfold X42
 cases op with
 | p op=>dsimp only;congr 1;funext v;rw[K5,K5,h]
 | r op=>dsimp only;congr 1;funext hh;congr 1;funext v;rw[K5,K5,h]
 | a op=>dsimp only;congr 1;funext b y;rw[G1,G1,Y5,Y5,K5,K5,h]
 | e op=>dsimp only;congr 1;congr 1;funext hh;congr 1;funext v H' nx';rw[K5,K5,h]
theorem Q47(g:Option (Nat × Bool))(k:DK β):∀(l:List S) (i:Nat) (T:K0 Value) (H:Y0) (nx:Nat) (Ms:List Y0) (es:List Nat) (as:List (Nat × C1)) (rs:List Rd),WF d T->okL d g l=true->Y9 g T=some true ->
  Z4 P d call ms N z k (l.map (Y8 g)) i T H nx Ms es as rs=Z4 P d call ms N z k l i T H nx Ms es as rs
 | [],i,T,H,nx,Ms,es,as,rs,_,_,_=>rfl
 | s :: l,i,T,H,nx,Ms,es,as,rs,hw,hok,hd=>by
  obtain⟨g0,dst,op⟩:=s;have E:g0=none:=X43 hok;subst E;show Z4 P d call ms N z k (⟨g,dst,op⟩ :: l.map (Y8 g)) i T H nx Ms es as rs=_;rw[K23,K23,X10,X10 none,hd,G39];exact G49 _ _ dst op i T H nx Ms es as rs fun v H nx Ms es as rs=>Q47 g k l (i+1) _ H nx Ms es as rs (K28 hw) (J23 hok) ((V21 hw hok).trans hd)
theorem N49(g:Option (Nat × Bool))(k:DK β):∀(l:List S) (i:Nat) (T:K0 Value) (H:Y0) (nx:Nat) (Ms:List Y0) (es:List Nat) (as:List (Nat × C1)) (rs:List Rd),WF d T->okL d g l=true->Y9 g T=some false ->
  Z4 P d call ms N z k (l.map (Y8 g)) i T H nx Ms es as rs=Y15 d (fun T=>k T H nx Ms es as rs) l T
 | [],i,T,H,nx,Ms,es,as,rs,_,_,_=>rfl
 | s :: l,i,T,H,nx,Ms,es,as,rs,hw,hok,hd=>by
  obtain⟨g0,dst,op⟩:=s;show Z4 P d call ms N z k (⟨g,dst,op⟩ :: l.map (Y8 g)) i T H nx Ms es as rs=_;rw[K23,X10,hd];simp only[Y15];rw[K5,K5];exact N49 g k l (i+1) _ H nx Ms es as rs (K28 hw) (J23 hok) ((V21 (s:=⟨g0,dst,op⟩) hw hok).trans hd)
end
def G16(P:Program)(d:Nat)(ms:List Nat)(N:Nat)(k:DK Prop):List G->HT->Nat->DK Prop
 | [],_,_,T,H,nx,Ms,es,as,rs=>k T H nx Ms es as rs
 | (g,l) :: gs,ht,i,T,H,nx,Ms,es,as,rs=>match ht with
  | .nil=>False
  | .one r=>V8 g T False
   (Z4 P d (M8 P) ms N False (fun T H nx Ms es as rs=>G16 P d ms N k gs r (i+l.length) T H nx Ms es as rs) l i T H nx Ms es as rs)
   (Y15 d (fun T=>G16 P d ms N k gs r (i+l.length) T H nx Ms es as rs) l T)
  | .tst y n=>G54 d g T
   (fun T=>Z4 P d (M8 P) ms N False (fun T H nx Ms es as rs=>G16 P d ms N k gs y (i+l.length) T H nx Ms es as rs) l i T H nx Ms es as rs)
   (fun T=>Y15 d (fun T=>G16 P d ms N k gs n (i+l.length) T H nx Ms es as rs) l T)
theorem U30{P:Program}{ms:List Nat}{N:Nat}{g:Option (Nat × Bool)}{l:List S}{i:Nat}{T:K0 Value}{H:Y0}{nx:Nat}{Ms:List Y0}{es:List Nat}{as:List (Nat × C1)}{rs:List Rd}{k:DK Prop}(hw:WF d T)(E:okL d g l=true)
  (h:(Y9 g T=some true/\Z4 P d (M8 P) ms N False k l i T H nx Ms es as rs)\/(Y9 g T=some false/\Y15 d (fun T=>k T H nx Ms es as rs) l T)):Z4 P d (M8 P) ms N False k (l.map (Y8 g)) i T H nx Ms es as rs:=by
 rcases h with ⟨hd,h⟩ | ⟨hd,h⟩
 .rw[Q47 g k l i T H nx Ms es as rs hw E hd];exact h
 .rw[N49 g k l i T H nx Ms es as rs hw E hd];exact h
theorem Z39{P:Program}{d n:Nat}{ops:List Oper}{N:Nat}{H0:Y0}{n0:Nat}{T0:K0 Value}(hn:n<=2^d)(k:DK Prop):
  ∀(gs:List G) (ht:HT) (suf:List Oper) (rc:List D3) (T:K0 Value),R3 P n ops suf=some (Q11 gs)->(∀ j,j<suf.length->suf[j]? = ops[rc.length+j]?)->okG d gs=true->B11 P d n ops N H0 n0 T0 rc->WF d T->(∀ t,t<n->(tg T t).getD undef=C10 ops T0 rc t) ->
  G16 P d (U1 ops) N k gs ht rc.length T (hR H0 rc) (nR n0 rc) (MsR H0 rc) (D1 rc) (B3 rc) (rsR rc) ->
  ∃ E T',E.length=rc.length+suf.length/\B11 P d n ops N H0 n0 T0 E/\WF d T'/\(∀ t,t<n->(tg T' t).getD undef=C10 ops T0 E t) /\
   k T' (hR H0 E) (nR n0 E) (MsR H0 E) (D1 E) (B3 E) (rsR E)
 | [],ht,suf,rc,T,hc,hsuf,hok,hall,hw,hT,h=>by
  cases suf with
  | nil=>exact⟨rc,T,rfl,hall,hw,hT,h⟩
  | cons o suf=>
   simp only[Q11,R3] at hc
   split at hc<;>simp at hc
 | (g,l) :: gs,ht,suf,rc,T,hc,hsuf,hok,hall,hw,hT,h=>by
  simp only[okG,Bool.and_eq_true] at hok;obtain⟨s1,s2,rfl,O,V⟩:=W19 hc;have Z:l.length=s1.length:=by have:=K18 O;simpa using this
  have Q:∃ J,Z4 P d (M8 P) (U1 ops) N False (fun T H nx Ms es as rs=>G16 P d (U1 ops) N k gs J (rc.length+l.length) T H nx Ms es as rs) (l.map (Y8 g)) rc.length T (hR H0 rc) (nR n0 rc) (MsR H0 rc) (D1 rc) (B3 rc) (rsR rc):=by
   simp only[G16] at h
   cases ht with
   | nil=>exact h.elim
   | one r=>
    dsimp only at h;rw[X10] at h;refine⟨r,U30 hw hok.1.1.1 ?_⟩
    cases hd:Y9 g T with
    | none=>rw[hd] at h;exact h.elim
    | some b=>
     rw[hd] at h
     cases b with
     | true=>exact .inl ⟨rfl,h⟩
     | false=>exact .inr ⟨rfl,h⟩
   | tst y m=>
    dsimp only at h;rcases Q51 hw hok.2 h with ⟨hd,h⟩ | ⟨hd,h⟩
    .exact⟨y,U30 hw hok.1.1.1 (.inl ⟨hd,h⟩)⟩
    .exact⟨m,U30 hw hok.1.1.1 (.inr ⟨hd,h⟩)⟩
  obtain⟨J,h'⟩:=Q;have U:∀ j,j<s1.length->s1[j]? = ops[rc.length+j]? := fun j hj=>by
   have:=hsuf j (by simp;omega);rw[List.getElem?_append_left hj] at this;exact this
  rcases U32 (N:=N) (H0:=H0) (n0:=n0) (T0:=T0) (X48 P) hn False _ s1 _ rc T O U hall hw hT with h1 | ⟨rc1,T1,hlen,hall1,hw1,hT1,h1⟩
  .rw[h1] at h';exact h'.elim
  .rw[h1] at h'
   have a0:∀ j,j<s2.length->s2[j]? = ops[rc1.length+j]? := fun j hj=>by
    have:=hsuf (s1.length+j) (by simp;omega);rw[List.getElem?_append_right (by omega)] at this;rw[hlen];simpa [Nat.add_assoc] using this
   rw[Z,<- hlen] at h';obtain⟨W,T2,g1,g2,g3,g4,g5⟩:=Z39 hn k gs J s2 rc1 T1 V a0 hok.1.2 hall1 hw1 hT1 h';exact⟨W,T2,by simp;omega,g2,g3,g4,g5⟩
inductive D where
 | skip
 | ops (gs:List G) (ht:HT)
 | draw (ms:List Nat) (gs:List G) (ht:HT)
 | seq (a b:D)
 | join (ws ds:List Nat) (a b:D)
 | cond (x:X) (t e:D)
 | block (id:Nat) (c:D)
 | loop (ws ds:List Nat) (c:D)
 | exit (id:Nat)
 | ret
def D.erase:D->C
 | .skip => .skip
 | .ops gs _ => .ops (Q11 gs)
 | .draw ms gs _ => .draw ms (Q11 gs)
 | .seq a b => .seq a.erase b.erase
 | .join _ _ a b => .seq a.erase b.erase
 | .cond x t e => .cond x t.erase e.erase
 | .block id c => .block id c.erase
 | .loop _ _ c => .loop c.erase
 | .exit id => .exit id
 | .ret => .ret
def D.writes:D->List Nat
 | .ops gs _=>X28 gs
 | .draw _ gs _=>X28 gs
 | .seq a b=>a.writes++b.writes
 | .join ws ds a b=>a.writes++((ws++ds)++b.writes)
 | .cond _ t e=>t.writes++e.writes
 | .block _ c=>c.writes
 | .loop ws ds c=>(ws++ds)++c.writes
 | _=>[]
def K54(a b:List Nat):Bool:=a.all fun x=>b.any fun y=>Nat.beq x y
def Y56(n:Nat)(l:List Nat):Bool:=l.all fun x=>Nat.blt x n
def X19:List Nat->Bool
 | []=>true
 | x :: l => !(l.any fun y=>Nat.beq x y)&&X19 l
def D.ok(n d:Nat):D->Bool
 | .ops gs _=>okG d gs
 | .draw _ gs _=>okG d gs
 | .seq a b=>a.ok n d&&b.ok n d
 | .join ws ds a b=>K54 a.writes (ws++ds)&&Y56 n (ws++ds)&&X19 ws&&a.ok n d&&b.ok n d
 | .cond _ t e=>t.ok n d&&e.ok n d
 | .block _ c=>c.ok n d
 | .loop ws ds c=>K54 c.writes (ws++ds)&&Y56 n (ws++ds)&&X19 ws&&c.ok n d
 | _=>true
abbrev JK:=List Value->Y0->Nat->Prop
def W21{β:Type}(T:K0 Value)(ws:List Nat):(List Value->β)->β:=
 @List.rec Nat (fun _=>(List Value->β)->β) (fun k=>k []) (fun w _ ih k=>tgK T w (ih fun vs=>k (undef :: vs)) fun v=>ih fun vs=>k (v :: vs)) ws
def W23{β:Type}(d:Nat)(L:List Value):List Nat->Nat->K0 Value->(K0 Value->β)->β
 | [],_,T,k=>k T
 | w :: ws,i,T,k=>tsK d T w (L.getD i undef) fun T=>W23 d L ws (i+1) T k
def Q23{β:Type}(d:Nat):List Nat->K0 Value->(K0 Value->β)->β
 | [],T,k=>k T
 | w :: ws,T,k=>tsK d T w C34 fun T=>Q23 d ws T k
def V4(body:JK->Prop)(E:JK):Prop:=body E
def Q33(F:JK->JK)(m:Nat):JK:=@Nat.rec (fun _=>JK) (fun _ _ _=>False) (fun _ ih=>F ih) m
def G3(F:JK->JK)(L:List Value)(H:Y0)(nx:Nat):Prop:=∃ m,Q33 F m L H nx
def K2(v:Value)(t e:Prop):Prop:=
 match v with
 | .bool b=>ifK b t e
 | _=>False
def wD(P:Program)(d:Nat)(c:D):K0 Value->Y0->Nat->K Prop->(Nat->K Prop)->K Prop->Prop:=
 match c with
 | .skip=>fun T H nx k _ _=>k T H nx
 | .ops gs ht=>fun T H nx k _ _=>Q17 P d k gs ht T H nx
 | .draw ms gs ht=>fun T H nx k _ _=>M2 (nx+(Q11 gs).length) fun nx'=>
   G16 P d ms nx (fun T H n Ms es as rs=>W62 P ms nx as rs es Ms H (Z13 ms nx es H (fun H=>k T H n) as) False) gs ht 0 T H nx' [] [] [] []
 | .seq a b=>fun T H nx k x r=>wD P d a T H nx (fun T H nx=>wD P d b T H nx k x r) x r
 | .join ws ds a b=>fun T H nx k x r=>V4 (fun j=>wD P d a T H nx (fun T H nx=>W21 T ws fun L=>j L H nx) x r)
   (fun L H nx=>Q23 d ds T fun T=>W23 d L ws 0 T fun T=>wD P d b T H nx k x r)
 | .cond c t e=>fun T H nx k x r=>W4 T c fun v=>K2 v (wD P d t T H nx k x r) (wD P d e T H nx k x r)
 | .block id c=>fun T H nx k x r=>wD P d c T H nx k (fun E T H nx=>cond (Nat.beq E id) (k T H nx) (x E T H nx)) r
 | .loop ws ds c=>fun T H nx _ x r=>W21 T ws fun L=>G3 (fun ih L H nx=>Q23 d ds T fun T=>W23 d L ws 0 T fun T=>wD P d c T H nx (fun T H nx=>W21 T ws fun L=>ih L H nx) x r) L H nx
 | .exit id=>fun T H nx _ x _=>x id T H nx
 | .ret=>fun T H nx _ _ r=>r T H nx
def slots(T:K0 Value)(ws:List Nat):List Value:=ws.map fun w=>(tg T w).getD undef
theorem D18{β:Type}(T:K0 Value):∀(ws:List Nat) (k:List Value->β),W21 T ws k=k (slots T ws)
 | [],k=>rfl
 | w :: ws,k=>by
  show tgK T w (W21 T ws fun vs=>k (undef :: vs)) (fun v=>W21 T ws fun vs=>k (v :: vs))=_;rw[J11]
  cases h:tg T w with
  | none=>simp only[Option.elim_none];rw[D18 T ws];simp[slots,h]
  | some v=>simp only[Option.elim_some];rw[D18 T ws];simp[slots,h]
def M21(d:Nat)(L:List Value):List Nat->Nat->K0 Value->K0 Value
 | [],_,T=>T
 | w :: ws,i,T=>M21 d L ws (i+1) (ts d T w (L.getD i undef))
theorem Q31{β:Type}(d:Nat)(L:List Value):∀(ws:List Nat) (i:Nat) (T:K0 Value) (k:K0 Value->β),W23 d L ws i T k=k (M21 d L ws i T)
 | [],_,_,_=>rfl
 | w :: ws,i,T,k=>by simp only[W23,M21];rw[Z15];exact Q31 d L ws _ _ k
def J16(d:Nat):List Nat->K0 Value->K0 Value
 | [],T=>T
 | w :: ws,T=>J16 d ws (ts d T w C34)
theorem G30{β:Type}(d:Nat):∀(ws:List Nat) (T:K0 Value) (k:K0 Value->β),Q23 d ws T k=k (J16 d ws T)
 | [],_,_=>rfl
 | w :: ws,T,k=>by simp only[Q23,J16];rw[Z15];exact G30 d ws _ k
theorem U28{d:Nat}{L:List Value}:∀ {ws:List Nat} {i:Nat} {T:K0 Value},WF d T->WF d (M21 d L ws i T)
 | [],_,_,h=>h
 | w :: ws,i,T,h=>U28 (ws:=ws) (U16 d T w _ h)
theorem M15{d:Nat}:∀ {ws:List Nat} {T:K0 Value},WF d T->WF d (J16 d ws T)
 | [],_,h=>h
 | w :: ws,T,h=>M15 (ws:=ws) (U16 d T w _ h)
theorem E25{d n:Nat}(hn:n<=2^d):∀ {ws:List Nat} {T:K0 Value},WF d T->(∀ w ∈ ws,w<n)->∀ j,j<n->(tg (J16 d ws T) j).getD undef=if j ∈ ws then C34 else(tg T j).getD undef
 | [],T,_,_,j,_=>by simp[J16]
 | w :: ws,T,hw,hl,j,hj=>by
  have E:w<n:=hl w (by simp);simp only[J16];rw[E25 hn (U16 d T w _ hw) (fun x hx=>hl x (by simp[hx])) j hj]
  by_cases h1:j ∈ ws
  .simp[h1]
  .rw[if_neg h1,K21 d T w j _ hw (by omega) (by omega)]
   by_cases h2:j=w
   .simp[h2]
   .simp[h1,h2]
theorem M30{d n:Nat}(hn:n<=2^d){L:List Value}:∀ {ws:List Nat} {i:Nat} {T:K0 Value},WF d T->(∀ w ∈ ws,w<n)->X19 ws=true->∀ j,j<n ->
  (j ∉ ws->(tg (M21 d L ws i T) j).getD undef=(tg T j).getD undef)/\(∀ q,ws[q]? = some j->(tg (M21 d L ws i T) j).getD undef=L.getD (i+q) undef)
 | [],i,T,_,_,_,j,_=>⟨fun _=>rfl,fun q h=>by simp at h⟩
 | w :: ws,i,T,hw,hl,hnd,j,hj=>by
  have O:w<n:=hl w (by simp);simp only[X19,Bool.and_eq_true] at hnd;have J:w ∉ ws:=by
   intro h;have:=hnd.1;simp at this;exact this w h rfl
  obtain⟨h1,h2⟩:=M30 hn (L:=L) (ws:=ws) (i:=i+1) (U16 d T w (L.getD i undef) hw) (fun x hx=>hl x (by simp[hx])) hnd.2 j hj;simp only[M21];refine⟨fun E => ?_,fun q hq => ?_⟩
  .simp at E
   rw[h1 E.2,K21 d T w j _ hw (by omega) (by omega),if_neg E.1]
  .cases q with
   | zero=>
    simp at hq;subst hq;rw[h1 J,K21 d T w w _ hw (by omega) (by omega),if_pos rfl];simp
   | succ q=>
    rw[h2 q (by simpa using hq)];congr 1;omega
theorem TR.join{F:FM}{T':K0 Value}{tmps:Array Value}{ws ds W:List Nat}(hn:n<=2^d)(J:WF d T)(ht:TR d F T' n tmps)(ha:U8 n W T T')(hs:∀ j ∈ W,j ∈ ws++ds)(hl:∀ j ∈ ws++ds,j<n)(V:X19 ws=true):
  TR d F (M21 d (slots T' ws) ws 0 (J16 d ds T)) n tmps:=by
 have Q:∀ w ∈ ws,w<n:=fun w h=>hl w (List.mem_append_left _ h)
 have U:∀ w ∈ ds,w<n:=fun w h=>hl w (List.mem_append_right _ h)
 refine⟨U28 (M15 J),ht.size,ht.le,fun j hj => ?_⟩;obtain⟨h1,h2⟩:=M30 hn (L:=slots T' ws) (ws:=ws) (i:=0) (M15 (ws:=ds) J) Q V j hj
 by_cases O:j ∈ ws
 .obtain⟨q,hq⟩:=List.getElem?_of_mem O
  rw[h2 q hq];have:(slots T' ws).getD (0+q) undef=(tg T' j).getD undef:=by simp[slots,hq]
  rw[this];exact ht.get j hj
 .rw[h1 O,E25 hn J U j hj]
  by_cases E:j ∈ ds
  .rw[if_pos E];exact .any _
  .rw[if_neg E,<- ha j hj (fun h=>(List.mem_append.1 (hs j h)).elim O E)]
   exact ht.get j hj
theorem Y24{L:List Value}{ws ds:List Nat}(hn:n<=2^d)(J:WF d T)(hl:∀ j ∈ ws++ds,j<n)(O:X19 ws=true):U8 n (ws++ds) T (M21 d L ws 0 (J16 d ds T)):=by
 intro j hj E;rw[List.mem_append] at E;obtain⟨h1,_⟩:=M30 hn (L:=L) (ws:=ws) (i:=0) (M15 (ws:=ds) J) (fun w h=>hl w (List.mem_append_left _ h)) O j hj;rw[h1 (fun h=>E (.inl h)),E25 hn J (fun w h=>hl w (List.mem_append_right _ h)) j hj,if_neg (fun h=>E (.inr h))]
theorem V48{a b:List Nat}(h:K54 a b=true):∀ j ∈ a,j ∈ b:=by
 intro j hj;unfold K54 at h;have:=List.all_eq_true.1 h j hj;obtain⟨y,hy,he⟩:=List.any_eq_true.1 this;rw[Nat.eq_of_beq_eq_true he];exact hy
theorem X39{a:List Nat}(h:Y56 n a=true):∀ j ∈ a,j<n:=by
 intro j hj;have:=List.all_eq_true.1 h j hj;simpa using this
end Go.Clo

namespace Go.Clo
theorem R29:∀(gs:List G),Q10 (Q11 gs)=X28 gs
 | []=>rfl
 | (g,l) :: gs=>by
  have app:∀(a b:List S),Q10 (a++b)=Q10 a++Q10 b:=by
   intro a b
   induction a with
   | nil=>rfl
   | cons s a ih=>simp[Q10,ih]
  have mp:∀(a:List S),Q10 (a.map (Y8 g))=Q10 a:=by
   intro a
   induction a with
   | nil=>rfl
   | cons s a ih=>simp[Q10,ih,Y8]
  simp only[Q11,X28];rw[app,mp,R29 gs]
section
variable {P:Program} {d n:Nat}
theorem W45(hm:P.follows .mixedOrders=true)(hn:n<=2^d):∀(G6:Code) (c:D),R2 P n G6=some c.erase->c.ok n d=true->∀(T:K0 Value) (H:Y0) (nx:Nat) (k:K Prop) (x:Nat->K Prop) (r:K Prop),WF d T->wD P d c T H nx k x r ->
  ∃ o T' H' nx',Ox.go k x r o T' H' nx'/\WF d T'/\U8 n c.writes T T'/\R47 P d n G6 T H nx o T' H' nx':=by
 intro G6
 induction G6 with
 | skip=>
  intro c hc Z T H nx k x r hw hk;simp only[R2,Option.some.injEq] at hc
  cases c<;>simp[D.erase] at hc
  exact⟨.n,T,H,nx,hk,hw,U8.refl _ _ _,fun F a w Q ht hr hk=>wp_skip (hk F a w ht (N2.refl hr) rfl)⟩
 | label l=>
  intro c hc Z T H nx k x r hw hk;simp only[R2,Option.some.injEq] at hc
  cases c<;>simp[D.erase] at hc
  exact⟨.n,T,H,nx,hk,hw,U8.refl _ _ _,fun F a w Q ht hr hk=>wp_label (hk F a w ht (N2.refl hr) rfl)⟩
 | exit id=>
  intro c hc Z T H nx k x r hw hk;simp only[R2,Option.some.injEq] at hc
  cases c<;>simp[D.erase] at hc
  subst hc;exact⟨.x id,T,H,nx,hk,hw,U8.refl _ _ _,fun F a w Q ht hr hk=>wp_exit (hk F a w ht (N2.refl hr) rfl)⟩
 | ret=>
  intro c hc Z T H nx k x r hw hk;simp only[R2,Option.some.injEq] at hc
  cases c<;>simp[D.erase] at hc
  exact⟨.r,T,H,nx,hk,hw,U8.refl _ _ _,fun F a w Q ht hr hk=>wp_ret (hk F a w ht (N2.refl hr) rfl)⟩
 | goto l=>intro c hc;simp[R2] at hc
 | refuse av=>intro c hc;simp[R2] at hc
 | rangeFunc f ps as b _ _=>intro c hc;simp[R2] at hc
 | region id ops draw=>
  intro c hc Z T H nx k x r hw hk;simp only[R2] at hc
  cases hl:R3 P n ops.toList ops.toList with
  | none=>simp[hl] at hc
  | some l=>
   simp only[hl] at hc
   cases draw with
   | false=>
    simp only[Option.some.injEq] at hc
    cases c<;>simp[D.erase] at hc
    rename_i gs a9;subst hc;obtain⟨T',H',nx',aq,ab,an,hp⟩:=D33 (d:=d) hn k gs a9 ops.toList 0 hl (fun j _=>by simp) Z T H nx hw hk;refine⟨.n,T',H',nx',aq,ab,an,fun F a w Q ht hr hk=>wp_region ?_⟩;have:=hp F a w Q ht hr hk;simpa [List.range_eq_range'] using this
   | true=>
    cases hs:E13 (U1 ops.toList) ops.toList ops.toList 0 with
    | false=>simp[hs] at hc
    | true=>
     simp only[hs,cond_true,Option.some.injEq] at hc
     cases c<;>simp[D.erase] at hc
     rename_i ms gs a9;obtain⟨rfl,rfl⟩:=hc;simp only[wD] at hk;rw[G1,K18 hl] at hk;obtain⟨rc,T',h1,ak,ab,ai,h5⟩:=Z39 (N:=nx) (H0:=H) (n0:=nx+ops.toList.length) (T0:=T) hn _ gs a9 ops.toList [] T hl (by simp) Z trivial hw (fun t _=>rfl) hk;rcases M66 P d n ops.toList nx H rc (Z13 (U1 ops.toList) nx (D1 rc) (hR H rc) (fun H=>k T' H (nR (nx+ops.toList.length) rc)) (B3 rc)) False with h | ⟨h,hrs⟩
     .rw[h] at h5;exact h5.elim
     .rw[h,N23] at h5
      refine⟨.n,T',_,_,h5,ab,?_,fun F a w Q ht hr hk => ?_⟩
      .have hv:U8 n (Q10 (Q11 gs)) T T':=fun j hj ah=>by rw[ai j hj];exact C24 (N21 hl) ah
       rw[R29] at hv;exact hv
      .have:=N38 hm hs hn (by simpa using h1) ak ab ai hrs id F a w Q ht hr hk
       simpa using this
 | seq a b a1 ae=>
  intro c hc Z T H nx k x r hw hk;simp only[R2] at hc
  cases ha:R2 P n a with
  | none=>simp[ha] at hc
  | some ca=>cases hb:R2 P n b with
   | none=>simp[ha,hb] at hc
   | some cb=>
    simp only[ha,hb,Option.some.injEq] at hc
    cases c<;>simp only[D.erase,C.seq.injEq,reduceCtorEq] at hc
    .rename_i da db
     obtain⟨rfl,rfl⟩:=hc;simp only[D.ok,Bool.and_eq_true] at Z;obtain⟨o,T1,H1,W,h,a0,V,E⟩:=a1 da ha Z.1 T H nx (fun T H nx=>wD P d db T H nx k x r) x r hw hk
     cases o with
     | n=>
      obtain⟨o2,T2,H2,nx2,h2,a8,aa,a5⟩:=ae db hb Z.2 T1 H1 W k x r a0 h;refine⟨o2,T2,H2,nx2,h2,a8,V.trans aa,fun F ac w Q ht hr hk=>wp_seq (E F ac w _ ht hr fun F' a' w' O J U => ?_)⟩;exact a5 F' a' w' Q O J.hr fun F2 a2 w2 a7 a4 a3=>hk F2 a2 w2 a7 (J.trans a4) (a3.trans U)
     | x id=>exact⟨.x id,T1,H1,W,h,a0,V.mono (fun j hj=>List.mem_append_left _ hj),fun F ac w Q ht hr hk=>wp_seq (E F ac w _ ht hr fun F' a' w' O J U=>hk F' a' w' O J U)⟩
     | r=>exact⟨.r,T1,H1,W,h,a0,V.mono (fun j hj=>List.mem_append_left _ hj),fun F ac w Q ht hr hk=>wp_seq (E F ac w _ ht hr fun F' a' w' O J U=>hk F' a' w' O J U)⟩
    .rename_i ws ds da db
     obtain⟨rfl,rfl⟩:=hc;simp only[D.ok,Bool.and_eq_true] at Z;obtain⟨⟨⟨⟨q1,q2⟩,q3⟩,q4⟩,q5⟩:=Z;have hl:=X39 q2;obtain⟨o,T1,H1,W,h,a0,V,E⟩:=a1 da ha q4 T H nx (fun T1 H nx=>W21 T1 ws fun L=>Q23 d ds T fun T=>W23 d L ws 0 T fun T=>wD P d db T H nx k x r) x r hw hk
     cases o with
     | n=>
      simp only[Ox.go] at h;rw[D18,G30,Q31] at h;obtain⟨o2,T2,H2,nx2,h2,a8,aa,a5⟩:=ae db hb q5 _ H1 W k x r (U28 (M15 hw)) h;refine⟨o2,T2,H2,nx2,h2,a8,?_,fun F ac w Q ht hr hk=>wp_seq (E F ac w _ ht hr fun F' a' w' O J U => ?_)⟩
      .exact((Y24 hn hw hl q3).trans aa).mono fun j hj=>List.mem_append_right _ hj
      .exact a5 F' a' w' Q (TR.join hn hw O V (V48 q1) hl q3) J.hr fun F2 a2 w2 a7 a4 a3=>hk F2 a2 w2 a7 (J.trans a4) (a3.trans U)
     | x id=>exact⟨.x id,T1,H1,W,h,a0,V.mono (fun j hj=>List.mem_append_left _ hj),fun F ac w Q ht hr hk=>wp_seq (E F ac w _ ht hr fun F' a' w' O J U=>hk F' a' w' O J U)⟩
     | r=>exact⟨.r,T1,H1,W,h,a0,V.mono (fun j hj=>List.mem_append_left _ hj),fun F ac w Q ht hr hk=>wp_seq (E F ac w _ ht hr fun F' a' w' O J U=>hk F' a' w' O J U)⟩
 | cond v a b a1 ae=>
  intro c hc Z T H nx k x r hw hk;simp only[R2] at hc
  cases hv:N0 n v with
  | none=>simp[hv] at hc
  | some cv=>cases ha:R2 P n a with
   | none=>simp[hv,ha] at hc
   | some ca=>cases hb:R2 P n b with
    | none=>simp[hv,ha,hb] at hc
    | some cb=>
     simp only[hv,ha,hb,Option.some.injEq] at hc
     cases c<;>simp only[D.erase,C.cond.injEq,reduceCtorEq] at hc
     rename_i y da db;obtain⟨rfl,rfl,rfl⟩:=hc;simp only[D.ok,Bool.and_eq_true] at Z;simp only[wD] at hk;rw[G2] at hk;unfold K2 at hk
     split at hk
     .rename_i t al
      rw[E14] at hk;have aj:∀(F:FM) (ac:Act),TR d F T n ac.tmps->ac.eval v = .bool t:=fun F ac ht=>by
       have:=ht.evX hv;rw[al] at this;exact this.bool_inv
      cases t with
      | true=>
       obtain⟨o,T1,H1,W,h,a0,V,E⟩:=a1 da ha Z.1 T H nx k x r hw (by simpa using hk);exact⟨o,T1,H1,W,h,a0,V.mono (fun j hj=>List.mem_append_left _ hj),fun F ac w Q ht hr hk=>wp_cond_true (aj F ac ht) (E F ac w Q ht hr hk)⟩
      | false=>
       obtain⟨o,T1,H1,W,h,a0,V,E⟩:=ae db hb Z.2 T H nx k x r hw (by simpa using hk);exact⟨o,T1,H1,W,h,a0,V.mono (fun j hj=>List.mem_append_right _ hj),fun F ac w Q ht hr hk=>wp_cond_false (aj F ac ht) (E F ac w Q ht hr hk)⟩
     .exact hk.elim
 | block id a a1=>
  intro c hc Z T H nx k x r hw hk;simp only[R2] at hc
  cases ha:R2 P n a with
  | none=>simp[ha] at hc
  | some ca=>
   simp only[ha,Option.map_some,Option.some.injEq] at hc
   cases c<;>simp only[D.erase,C.block.injEq,reduceCtorEq] at hc
   rename_i au da;obtain⟨rfl,rfl⟩:=hc;obtain⟨o,T1,H1,W,h,a0,V,E⟩:=a1 da ha Z T H nx k (fun a6 T H nx=>cond (Nat.beq a6 id) (k T H nx) (x a6 T H nx)) r hw hk
   cases o with
   | n=>exact⟨.n,T1,H1,W,h,a0,V,fun F ac w Q ht hr hk=>wp_block (E F ac w _ ht hr fun F' a' w' O J U=>hk F' a' w' O J U)⟩
   | r=>exact⟨.r,T1,H1,W,h,a0,V,fun F ac w Q ht hr hk=>wp_block (E F ac w _ ht hr fun F' a' w' O J U=>hk F' a' w' O J U)⟩
   | x a6=>
    simp only[Ox.go] at h
    cases ad:Nat.beq a6 id with
    | true=>
     have e:=Nat.eq_of_beq_eq_true ad;subst e;rw[ad] at h;refine⟨.n,T1,H1,W,h,a0,V,fun F ac w Q ht hr hk=>wp_block (E F ac w _ ht hr fun F' a' w' O J U => ?_)⟩;simp only[Ox.exit,Exit.inBlock,if_true];exact hk F' a' w' O J U
    | false=>
     have e:a6≠id:=fun e=>by subst e;simp at ad
     rw[ad] at h;refine⟨.x a6,T1,H1,W,h,a0,V,fun F ac w Q ht hr hk=>wp_block (E F ac w _ ht hr fun F' a' w' O J U => ?_)⟩;simp only[Ox.exit,Exit.inBlock,e,if_false];exact hk F' a' w' O J U
 | scope a a1=>
  intro c hc Z T H nx k x r hw hk;simp only[R2] at hc;obtain⟨o,T1,H1,W,h,a0,V,E⟩:=a1 c hc Z T H nx k x r hw hk;refine⟨o,T1,H1,W,h,a0,V,fun F ac w Q ht hr hk=>wp_scope_straight (E F ac w _ ht hr fun F' a' w' O J U => ?_)⟩
  cases o<;>exact hk F' a' w' O J U
 | loop a a1=>
  intro c hc Z T H nx k x r hw hk;simp only[R2] at hc
  cases ha:R2 P n a with
  | none=>simp[ha] at hc
  | some ca=>
   simp only[ha,Option.map_some,Option.some.injEq] at hc
   cases c<;>simp only[D.erase,C.loop.injEq,reduceCtorEq] at hc
   rename_i ws ds da;subst hc;simp only[D.ok,Bool.and_eq_true] at Z;obtain⟨⟨⟨q1,q2⟩,q3⟩,q4⟩:=Z;have hl:=X39 q2;simp only[wD] at hk;rw[D18] at hk;obtain⟨m,hk⟩:=hk;generalize hF:(fun(ih:JK) (L:List Value) (H:Y0) (nx:Nat)=>Q23 d ds T fun T=>W23 d L ws 0 T fun T=>wD P d da T H nx (fun T H nx=>W21 T ws fun L=>ih L H nx) x r)=Fn at hk;have ag:∀(m:Nat) (L:List Value) (H:Y0) (nx:Nat),Q33 Fn m L H nx ->
     ∃(o:Ox) (T':K0 Value) (H':Y0) (nx':Nat),o ≠ .n/\Ox.go k x r o T' H' nx'/\WF d T'/\U8 n ((ws++ds)++da.writes) T T' /\
      ∀(F:FM) (ac:Act) (w:World) (Q:Exit->Act->World->Prop),TR d F (M21 d L ws 0 (J16 d ds T)) n ac.tmps->HR F H nx w ->
       (∀ F' a' w',TR d F' T' n a'.tmps->N2 F H nx w F' H' nx' w'->a'.defers=ac.defers->Q o.exit a' w')->Code.rounds P a Q m ac w:=by
    intro m
    induction m with
    | zero=>intro L H nx h;exact h.elim
    | succ m ap=>
     intro L H nx h;have h':Fn (Q33 Fn m) L H nx:=h;rw[<- hF] at h';rw[G30,Q31] at h';obtain⟨o,T1,H1,W,h1,a0,V,E⟩:=a1 da ha q4 _ H nx _ x r (U28 (M15 hw)) h'
     cases o with
     | n=>
      simp only[Ox.go] at h1;rw[D18,hF] at h1;obtain⟨o2,T2,H2,nx2,ah,h2,a8,aa,a5⟩:=ap _ H1 W h1;refine⟨o2,T2,H2,nx2,ah,h2,a8,aa,fun F ac w Q ht hr hk => ?_⟩;rw[rounds_succ];refine E F ac w _ ht hr fun F' a' w' O J U => ?_
      have ao:U8 n (ws++ds) T T1:=((Y24 (L:=L) hn hw hl q3).trans V).mono fun j hj=>(List.mem_append.1 hj).elim id (V48 q1 j)
      exact a5 F' a' w' Q (TR.join hn hw O ao (fun j hj=>hj) hl q3) J.hr fun F2 a2 w2 a7 a4 a3=>hk F2 a2 w2 a7 (J.trans a4) (a3.trans U)
     | x id=>
      refine⟨.x id,T1,H1,W,by simp,h1,a0,(Y24 hn hw hl q3).trans V,fun F ac w Q ht hr hk => ?_⟩;rw[rounds_succ];exact E F ac w _ ht hr fun F' a' w' O J U=>hk F' a' w' O J U
     | r=>
      refine⟨.r,T1,H1,W,by simp,h1,a0,(Y24 hn hw hl q3).trans V,fun F ac w Q ht hr hk => ?_⟩;rw[rounds_succ];exact E F ac w _ ht hr fun F' a' w' O J U=>hk F' a' w' O J U
   obtain⟨o,T1,H1,W,_,h,a0,V,E⟩:=ag m _ H nx hk;refine⟨o,T1,H1,W,h,a0,V,fun F ac w Q ht hr hk=>wp_loop_rounds m (E F ac w Q ?_ hr hk)⟩;exact TR.join hn hw ht (U8.refl n (ws++ds) T) (fun j hj=>hj) hl q3
def X55(P:Program)(n d:Nat)(body:D)(res:List (X × Option (Option Nat)))(args:List Value)(H:Y0)(nx:Nat)(Q:Value->Y0->Nat->Prop):Prop:=
 J27 d args 0 .leaf fun T=>wD P d body T H nx (G14 P res False Q) (fun _ _ _ _=>False) (G14 P res False Q)
theorem X44(hm:P.follows .mixedOrders=true)(a3:J18 P){f:FuncId}{body:D}{res:List (X × Option (Option Nat))}(E:cfn P f=some ⟨n,d,body.erase,res⟩)(a6:body.ok n d=true){args:List Value}(hl:args.length<=n)
  {H:Y0}{nx:Nat}{Q:Value->Y0->Nat->Prop}(h:X55 P n d body res args H nx Q):Q2 P f args H nx Q:=by
 unfold cfn at E;rw[Q8] at E
 cases hf:P.funcs.toList[f]? with
 | none=>simp[hf] at E
 | some fn=>
  simp only[hf] at E;have U:P.funcs[f]? = some fn:=by simpa using hf
  cases hb:fn.body with
  | none=>simp[hb] at E
  | some c=>
   simp only[hb] at E
   cases hc:R2 P fn.ntmps c with
   | none=>simp[hc] at E
   | some cb=>
    cases O:M17 P fn.ntmps fn.results.toList with
    | none=>simp[hc,O] at E
    | some rs=>
     simp only[hc,O,Option.some.injEq,CF.mk.injEq] at E;obtain⟨rfl,hd,rfl,rfl⟩:=E;have W:fn.ntmps<=2^d:=by rw[<- hd];exact Nat.le_of_lt Nat.lt_log2_self
     unfold X55 at h;rw[Z24] at h;have wl:WF d (.leaf:K0 Value):=by cases d<;>trivial
     have hw:=Y19 d args 0 .leaf wl;obtain⟨o,T',H',nx',h1,a8,_,a0⟩:=W45 hm W c body hc a6 _ H nx _ _ _ hw h;have a1:(o = .n\/o = .r)->G14 P rs False Q T' H' nx'->Q2 P f args H nx Q:=by
      intro hx J;unfold G14 at J;rcases B35 (d:=d) (T:=T') (H:=H') (nx:=nx') False _ rs O (fun vs=>M0 (tup vs) fun v=>Q v H' nx') with h2 | ⟨vs,h2,hok2⟩
      .rw[h2] at J;exact J.elim
      .rw[h2,Y5] at J
       refine⟨tup vs,H',nx',⟨⟨fn,c,U,hb,a3 f fn U⟩,fun F a5 w hr hv => ?_⟩,J⟩;refine calls_of_wp U hb (a0 F _ w _ (W32 hv W hl) hr fun F' a' w' a4 Z a7 => ?_);obtain⟨a2,h3,h4⟩:=hok2 F' a'.tmps w' a4 Z.hr.hb;have V:a'.defers=[]/\∃ v,(results fn a'.tmps).run P w' = .ok v w'/\(∃ v' F',Ending.returned v = .returned v'/\VR F' (tup vs) v'/\N2 F H nx w F' H' nx' w'):=
        ⟨a7,tup a2,J29 h3,tup a2,F',rfl,B58 h4,Z⟩
       rcases hx with rfl | rfl<;>exact V
     cases o with
     | n=>exact a1 (.inl rfl) h1
     | x id=>exact h1.elim
     | r=>exact a1 (.inr rfl) h1
end
end Go.Clo

namespace Go.Clo
abbrev VP:=Value->Prop
abbrev EP:=Value->Y0->Nat->Prop
def J65(c a b:Value)(k:VP):Prop:=match c with
 | .bool t=>ifK t (k a) (k b)
 | _=>False
def U0(op:BinOp)(x y:Value)(k:VP):Prop:=J42 op x y False k
def wUn(op:UnOp)(x:Value)(k:VP):Prop:=X22 (unV op x) False k
def wVf(f:VF)(xs:List Value)(k:VP):Prop:=X22 (f.ev xs) False k
def B4(v:Value)(off:Nat)(k:VP):Prop:=match v with
 | .pointer (some a)=>U19 (a.off+off) a k
 | _=>False
def M3(v vi:Value)(len:Option Nat)(size:Nat)(k:VP):Prop:=match vi with
 | .int _ (.ofNat i)=>N41 len size i False k v
 | _=>False
def C70(v:Value)(k:VP):Prop:=match v with
 | .pointer (some a)=>k (.pointer (some a))
 | _=>False
def G9(v:Value)(i:Nat)(k:VP):Prop:=match v with
 | .tuple vs=>C30 vs.toList i False k
 | _=>False
def G42(v:Value)(off:Nat)(size:Option Nat)(k:VP):Prop:=match v with
 | .agg cs=>E21 cs.toList off size False k
 | _=>False
def D65(v vi:Value)(len size:Nat)(agg:Bool)(k:VP):Prop:=match vi with
 | .int _ (.ofNat i)=>(match v with
  | .agg cs=>cond (Nat.blt i len) (E21 cs.toList (i*size) (cond agg (some size) none) False k) False
  | _=>False)
 | _=>False
def U11(z:List Value)(pl:List (Nat × Nat))(vs:List (Nat × Value))(k:VP):Prop:=match V16 (nth pl) z vs with
 | some cs=>spine cs fun cs=>k (.agg ⟨cs⟩)
 | none=>False
def J1(v:Value)(size:Option Nat)(H:Y0)(k:VP):Prop:=match v with
 | .pointer (some ⟨b,o,none⟩)=>D12 H b False (ldB o size False k)
 | _=>False
def wLk(kd:TypeDesc)(zero v vi:Value)(ok:Bool)(H:Y0)(k:VP):Prop:=cond (Q9 kd vi)
  ((fun(es:List MapEntry->Prop)=>match v with
   | .map none=>es []
   | .map (some r)=>D12 H r False fun b=>match b with
    | .map l _=>es l
    | _=>False
   | _=>False) fun l=>match Instr.findNow kd vi l 0 with
    | some (some (_,v))=>cond ok (M6 k (.tuple ⟨[v,.bool true]⟩)) (M6 k v)
    | some none=>cond ok (M6 k (.tuple ⟨[zero,.bool false]⟩)) (M6 k zero)
    | none=>False) False
def R4(v:Value)(kd:Nat)(H:Y0)(k:VP):Prop:=match kd,v with
  | 0,.slice _ n _=>M6 k (.int .i64 (.ofNat n))
  | 1,.string s=>M2 s.size fun n=>M6 k (.int .i64 (.ofNat n))
  | 2,.map none=>M6 k (.int .i64 (.ofNat 0))
  | 2,.map (some r)=>D12 H r False fun b=>match b with
   | .map l _=>M2 l.length fun n=>M6 k (.int .i64 (.ofNat n))
   | _=>False
  | _,_=>False
def W8(kd:IntKind)(v:Value)(k:VP):Prop:=match v with
  | .int _ n=>cond (Q14 kd n) (M6 k (.int kd n)) (Q16 (kd.wrap n) fun n=>M6 k (.int kd n))
  | _=>False
def J3(b:C1)(y:Q0)(H:Y0)(nx:Nat)(k:EP):Prop:=
 hsK H nx (some b) fun H=>M2 (nx+1) fun n=>X13 (y.val nx) fun v=>k v H n
def E5(v:Value)(k:List Value->Prop):Prop:=cond (Z0 v.cells.toList) (spine v.cells.toList k) False
def K6(len size:Nat)(z:List Value)(vs:List (Nat × Value))(k:List Value->Prop):Prop:=
 match V16 (fun k=>some (k*size,size)) (U3 z len) vs with
  | some cs=>cond (Z0 cs) (spine cs k) False
  | none=>False
def D30(vl vc:Value)(z:List Value)(k:List Value->Nat->Nat->Prop):Prop:=match vl,vc with
  | .int .i64 (.ofNat l),.int .i64 (.ofNat c)=>cond (Nat.ble l c&&Nat.ble c 1000000) (spine (U3 z c) fun cs=>k cs l c) False
  | _,_=>False
def M64(x:Option Value)(k:Prop):Prop:=match x with
  | none=>k
  | some (.int _ _)=>k
  | _=>False
def wNm(nx i:Nat)(y:Q0)(k:VP):Prop:=M2 (nx+i) fun q=>M0 (y.val q) k
def D5(p v:Value)(size:Nat)(H:Y0)(k:Y0->Prop):Prop:=match p with
  | .pointer (some a)=>cond (Nat.beq v.cells.toList.length size&&Z0 v.cells.toList) (U12 H a v.cells.toList False k) False
  | _=>False
def W56(kd:TypeDesc)(m key v:Value)(H:Y0)(nx:Nat)(k:EP):Prop:=match m with
  | .map (some r)=>D12 H r False (G52 kd H nx r key v False k)
  | _=>False
def Y2(P:Program)(f:FuncId)(args:List Value)(H:Y0)(nx:Nat)(k:EP):Prop:=M8 P f args H nx False k
def M33(P:Program)(f:Value)(args:List Value)(H:Y0)(nx:Nat)(k:EP):Prop:=match f with
  | .func (.func g) ⟨first⟩ ⟨cap⟩=>spine (first++args++cap) fun vs=>M8 P g vs H nx False k
  | _=>False
def B5(s x:Value)(size bytes:Nat)(H:Y0)(nx:Nat)(k:EP):Prop:=Z22 H nx size bytes s x False k
def M41(v:Value)(H:Y0)(k:Y0->Prop):Prop:=match v with
  | .map none=>k H
  | .map (some r)=>D12 H r False fun b=>match b with
   | .map _ clock=>hsK H r (some (.map [] clock)) k
   | _=>False
  | _=>False
def K3(E:Bool)(v:Value)(J no:Prop):Prop:=match v with
  | .bool b=>ifK (cond b E (!E)) J no
  | _=>False
end Go.Clo
