/- Lemmas for MachineOrders (no condition). -/
import Derived.Test.YtocdlbblemjabaaGreatDoorAe
import Derived.Laws.AppendOwn
set_option linter.defProp false
namespace Go.AG
section
variable {C:Cx}{g:Gh}{U:Nat->Option (List AV)}{h h':AH}{w:World}{tm:Tm}{tmps:Array Value}{v:AV}
def Iy {d:TypeDesc}{n:Nat}{a b:AV}{x y:Value}{r:Bool}(h:Kb d=some n)(f:bR g a x)(i:bR g b y)(e:ie n a b=some r):Instr.sameNow d x y=some r:=by
 rcases samePl_cases e with⟨rfl,k,m,o,rfl,rfl,rfl⟩|⟨rfl,s,j,rfl,rfl,rfl⟩|⟨n1,n2,p,q,rfl,rfl,rfl⟩
 ·rcases tagD_ok h with⟨c,_⟩|⟨_,l,rfl⟩|⟨c,_⟩
  ·omega
  ·rw[f.int_inv,i.int_inv];simp[Instr.sameNow]
  omega
 ·rcases tagD_ok h with⟨c,_⟩|⟨c,_⟩|⟨_,rfl⟩
  ·omega
  ·omega
  rw[f.str_inv,i.str_inv,nj];rfl
 rcases tagD_ok h with⟨_,rfl⟩|⟨c,_⟩|⟨c,_⟩
 ·rw[f.bool_inv,i.bool_inv];rfl
 all_goals omega
theorem BX (e:AV×AV)(l:List (AV×AV))(t:Nat)(k v:AV):uK (e::l) t k v=Option.casesOn (dT t k e.1) (e::uK l t k v) λb=>cond b ((k,v)::l) (e::uK l t k v):=rfl
theorem wT {d:TypeDesc}{n:Nat}(c:Kb d=some n)(a b:AV):dT n a b=ie n a b:=by
 rcases tagD_ok c with⟨rfl,_⟩|⟨rfl,_⟩|⟨rfl,_⟩<;>rfl
theorem findNow_ok {d:TypeDesc}{n:Nat}{k:AV}{x:Value}(m:Kb d=some n)(hk:bR g k x):∀{l:List (AV×AV)} {f:List MapEntry} {r:Option AV} (i:Nat),oE g l f->uj l n k=some r->
  (r=none/\Instr.findNow d x f i=some none/\uK l n k v=l++[(k,v)])\/
  (∃(a:AV) (j:Nat) (e:MapEntry) (y:Value),r=some a/\Instr.findNow d x f i=some (some (i+j,y))/\bR g a y/\f[j]?=some e/\uK l n k v=l.set j (k,v)/\(∃c,l[j]?=some (c,a)/\bR g c e.key/\dT n k c=some true))
 |_,_,r,i,.nil,e=>by cases e;exact .inl ⟨rfl,rfl,rfl⟩
 |_,_,r,i,.cons (k:=k') (v:=v') (e:=me) (l:=l) (es:=f) hk' hv' t,e=>by
  have⟨b,q,e⟩:=aC e;have hs:=Iy m hk hk' (by rw[<-wT m];omega);rw[BX];rw[q];cases b with
  |true=>
   cases e;exact .inr ⟨v',0,me,me.val,rfl,by grind [Instr.findNow],hv',rfl,rfl,k',rfl,hk',q⟩
  |false=>
   rcases findNow_ok m hk (i+1) t e with⟨h1,p,o⟩|⟨a,j,h,y,h1,p,o,A,z,c,w,u,s⟩
   ·grind [Instr.findNow]
   exact .inr ⟨a,j+1,h,y,h1,by simp[Instr.findNow,hs,p];omega,o,by grind,by grind,c,by grind,u,s⟩
structure Two (C:Cx)(kt:TypeId)(d:TypeDesc)(fs:Array Field):Prop where
 desc:d=.struct fs
 held:C.P.stoodInHeld kt=false
 fields:ma (gv C.T) fs.toList=some [(0,1),(1,1)]
def keyN_ok {b:TypeId}{d:TypeDesc}{n:Nat}(h:Rc C.P C.T b d=some n):Kb d=some n\/(n=3/\∃a,Two C b d a):=by
 unfold Rc at h;cases e:Kb d with
 |some m=>simp_all
 |none=>
  rw[e]at h;cases d<;>first|(cases h;done)|skip
  case struct a=>
   have h:(bif C.P.stoodInHeld b then none else aI (ma (gv C.T) a.toList) λl=>bif Ku l then some 3 else none)=some n:=h;cases hs:C.P.stoodInHeld b with
   |true=>grind
   |false=>
    rw[hs]at h;have⟨_,c,h⟩:=aC (o:=ma (gv C.T) a.toList) h;unfold Ku at h;split at h
    ·cases h;exact .inr ⟨rfl,a,rfl,hs,c⟩
    grind
def yI {v:AV}{p:AV×AV}(h:WA v=some p):v=.agg [p.1,p.2]:=by
 cases v<;>first|(cases h;done)|skip
 case agg l=>
  match l,h with
  |[a,b],h=>cases h;rfl
def qZ {a b:AV}{r:Bool}(e:dT 3 a b=some r):∃p q:AV×AV,a=.agg [p.1,p.2]/\b=.agg [q.1,q.2]/\tF [(0,1),(1,1)] [p.1,p.2] [q.1,q.2]=some r/\
  (r=true->ie 1 p.1 q.1=some true/\ie 1 p.2 q.2=some true):=by
 have⟨p,c,e⟩:=aC e;have⟨q,d,e⟩:=aC e;have⟨s,hs,e⟩:=aC e;refine⟨p,q,yI c,yI d,?_,?_⟩
 ·show(aI (ie 1 p.1 q.1) λs=>cond s (aI (ie 1 p.2 q.2) λs=>cond s (some true) (some false)) (some false))=_;rw[hs];cases s with
  |false=>exact e
  |true=>
   have e:ie 1 p.2 q.2=some r:=e;show(aI (ie 1 p.2 q.2) λs=>cond s (some true) (some false))=_;rw[e];cases r<;>rfl
 grind
def NF {c:TypeId}{d:TypeDesc}{f:Array Field}(h:und C.T c=some d)(t:Two C c d f){a b:AV}{x y:Value}{r:Bool}(i:bR g a x)(k:bR g b y)(e:dT 3 a b=some r):
  (Op.equal c x y).run C.P w=.ok r w:=by
 obtain⟨_,_,rfl,rfl,e,_⟩:=qZ e;obtain⟨_,_,j,rfl⟩:=i.agg_inv;obtain⟨_,_,l,rfl⟩:=k.agg_inv;exact oH (t.desc▸h) t.held t.fields j l e
def two_ask {h:TypeId}{d:TypeDesc}{s:Array Field}(p:und C.T h=some d)(t:Two C h d s){k:AV}{x:Value}(hk:bR g k x):
  ∀{l:List (AV×AV)} {f:List MapEntry} {r:Option AV} (i:Nat),oE g l f->uj l 3 k=some r->
  (r=none/\(Instr.findAsking h x f i).run C.P w=.ok none w/\uK l 3 k v=l++[(k,v)])\/
  (∃(a:AV) (j:Nat) (e:MapEntry) (y:Value),r=some a/\(Instr.findAsking h x f i).run C.P w=.ok (some (i+j,y)) w/\bR g a y/\f[j]?=some e/\uK l 3 k v=l.set j (k,v)/\(∃c,l[j]?=some (c,a)/\bR g c e.key/\dT 3 k c=some true))
 |_,_,r,i,.nil,e=>by cases e;exact .inl ⟨rfl,by simp[Instr.findAsking],rfl⟩
 |_,_,r,i,.cons (k:=k') (v:=v') (e:=me) (l:=l) (es:=f) hk' hv' t',e=>by
  have⟨b,o,e⟩:=aC e;have hs:=NF (w:=w) p t hk hk' o;rw[BX];rw[o];cases b with
  |true=>
   cases e;exact .inr ⟨v',0,me,me.val,rfl,by simp[Instr.findAsking,hs],hv',rfl,rfl,k',rfl,hk',o⟩
  |false=>
   rcases two_ask p t hk (i+1) t' e with⟨h1,n,q⟩|⟨a,j,m,y,h1,n,q,D,B,c,A,z,u⟩
   ·exact .inl ⟨h1,by simp[Instr.findAsking,hs,n],by grind⟩
   exact .inr ⟨a,j+1,m,y,h1,by simp[Instr.findAsking,hs,n];omega,q,by grind,by grind,c,by grind,z,u⟩
theorem findKey_ok {c:TypeId}{d:TypeDesc}{n:Nat}(f:und C.T c=some d)(A:Rc C.P C.T c d=some n){k:AV}{x:Value}(hk:bR g k x){l:List (AV×AV)}{b:List MapEntry}{r:Option AV}(m:oE g l b)(e:uj l n k=some r):
  (r=none/\(Instr.findKey c x b).run C.P w=.ok none w/\uK l n k v=l++[(k,v)])\/
  (∃(a:AV) (j:Nat) (e:MapEntry) (y:Value),r=some a/\(Instr.findKey c x b).run C.P w=.ok (some (0+j,y)) w/\bR g a y/\b[j]?=some e/\uK l n k v=l.set j (k,v)/\(∃i,l[j]?=some (i,a)/\bR g i e.key/\dT n k i=some true)):=by
 rcases keyN_ok A with B|⟨rfl,D,t⟩
 ·rcases findNow_ok (v:=v) B hk 0 m e with⟨h1,s,p⟩|⟨a,j,o,y,h1,s,p⟩
  ·exact .inl ⟨h1,by simp[Instr.findKey,bZ f,s],p⟩
  exact .inr ⟨a,j,o,y,h1,by simp[Instr.findKey,bZ f,s],p⟩
 have h:∀b,Instr.findNow d x b 0=some none\/Instr.findNow d x b 0=none:=by
  intro b;cases b with
  |nil=>exact .inl rfl
  |cons e b=>
   have:Instr.sameNow d x e.key=none:=by rw[t.desc];rfl
   grind [Instr.findNow]
 have two:=two_ask (w:=w) (v:=v) f t hk 0 m e;rcases h b with q|q
 ·cases b with
  |nil=>cases m;cases e;exact .inl ⟨rfl,by simp[Instr.findKey,bZ f,q],rfl⟩
  |cons z b=>
   have:Instr.sameNow d x z.key=none:=by rw[t.desc];rfl
   grind [Instr.findNow]
 have u:(Instr.findKey c x b).run C.P w=(Instr.findAsking c x b 0).run C.P w:=by simp[Instr.findKey,bZ f,q]
 grind
theorem NG {m:List Value}{as:List AV}(z:bD g as m)(b:Bool)(h:Nat):∀(e:List Field) (l:List (Nat×Nat)),ma (gv C.T) e=some l->(∀p∈l,(xF p.1 as).isSome)->
  (forIn (m:=Sem) e () λf _=>if f.name≠ "_" then do
    let a <-part f.type ⟨m⟩ f.offset
    Instr.checkKey b (h+1) f.type a
    pure (ForInStep.yield ())
   else pure (ForInStep.yield ())).run C.P w=.ok () w:=by
 intro e;induction e with
 |nil=>intro l _ _;simp
 |cons f e B=>
  intro l t y;obtain⟨_,_,c,_,rfl⟩:=cA t;unfold gv at c;split at c
  ·grind
  rename_i o;have⟨_,i,c⟩:=aC c;have⟨_,s,c⟩:=aC c;have⟨_,_,c⟩:=aC c;cases c;have⟨_,hx⟩:=Option.isSome_iff_exists.1 (y _ (List.mem_cons_self ..));rw[jQ]at hx;have⟨r,q,_⟩:=z.get hx;have j:dI C.T f.type=false:=by
   unfold dI;rw[i];rcases tagD_ok s with⟨_,rfl⟩|⟨_,k,rfl⟩|⟨_,rfl⟩<;>rfl
  have F:(part f.type ⟨m⟩ f.offset).run C.P w=.ok r w:=by
   simp[part,mc i,j,q]
  have D:(Instr.checkKey b (h+1) f.type r).run C.P w=.ok () w:=by
   unfold Instr.checkKey;simp only[Sem.run_bind,bZ i,Result.andThen_ok];rcases tagD_ok s with⟨_,rfl⟩|⟨_,k,rfl⟩|⟨_,rfl⟩<;>rfl
  simp_all
def uz {t:TypeId}{d:TypeDesc}{n:Nat}(a:und C.T t=some d)(h:Rc C.P C.T t d=some n)(b:Bool){k:AV}{x:Value}(hk:bR g k x){r:Bool}(e:dT n k k=some r):(Instr.checkKey b 10000 t x).run C.P w=.ok () w:=by
 rcases keyN_ok h with l|⟨rfl,f,q⟩
 ·show(Instr.checkKey b (9999+1) t x).run C.P w=_;unfold Instr.checkKey;simp only[Sem.run_bind,bZ a,Result.andThen_ok];rcases tagD_ok l with⟨_,rfl⟩|⟨_,k,rfl⟩|⟨_,rfl⟩<;>rfl
 obtain⟨p,_,rfl,_⟩:=qZ e;obtain⟨_,_,i,rfl⟩:=hk.agg_inv;have j:=NG (C:=C) (w:=w) i b 9998 f.toList _ q.fields (by intro p c;simp at c;rcases c with rfl|rfl<;>rfl);show(Instr.checkKey b (9999+1) t _).run C.P w=_;unfold Instr.checkKey;rw[q.desc]at a;simp only[Sem.run_bind,bZ a,Result.andThen_ok,<-Array.forIn_toList];simp_all
theorem xA {t:TypeId}{p:Nat×TypeId}(e:nD C.P C.T t=some p):∃b d,und C.T t=some (.map b p.2)/\und C.T b=some d/\Rc C.P C.T b d=some p.1:=by
 have⟨d,_,e⟩:=aC e;have⟨_,a,e⟩:=aC e;have⟨_,_,e⟩:=aC e;have⟨_,_,e⟩:=aC e;cases e;cases d<;>first|(cases a;done)|skip
 case map b i=>
  cases a;grind
def CA (s:Sim C g U h w){k:Nat}{l:Loc}{c:List (AV×AV)}(d:g.ρ k 0=some l)(e:Kv h k=some c):
  h.get k=some (.map c)/\U k=none/\∃b a,w.heap[l.block]?=some (.map b a)/\oE g c b.toList/\Rp b a:=by
 have⟨o,ho,e⟩:=aC e;cases o<;>first|(cases e;done)|skip
 case map m=>
  cases e;have f:=s.live d;have⟨i,h1,_,j⟩:=s.obj k _ ho f;have h1:g.ρ k 0=some i:=h1;rw[d]at h1;cases h1;exact⟨ho,f,j⟩
def pU {r:Nat}{a:Obj}(e:w.heap[r]?=some a)(b:∀c t f,a≠.cells c t f):(getObj r).run C.P w=.ok a w:=by
 grind [getObj,absurd,Sem.run]
def kZ {r:Nat}{a ob':Obj}(e:w.heap[r]?=some a)(b:∀c t f,a≠.cells c t f):(setObj r ob').run C.P w=.ok () (eK w r ob'):=by
 unfold setObj;cases a<;>first|(exact absurd rfl (b _ _ _))|(simp only[Sem.run,e];rfl)
theorem oE.length {l:List (AV×AV)}{a:List MapEntry}(h:oE g l a):l.length=a.length:=by
 induction h with
 |nil=>rfl
 |cons _ _ _ b=>grind
def OF (s:Sim C g U h w)(N:ig g tm tmps){o:Oper}{t:TypeId}{x i:Operand}{P O:AX}{p:Nat×TypeId}{z:AV}{ok:Bool}(ho:o.op=.lookup t x i ok)(W:nD C.P C.T t=some p)
  (S:pq C.T p.2=some z) (hx:cX x=some P) (hi:cX i=some O) (e:okV (iq h p.1 z ok (ev P tm) (ev O tm)) h=.val v h'):mi C g U h ((execOp (bE tmps) o).run C.P w) v h':=by
 obtain⟨c,rfl⟩:=fa e;have⟨_,A,c⟩:=aC c;have⟨_,hk,c⟩:=aC c;have⟨_,E,c⟩:=aC c;have⟨_,X,c⟩:=aC c;cases c;have⟨Y,_,H,u,J⟩:=xA W;have⟨_,I,B,F,n,_⟩:=lO g S;have m:=fw (w:=w) B F;have M:=cT N hx;have K:=cT N hi;have q:∀b,(Instr.checkKey b 10000 Y (bE tmps i)).run C.P w=.ok () w:=λb=>uz u J b K A;rw[yO hk]at M;have⟨_,T,Q⟩:=M.map_inv;have⟨_,_,_,_,Z,V,_⟩:=CA s T E;have L:=pU (C:=C) Z g_;rcases findKey_ok (w:=w) (v:=z) u J K V X with⟨rfl,G,_⟩|⟨a,j,me,y,rfl,G,f,_⟩
 ·refine bV s (u:=if ok then .tuple #[I,.bool false] else I) ?_ ?_
  ·simp only[execOp,ho,Q,Instr.lookup,Sem.run_bind,bZ H,Result.andThen_ok,Sem.run_pure,L,q,G,m]
  cases ok
  ·exact n
  exact .tup (.cons n (.cons (.bool _) .nil))
 refine bV s (u:=if ok then .tuple #[y,.bool true] else y) ?_ ?_
 ·simp only[execOp,ho,Q,Instr.lookup,Sem.run_bind,bZ H,Result.andThen_ok,Sem.run_pure,L,q,G]
 cases ok
 ·exact f
 exact .tup (.cons f (.cons (.bool _) .nil))
theorem re {n:Nat}{a b:AV}{x y:Value}(h:bR g a x)(i:bR g b y)(e:ie n a b=some true)(d:Nat):Instr.sameBits d y x=true:=by
 rcases samePl_cases e with⟨rfl,k,m,l,rfl,rfl,f⟩|⟨rfl,s,c,rfl,rfl,f⟩|⟨n1,n2,p,q,rfl,rfl,f⟩
 ·rw[h.int_inv,i.int_inv];have:m=l:=by grind
  subst this;simp[Instr.sameBits]
 ·rw[h.str_inv,i.str_inv];rw[nj]at f;have:(c==s)=true:=by
   have o:(s==c)=(s.data==c.data):=rfl;have j:(c==s)=(c.data==s.data):=rfl;have:s.data=c.data:=by grind
   rw[j,this];simp
  grind [Instr.sameBits]
 rw[h.bool_inv,i.bool_inv];have:p=q:=by grind
 subst this;simp[Instr.sameBits]
theorem Dm {j:TypeId}{d:TypeDesc}{n:Nat}(m:Rc C.P C.T j d=some n){a b:AV}{x y:Value}(l:bR g a x)(r:bR g b y)(e:dT n a b=some true)(h:Nat):Instr.sameBits (h+1) y x=true:=by
 rcases keyN_ok m with w|⟨rfl,t,q⟩
 ·grind [wT,re]
 obtain⟨_,_,rfl,rfl,_,e⟩:=qZ e;have⟨i,s⟩:=e rfl;obtain⟨_,_,c,rfl⟩:=l.agg_inv;obtain⟨_,_,f,rfl⟩:=r.agg_inv;cases c with
 |cons u1 c=>cases c with
  |cons u2 c=>
   cases c;cases f with
   |cons o f=>cases f with
    |cons k f=>
     cases f;simp[Instr.sameBits,re u1 o i,re u2 k s]
def oE.set {k v:AV}{c:MapEntry}(hk:bR g k c.key)(d:bR g v c.val):∀{l:List (AV×AV)} {e:List MapEntry} (j:Nat),oE g l e->oE g (l.set j (k,v)) (e.set j c)
 |_,_,_,.nil=>by exact .nil
 |_,_,0,.cons _ _ t=>.cons hk d t
 |_,_,j+1,.cons a b t=>.cons a b (oE.set hk d j t)
def oE.snoc {k v:AV}{c:MapEntry}(hk:bR g k c.key)(d:bR g v c.val):∀{l:List (AV×AV)} {e:List MapEntry},oE g l e->oE g (l++[(k,v)]) (e++[c])
 |_,_,.nil=>.cons hk d .nil
 |_,_,.cons a b t=>.cons a b (oE.snoc hk d t)
def SB (s:Sim C g U h w)(Y:ig g tm tmps){o:Oper}{t:TypeId}{m k x:Operand}{am F A:AX}{p:Nat×TypeId}(ho:o.op=.mapUpdate t m k x)(hp:nD C.P C.T t=some p)
  (hm:cX m=some am) (hk:cX k=some F) (hx:cX x=some A) (e:okH (iR h p.1 (ev am tm) (ev F tm) (ev A tm))=.val v h'):mi C g U h ((execOp (bE tmps) o).run C.P w) v h':=by
 obtain⟨z,rfl⟩:=Mz e;clear e;have⟨r,hr,z⟩:=aC z;have⟨L,Q,z⟩:=aC z;have⟨_,M,z⟩:=aC z;have⟨_,T,z⟩:=aC z;cases z;have⟨kt,_,hd,K,V⟩:=xA hp;have rm:=cT Y hm;have G:=cT Y hk;have rx:=cT Y hx;rw[yO hr]at rm;have⟨l,hl,hu⟩:=rm.map_inv;have⟨q1,q2,f,c,R,N,_,_⟩:=CA s hl Q;have Z:=pU (C:=C) R g_;have J:∀b,(Instr.checkKey b 10000 kt (bE tmps k)).run C.P w=.ok () w:=λb=>uz K V b G M;have O:l.block<w.heap.size:=g_;have ab:∀i y,g.F l.block i≠some y:=λi y q=>by
  have:=s.frz _ _ _ q;grind [World.cell?]
 have put:∀(u:Array MapEntry) (n:Nat),oE g (uK L p.1 (ev F tm) (ev A tm)) u.toList->Rp u n->
   Sim C g U (h.set r (.map (uK L p.1 (ev F tm) (ev A tm)))) (eK w l.block (.map u n)):=by
  intro u n H I;exact s.put q1 q2 hl rfl ⟨u,n,fC O,H,I⟩ g_
 rcases findKey_ok (w:=w) (v:=ev A tm) K V G N T with⟨rfl,W,h3⟩|⟨a,j,X,y,rfl,W,h4,h5,h6,k0,h7,h8,h9⟩
 ·have H:oE g (uK L p.1 (ev F tm) (ev A tm)) (f.push {key:=bE tmps k,val:=bE tmps x,born:=c}).toList:=by
   rw[h3,Array.toList_push];exact N.snoc G rx
  have I:Rp (f.push {key:=bE tmps k,val:=bE tmps x,born:=c}) (c+1):=by
   refine⟨λy hy=>?_,?_⟩
   all_goals grind
  refine⟨g,_,undef,.inr ⟨?_,rfl⟩,.refl g,put _ (c+1) H I,.tup .nil,Low.set _ _ _⟩;have E:=W;have B:=kZ (C:=C) (ob':=.map (f.push {key:=bE tmps k,val:=bE tmps x,born:=c}) (c+1)) R g_;simp only[execOp,ho,hu,Instr.mapUpdate,Sem.run_bind,bZ hd,Result.andThen_ok,Z,J,E,B,Sem.run_pure]
 have hj:j<f.size:=by grind
 have D:=Dm V G h8 h9 9999;have H:oE g (uK L p.1 (ev F tm) (ev A tm)) (f.modify j λe=>{e with key:=bE tmps k,val:=bE tmps x}).toList:=by
  rw[h6];have e1:(f.modify j λe=>{e with key:=bE tmps k,val:=bE tmps x}).toList=f.toList.set j {X with key:=bE tmps k,val:=bE tmps x}:=by
   apply List.ext_getElem?;grind
  rw[e1];exact N.set G rx j
 have I:Rp (f.modify j λe=>{e with key:=bE tmps k,val:=bE tmps x}) c:=by
  have e1:((f.modify j λe=>{e with key:=bE tmps k,val:=bE tmps x}).toList.map (·.born))=f.toList.map (·.born):=by
   apply List.ext_getElem?;grind
  refine⟨λy hy=>?_,by grind⟩;grind [List.mem_map_of_mem]
 refine⟨g,_,undef,.inr ⟨?_,rfl⟩,.refl g,put _ c H I,.tup .nil,Low.set _ _ _⟩;have E:=W;have B:=kZ (C:=C) (ob':=.map (f.modify j λe=>{e with key:=bE tmps k,val:=bE tmps x}) c) R g_;have S:f[j]?=some X:=by grind
 have P:(Instr.keyThatStays (((f[j]?).map (·.key)).getD (bE tmps k)) (bE tmps k)).run C.P w=.ok (bE tmps k) w:=by
  rw[S];simp[Instr.keyThatStays,D]
 simp only[execOp,ho,hu,Instr.mapUpdate,Sem.run_bind,bZ hd,Result.andThen_ok,Z,J,E,P,z_,B,Sem.run_pure]
theorem adA (s:Sim C g U h w)(G:ig g tm tmps){o:Oper}{c:Call}{x:Operand}{y:AX}{t:TypeId}{d:TypeDesc}{r:Nat}(ho:o.op=.call c)(E:c.callee=.builtin .len)(H:c.args=#[x])
  (B:c.argTypes.toList[0]?=some t) (z:und C.T t=some d) (A:lenD d=some r) (hx:cX x=some y)
  (e:okV (aI (lenOf (ev y tm) h r) λn=>some (.int .i64 (.ofNat n))) h=.val v h'):mi C g U h ((execOp (bE tmps) o).run C.P w) v h':=by
 obtain⟨q,rfl⟩:=fa e;clear e;obtain⟨n,b,q⟩:=aC q;cases q;have p:=cT G hx;have f:c.argTypes[0]?=some t:=by grind
 have u:(Builtin.len_ c.argTypes o.type #[bE tmps x]).run C.P w=.ok (.int .i64 (n:Int)) w->(execOp (bE tmps) o).run C.P w=.ok (.value (.int .i64 (n:Int))) w:=by
  intro F;simp[execOp,ho,resolve,E,H,invoke,builtin,F]
 refine bV s (u ?_) (.int _ _);have slice:∀a m i,bE tmps x=.slice a m i->r=1->(Builtin.len_ c.argTypes o.type #[bE tmps x]).run C.P w=.ok (.int .i64 (m:Int)) w:=by
  intro a m i j hk;subst hk;cases d<;>first|(cases A;done)|skip
  simp[Builtin.len_,f,j,bZ z,goInt]
 generalize ev y tm=a at p b;cases a<;>first|(cases b;done)|(replace b:=bj b)
 case str K=>
  obtain⟨hk,b⟩:=b;obtain rfl:=dB hk;cases b;cases d<;>first|(cases A;done)|skip
  simp[Builtin.len_,f,p.str_inv,bZ z,goInt]
 case nl=>obtain⟨hk,b⟩:=b;cases b;exact slice _ _ _ p.nils_inv (dB hk)
 case ls D=>
  obtain⟨hk,b⟩:=b;cases b;obtain⟨a,i,j,_⟩:=p.lst_inv;rw[bT];exact slice _ _ _ j (dB hk)
 case clip D=>
  obtain⟨hk,b⟩:=b;cases b;obtain⟨a,j,_⟩:=p.clip_inv;rw[bT];exact slice _ _ _ j (dB hk)
 case row k J L I m=>
  obtain⟨hk,b⟩:=b;cases b;obtain⟨l,a,_,_,_,j,_⟩:=p.row_inv;exact slice _ _ _ j (dB hk)
theorem Cg (m n:Int):QO false m n=if n > m then n else m:=by
 show cond (leI n m) m n=_;grind [uP,T_,D_]
theorem Ox (m n:Int):QO true m n=if n<m then n else m:=by
 show cond (leI m n) m n=_;grind [uP,T_,D_]
theorem Mm:∀{l:List AV} {b:List Value} {k:IntKind} {m:Int},bD g l b->Kw l false k m=some v->∃u,(b.foldlM Builtin.max2 (.int k m)).run C.P w=.ok u w/\bR g v u
 |_,_,k,m,.nil,e=>by cases e;exact⟨_,by simp,.int _ _⟩
 |_,_,k,m,.cons (a:=a) (l:=l) (us:=b) h t,e=>by
  have⟨_,d,e⟩:=aC e;rw[mz d]at h;rw[Cg]at e;have⟨u,_,c⟩:=Mm t e;refine⟨u,?_,c⟩;rw[List.foldlM_cons,h.int_inv];grind [Builtin.max2,Sem.run_bind,Sem.run_pure,Result.andThen_ok]
theorem Ml:∀{l:List AV} {b:List Value} {k:IntKind} {m:Int},bD g l b->Kw l true k m=some v->∃u,(b.foldlM Builtin.min2 (.int k m)).run C.P w=.ok u w/\bR g v u
 |_,_,k,m,.nil,e=>by cases e;exact⟨_,by simp,.int _ _⟩
 |_,_,k,m,.cons (a:=a) (l:=l) (us:=b) h t,e=>by
  have⟨_,d,e⟩:=aC e;rw[mz d]at h;rw[Ox]at e;have⟨u,_,c⟩:=Ml t e;refine⟨u,?_,c⟩;rw[List.foldlM_cons,h.int_inv];grind [Builtin.min2,Sem.run_bind,Sem.run_pure,Result.andThen_ok]
def ady (s:Sim C g U h w)(n:ig g tm tmps){o:Oper}{c:Call}{f:List AX}(ho:o.op=.call c)(k:c.callee=.builtin .max)(q:cXs c.args=some f)
  (e:okV (AR false (evs f tm)) h=.val v h'):mi C g U h ((execOp (bE tmps) o).run C.P w) v h':=by
 obtain⟨b,rfl⟩:=fa e;have d:=qO n q;cases i:evs f tm with
 |nil=>rw[i]at b;cases b
 |cons x l=>
  rw[i]at b d;have⟨_,m,b⟩:=aC (o:=Qk x) b;have a:(c.args.map (bE tmps)).toList=c.args.toList.map (bE tmps):=by simp
  cases hm:c.args.toList.map (bE tmps) with
  |nil=>rw[hm]at d;cases d
  |cons u z=>
   rw[hm]at d a;cases d with
   |cons h1 t=>
    rw[mz m]at h1;have⟨_,j,r⟩:=Mm (C:=C) (w:=w) t b;refine bV s ?_ r;rw[<-h1.int_inv]at j;simp[execOp,ho,resolve,k,invoke,builtin,Builtin.max_,hm,j]
def adx (s:Sim C g U h w)(m:ig g tm tmps){o:Oper}{c:Call}{d:List AX}(ho:o.op=.call c)(j:c.callee=.builtin .min)(n:cXs c.args=some d)
  (e:okV (AR true (evs d tm)) h=.val v h'):mi C g U h ((execOp (bE tmps) o).run C.P w) v h':=by
 obtain⟨a,rfl⟩:=fa e;have b:=qO m n;cases f:evs d tm with
 |nil=>rw[f]at a;cases a
 |cons x l=>
  rw[f]at a b;have⟨_,k,a⟩:=aC (o:=Qk x) a;cases hm:c.args.toList.map (bE tmps) with
  |nil=>rw[hm]at b;cases b
  |cons u t=>
   rw[hm]at b;cases b with
   |cons h1 r=>
    rw[mz k]at h1;have⟨_,i,q⟩:=Ml (C:=C) (w:=w) r a;refine bV s ?_ q;rw[<-h1.int_inv]at i;simp[execOp,ho,resolve,j,invoke,builtin,Builtin.min_,hm,i]
theorem Cd {l:Loc}{a:Array Value}{t:TypeId}{cs:List AV}{off:Nat}(e:w.heap[l.block]?=some (.cells a t (0,0))):
  ∀i y,((((a.toList.drop l.base).take cs.length).drop off)[i]?)=some y->w.cell? ⟨l.block,l.base+off+i,none⟩=some y:=by
 grind [cell_of_row,Nat.add_assoc]
def mj {b c sz n:Nat}{a:Addr}{len cap:Nat}{ws:List Value}(e:a=⟨b,c,none⟩)(d:n*sz<=ws.length)(f:∀i y,ws[i]?=some y->w.cell? ⟨b,c+i,none⟩=some y):
  (Builtin.firstCells sz n (.slice (some a) len cap)).run C.P w=.ok ⟨ws.take (n*sz)⟩ w:=by
 subst e;have:=oG (C:=C) (w:=w) (b:=b) (off:=c) (us:=ws.take (n*sz)) g_;rw[Y_,Nat.min_eq_left d]at this;exact this
theorem HL (s:Sim C g U h w){x:AV}{u:Value}{sz:Nat}{xs:List AV}(hx:bR g x u)(e:lN x h sz=some xs):
  ∃a c t,u=.slice a xs.length c/\xs.length<=c/\bD g (bJ xs) t/\aZ (bJ xs)=true/\(∀e∈xs,e.cells.length=sz)/\
   ∀(p:World) (n:Nat),(∀b o y,b<w.heap.size->w.cell? ⟨b,o,none⟩=some y->p.cell? ⟨b,o,none⟩=some y)->n<=xs.length->(Builtin.firstCells sz n u).run C.P p=.ok ⟨t.take (n*sz)⟩ p:=by
 have fin:∀(a:Option Addr) (c:Nat),u=.slice a xs.length c->xs.length<=c->fZ sz xs=true->
   (xs=[]\/∃sz b d,a=some ⟨b,d,none⟩/\(∀e∈xs,e.cells.length=sz)/\aZ (bJ xs)=true/\fO g b d (bJ xs))->
   ∃a c t,u=.slice a xs.length c/\xs.length<=c/\bD g (bJ xs) t/\aZ (bJ xs)=true/\(∀e∈xs,e.cells.length=sz)/\
   ∀(p:World) (n:Nat),(∀b o y,b<w.heap.size->w.cell? ⟨b,o,none⟩=some y->p.cell? ⟨b,o,none⟩=some y)->n<=xs.length->(Builtin.firstCells sz n u).run C.P p=.ok ⟨t.take (n*sz)⟩ p:=by
  intro a c q D H j;rcases j with rfl|⟨f,b,d,rfl,hs,I,G⟩
  ·refine⟨a,c,[],q,o_,.nil,rfl,g_,λp n _ v=>?_⟩;have:n=0:=by grind
   subst this;rw[q];cases a with
   |none=>simp[Builtin.firstCells]
   |some a=>simp[Builtin.firstCells,loadCells,loadCellsFrom]
  by_cases z:xs=[]
  ·subst z;refine⟨_,c,[],q,o_,.nil,rfl,g_,λp n _ v=>?_⟩;have:n=0:=by grind
   subst this;rw[q];simp[Builtin.firstCells,loadCells,loadCellsFrom]
  have:=Ab H hs z;subst this;have⟨t,M,S⟩:=G.vals;refine⟨_,c,t,q,o_,M,I,hs,λp n K v=>?_⟩;rw[q];refine mj rfl ?_ λi y hi=>K _ _ _ (s.frz_lt (S i y hi)) (s.frz _ _ _ g_);rw[<-M.length,eR hs];exact Nat.mul_le_mul_right _ v
 cases x<;>first|(cases e;done)|skip
 case nl=>
  cases e;refine⟨none,0,[],hx.nils_inv,e_ _,.nil,rfl,g_,λp n _ v=>?_⟩;rw[hx.nils_inv];simp[Builtin.firstCells]
 case ls F=>
  have⟨A,e⟩:=bj (c:=fZ sz F) e;cases e;have⟨a,c,q,_,j⟩:=hx.lst_inv;simp_all
 case clip F=>
  have⟨A,e⟩:=bj (c:=fZ sz F) e;cases e;have⟨a,q,_⟩:=hx.clip_inv;simp_all
 case row k X f d m=>
  have⟨A,e⟩:=bj (c:=Nat.beq f sz) e;have A:=dB A;subst A;have⟨r,G,e⟩:=aC e;rw[iC]at e;have⟨l,a,R,_,_,q,I⟩:=hx.row_inv;have⟨_,_,_,Q⟩:=Ag s R G;have⟨_,_,J,_,_,_,_,V,P,_,_⟩:=Q;have B:Nat.mul d f=d*f:=rfl;rw[B]at e;have E:=sO e (iH P _);have hm:=E.len;have N:=E.le;rcases I with rfl|⟨rfl,_⟩
  ·refine⟨_,l.cap-d,(((J.toList.drop l.base).take r.2.1.length).drop (d*f)).take (m*f),by rw[hm];omega,o_,?_,?_,E.size,λp n K v=>?_⟩
   ·rw[E.flat];exact(V.drop _).take _
   ·rw[E.flat];grind [kX,iH]
   rw[q];have L:(((J.toList.drop l.base).take r.2.1.length).drop (d*f)).length=(r.2.1.drop (d*f)).length:=by grind
   have T:n*f<=m*f:=Nat.mul_le_mul_right _ o_;refine mj rfl ?_ λi y hi=>?_
   all_goals grind [Y_,Array.getElem?_eq_some_iff,Cd]
  have:xs=[]:=g_;subst this;refine⟨a,l.cap-d,[],q,o_,.nil,rfl,g_,λp n _ v=>?_⟩;have:n=0:=o_;subst this;rw[q];cases a with
  |none=>simp[Builtin.firstCells]
  |some a=>simp[Builtin.firstCells,loadCells,loadCellsFrom]
theorem Cz (n:Nat):∀(r c:Nat),Builtin.growBy n r c<=max c (n+n / 4+193)
 |0,c=>Nat.le_max_left _ _
 |r+1,c=>by
  unfold Builtin.growBy;split
  ·omega
  have:=Cz n r (c+(c+768) / 4);omega
def xH {need a:Nat}(h:a<need):Builtin.nextslicecap need a<=2*need+1000:=by
 grind [Builtin.nextslicecap,Cz]
def Yv {n m a:Nat}(e:need n m a=true):(2*(n+m)+1000)*a<=140737488355328/\n+m<=9223372036854775807:=by
 have⟨_,_⟩:=fq e;simp_all
structure acY (C:Cx)(tys:Array TypeId)(el:TypeId)(sz bytes:Nat)(zv:Value):Prop where
 t0:∃t,tys[0]?=some t/\und C.T t=some (.slice el)
 t1:∃t e,tys[1]?=some t/\und C.T t=some (.slice e)
 hsz:szT C.T el=some sz
 info:∃i,C.T.get el=some i/\i.bytes=bytes/\i.zero=some zv
 zlen:zv.cells.size=sz
 pos:0<sz
theorem jq {g:Array TypeId}{q p:TypeId}{l e:Nat}{o:Value}(A:acY C g p l e o){a:Option Addr}{n d:Nat}{x:Value}(k:n<=d){b:Option Addr}{c:Nat}
  (hx:x=.slice b 0 c) (j:(Builtin.firstCells l 0 x).run C.P w=.ok #[] w):(Builtin.append_ g q #[.slice a n d,x]).run C.P w=.ok (.slice a n d) w:=by
 have⟨_,m,i⟩:=A.t0;have⟨_,_,f,h⟩:=A.t1;subst hx;cases a with
 |none=>simp[Builtin.append_,m,f,bZ i,bZ h,dZ A.hsz,Builtin.lenOf,k,j]
 |some a=>simp[Builtin.append_,m,f,bZ i,bZ h,dZ A.hsz,Builtin.lenOf,k,j,storeCells]
theorem Bh {e:Array TypeId}{ty p:TypeId}{h d:Nat}{o:Value}(A:acY C e p h d o){a:Addr}{n m cap:Nat}{x:Value}(r:n+m<=cap){b:Option Addr}{c:Nat}
  (hx:x=.slice b m c) {k:List Value} (q:(Builtin.firstCells h m x).run C.P w=.ok ⟨k⟩ w) {j:World} (g:(storeCells (a.add (n*h)) k).run C.P w=.ok () j) :
  (Builtin.append_ e ty #[.slice (some a) n cap,x]).run C.P w=.ok (.slice (some a) (n+m) cap) j:=by
 have⟨_,s,l⟩:=A.t0;have⟨_,_,f,i⟩:=A.t1;subst hx;simp[Builtin.append_,s,f,bZ l,bZ i,dZ A.hsz,Builtin.lenOf,r,q,g]
theorem mn {e:Array TypeId}{ty f:TypeId}{j d:Nat}{s:Value}(A:acY C e f j d s){a:Option Addr}{n m cap:Nat}{x:Value}(v:cap<n+m){b:Option Addr}{c:Nat}
  (hx:x=.slice b m c) {os u:List Value} (ho:(Builtin.firstCells j n (.slice a n cap)).run C.P w.drew=.ok ⟨os⟩ w.drew) (z:(Builtin.firstCells j m x).run C.P w.drew=.ok ⟨u⟩ w.drew)
  (q:need n m d=true) :
  (Builtin.append_ e ty #[.slice a n cap,x]).run C.P w=.ok (.slice (some ⟨w.heap.size,0,none⟩) (n+m) (grownCap w (n+m) cap f))
   (w.drew.alloc (.cells (⟨os⟩++⟨u⟩++Builtin.zeroCells s.cells (grownCap w (n+m) cap f-(n+m))) f)):=by
 obtain⟨t,D,y⟩:=A.t0;obtain⟨F,E,h,p⟩:=A.t1;obtain⟨i,hi,l,B⟩:=A.info;obtain⟨n1,n2⟩:=Yv o_;subst hx;have k:¬(n+m<=cap):=o_;have hm:IntKind.i64.max=9223372036854775807:=rfl;have o:¬(9223372036854775807<((n:Int)+(m:Int))):=o_;have r:=AG.xH v;have g:¬(281474976710656<Builtin.nextslicecap (n+m) cap*i.bytes):=by
  have:Builtin.nextslicecap (n+m) cap*i.bytes<=(2*(n+m)+1000)*i.bytes:=Nat.mul_le_mul_right _ o_;rw[l]at this ⊢;omega
 simp[Builtin.append_,D,h,bZ y,bZ p,dZ A.hsz,jT hi,fw hi B,Builtin.lenOf,k,hm,o,g,Question.forced,ho,z,newRow,grownCap];grind
def Hv (s:Sim C g U h w){el:TypeId}{a n m cap:Nat}{agg:Bool}{f:Value}{cs:List AV}{os ws:List Value}(x:0<a)(u:f.cells.size=a)
  (j:os.length+ws.length=(n+m)*a) (v:bD g cs (os++ws)) (t:aZ cs=true) :
  ∃e ,Ext g e/\Sim C e U (h.new (.row 0 a agg cs 0)) (w.drew.alloc (.cells (⟨os⟩++⟨ws⟩++Builtin.zeroCells f.cells (grownCap w (n+m) cap el-(n+m))) el))/\
   bR e (.row h.z 0 a 0 (n+m)) (.slice (some ⟨w.heap.size,0,none⟩) (n+m) (grownCap w (n+m) cap el)):=by
 have k:=grownCap_ge w (n+m) cap el;have o:=v.length;have⟨c,d⟩:∃c,c=(⟨os⟩++⟨ws⟩++Builtin.zeroCells f.cells (grownCap w (n+m) cap el-(n+m)):Array Value):=⟨_,rfl⟩;rw[<-d];have l:c.size=grownCap w (n+m) cap el*a:=by
  rw[d];simp only[Array.size_append,size_zeroCells,u];have p:(⟨os⟩:Array Value).size=os.length:=rfl;have y:(⟨ws⟩:Array Value).size=ws.length:=rfl;rw[p,y,j,<-Nat.add_mul];congr 1;omega
 have⟨e,q,b,ex,r,i⟩:=wD (agg:=agg) s.drew el x (grownCap w (n+m) cap el) k (us:=c) (cs:=cs) o_
  (by grind) (by grind) t
 have:q=w.drew.alloc (.cells c el):=by
  simp[newRow]at b;exact b.symm
 subst this;exact⟨e,ex,r,i⟩
def BK {a:Type}{l:List a}{n:Nat}(h:l.length=n):l.take n=l:=g_
theorem OH (s:Sim C g U h w)(ht:ig g tm tmps){o:Oper}{c:Call}{x y:Operand}{ax ay:AX}{D:TypeId}{N:Nat}{z:AV}{i:TypeInfo}(ho:o.op=.call c)(hc:c.callee=.builtin .append)
  (ha:c.args=#[x,y]) (h0:Bp C.T c.argTypes 0=some D) {e1:TypeId} (h1:Bp C.T c.argTypes 1=some e1) (a5:szT C.T D=some N) (hz:pq C.T D=some z) (hi:C.T.get D=some i)
  (hp:0<N) (hx:cX x=some ax) (hy:cX y=some ay) (e:Kc (cI h N (dI C.T D) z.cells i.bytes (ev ax tm) (ev ay tm))=.val v h') :
  mi C g U h ((execOp (bE tmps) o).run C.P w) v h':=by
 have e:=GU e;obtain⟨xs,bv,e⟩:=aC e;obtain⟨b0,e⟩:=bj e;obtain⟨ch,b2⟩:=fq o_;obtain⟨i',zv,aq,cv,bi,co,bx,_⟩:=lO g hz;rw[hi]at aq;cases aq;obtain⟨i2,d2,au,cf,_⟩:=rJ a5;rw[hi]at au;cases au;have S:zv.cells.size=N:=by have:=(bi.cells (rZ bx)).length;simp at this;omega
 have A:acY C c.argTypes D N i.bytes zv:=by
  obtain⟨t,cn,hd⟩:=aC h0;obtain⟨d,hd,a4⟩:=aC hd;cases d<;>first|(cases a4;done)|skip
  cases a4;obtain⟨t',cz,a0⟩:=aC h1;obtain⟨d,a0,ac⟩:=aC a0;cases d<;>first|(cases ac;done)|skip
  cases ac;exact⟨g_,g_,a5,g_,o_,hp⟩
 have J:=cT ht hx;have ry:=cT ht hy;have p:∀u w',(Builtin.append_ c.argTypes o.type #[bE tmps x,bE tmps y]).run C.P w=.ok u w'->(execOp (bE tmps) o).run C.P w=.ok (.value u) w':=by
  intro u w' hq;simp[execOp,ho,resolve,hc,ha,invoke,builtin,hq]
 obtain⟨b,az,H,O,be,Q,Y,bw,P⟩:=HL s ry bv;have ag:H.length=xs.length*N:=by rw[<-Q.length,eR bw]
 have V:=P w xs.length (λ_ _ _ _ q=>q) (e_ _);have W:=P w.drew xs.length (λ_ _ _ _ q=>q) o_;rw[BK ag]at V W;cases T:xs with
 |nil=>
  subst T;have e:=e;have cx:(Builtin.firstCells N 0 (bE tmps y)).run C.P w=.ok #[] w:=by
   grind
  have O:=O;generalize ev ax tm=a at J e;cases a<;>first|(cases e;done)|skip
  case nl=>
   cases e;refine bV s (p _ _ ?_) J;rw[J.nils_inv];grind [jq]
  case ls G=>
   cases e;refine bV s (p _ _ ?_) J;obtain⟨a,cu,hu,ca,_⟩:=J.lst_inv;grind [jq]
  case clip G=>
   cases e;refine bV s (p _ _ ?_) J;obtain⟨a,hu,_⟩:=J.clip_inv;grind [jq]
  case row k L f j m=>
   cases e;refine bV s (p _ _ ?_) J;obtain⟨l,a,_,_,b3,hu,_⟩:=J.row_inv;grind [jq]
 |cons x0 cq=>
  have ck:0<xs.length:=by rw[T];simp
  have e:kO (ev ax tm) h N (dI C.T D) i.bytes xs=some (v,h'):=by simp_all
  clear T;generalize ev ax tm=a at J e;cases a<;>first|(cases e;done)|skip
  case nl=>
   obtain⟨B,e⟩:=bj (c:=need 0 (len xs) i.bytes) e;cases e;rw[bT]at B ⊢;have E:=mn (w:=w) (ty:=o.type) A (a:=none) (n:=0) (m:=xs.length) (cap:=0) o_ O (os:=[]) (by simp[Builtin.firstCells]) o_ o_;obtain⟨g',ex,s',hv⟩:=Hv (agg:=dI C.T D) (el:=D) (cap:=0) (n:=0) (m:=xs.length) (os:=[]) s hp o_ (cs:=bJ xs) (by simpa using ag) (by grind) Y;refine⟨g',_,_,.inl (p _ _ (by rw[J.nils_inv];omega)),ex,s',?_,Low.new _ _⟩;grind
  case clip G=>
   obtain⟨F,e⟩:=bj (c:=and (need (len G) (len xs) i.bytes) (and (fZ N G) (fT G))) e;obtain⟨B,F⟩:=fq F;obtain⟨av,_⟩:=fq F;cases e;rw[bT,bT]at B;rw[bT,bT,lY];obtain⟨a',a8,Z,a1,bl,aw,bg,ar,af⟩:=HL s (sz:=N) (xs:=G) J (by show cond (fZ N G) (some G) none=_;rw[av];rfl);have b4:Z.length=G.length*N:=by rw[<-aw.length,eR ar]
   have X:=af w.drew G.length (λ_ _ _ _ q=>q) o_;rw[BK b4,a1]at X;obtain⟨a2,ao,_⟩:=J.clip_inv;have aa:a8=G.length:=by rw[a1]at ao;cases ao;rfl
   subst aa;have E:=mn (w:=w) (ty:=o.type) A (a:=a') (n:=G.length) (m:=xs.length) (cap:=G.length) o_ O o_ o_ o_;obtain⟨g',ex,s',hv⟩:=Hv (agg:=dI C.T D) (el:=D) (cap:=G.length) (n:=G.length) (m:=xs.length) (os:=Z) (ws:=H) s hp o_ (cs:=bJ G++bJ xs)
    (by grind) (aw.append Q) (by rw[jr,bg,Y];rfl)
   exact⟨g',_,_,g_,ex,s',hv,Low.new _ _⟩
  case row k L f j m=>
   obtain⟨al,e⟩:=bj (c:=Nat.beq f N) e;have al:=dB al;subst al;obtain⟨r,hr,e⟩:=aC e;obtain⟨F,e⟩:=bj e;cases e;obtain⟨k1,F⟩:=fq F;obtain⟨k2,F⟩:=fq F;obtain⟨k3,B⟩:=fq F;have k1:=Ae k1;have k2:r.2.2<=(j+m)*f:=mM k2;have k3:=mM k3;rw[bT]at k3 B;have k3:(j+m)*f<=r.2.1.length:=k3;obtain⟨l,a,hl,hs,b3,hu,M⟩:=J.row_inv;obtain⟨r1,r2,r3,r4⟩:=Ag s hl hr;obtain⟨q1,q2,I,t',q3,q4,q5,q6,q7,q8,q9⟩:=r4;have ap:l.block<w.heap.size:=g_;have bd:j*f+m*f=(j+m)*f:=by grind
   have b5:((r.2.1.drop (j*f)).take (m*f)).length=m*f:=by simp;omega
   have R:=((q6.drop (j*f)).take (m*f));have K:((((I.toList.drop l.base).take r.2.1.length).drop (j*f)).take (m*f)).length=m*f:=by grind
   have a7:aZ ((r.2.1.drop (j*f)).take (m*f))=true:=kX (iH q7 _) _;have cc:aZ ((r.2.1.drop (j*f)).take (m*f)++bJ xs)=true:=by rw[jr,a7,Y];rfl
   have a9:g.ρ k (L+1)=none:=g_;rw[lY,lu,iC,bT];have cg:ot (.row (Nat.succ L) f (dI C.T D) ((r.2.1.drop (Nat.mul j f)).take (Nat.mul m f)++bJ xs) (Nat.sub r.2.2 (Nat.mul j f)))=L+1:=rfl;have b8:Nat.mul j f=j*f:=rfl;have bf:Nat.mul m f=m*f:=rfl;have b1:Nat.sub r.2.2 (j*f)=r.2.2-j*f:=rfl;have b9:Nat.add m xs.length=m+xs.length:=rfl;rw[b8,bf,b1,b9];have n:((r.2.1.drop (j*f)).take (m*f)++bJ xs).length=(m+xs.length)*f:=by
    grind [List.length_append,eR,Nat.add_mul]
   rcases Nat.lt_or_ge (l.cap-j) (m+xs.length) with bq|ai
   ·-- it moves
    have ah:(Builtin.firstCells f m (bE tmps x)).run C.P w.drew=.ok ⟨(((I.toList.drop l.base).take r.2.1.length).drop (j*f)).take (m*f)⟩ w.drew:=by
     rw[hu];rcases M with rfl|⟨rfl,_⟩
     ·have:=mj (C:=C) (w:=w.drew) (sz:=f) (n:=m) (len:=m) (cap:=l.cap-j) (ws:=((I.toList.drop l.base).take r.2.1.length).drop (j*f)) (a:=⟨l.block,l.base+j*f,none⟩) rfl
       (by have:=K;rw[List.length_take]at this;omega) (λi yy hi=>Cd (cs:=r.2.1) (off:=j*f) q3 i yy hi)
      omega
     cases a with
     |none=>simp[Builtin.firstCells]
     |some a=>simp[Builtin.firstCells,loadCells,loadCellsFrom]
    rw[hu]at ah;have E:=mn (w:=w) (ty:=o.type) A (a:=a) (n:=m) (m:=xs.length) (cap:=l.cap-j) o_ O o_ o_ o_;have cl:=grownCap_ge w (m+xs.length) (l.cap-j) D;obtain⟨Z,bm⟩:∃Z,Z=(((I.toList.drop l.base).take r.2.1.length).drop (j*f)).take (m*f):=⟨_,rfl⟩;rw[<-bm]at E R K;obtain⟨nu,a6⟩:∃nu,nu=(⟨Z⟩++⟨H⟩++Builtin.zeroCells zv.cells (grownCap w (m+xs.length) (l.cap-j) D-(m+xs.length)):Array Value):=⟨_,rfl⟩;rw[<-a6]at E;have br:nu.size=grownCap w (m+xs.length) (l.cap-j) D*f:=by
     rw[a6];simp only[Array.size_append,size_zeroCells,S];have e1:(⟨Z⟩:Array Value).size=Z.length:=rfl;have e2:(⟨H⟩:Array Value).size=H.length:=rfl;rw[e1,e2,K,ag,<-Nat.add_mul,<-Nat.add_mul];congr 1;omega
    have ad:nu.toList.take ((m+xs.length)*f)=Z++H:=by
     grind [Array.toList_append,List.take_left',List.length_append,Nat.add_mul]
    have am:=g.at_ext (k:=k) (n:=L+1) ⟨w.heap.size,0,grownCap w (m+xs.length) (l.cap-j) D,f⟩ o_;obtain⟨ex,s'⟩:=s.regen (w':=w.drew.alloc (.cells nu D)) (F:=L+1) (a:=⟨w.heap.size,0,grownCap w (m+xs.length) (l.cap-j) D,f⟩)
     (o':=.row (L+1) f (dI C.T D) ((r.2.1.drop (j*f)).take (m*f)++bJ xs) (r.2.2-j*f)) r1 r2 hl rfl o_
     (λbb an a3=>heap_alloc_old w.drew _ bb a3) (by simp) g_
     ⟨rfl,hp,nu,D,heap_alloc_new w.drew _,by grind,by grind,
      by rw[List.drop_zero,n,ad];exact(R.append Q).mono am,o_,
      λoo vv q=>by
       have q:g.F w.heap.size oo=some vv:=q;exact absurd (s.frz_lt q) o_,
      λmm bk=>by grind [Gh.at_other]⟩
     (λii vv q=>by
       have q:g.F w.heap.size ii=some vv:=q;exact absurd (s.frz_lt q) o_) rfl rfl rfl
    refine⟨_,_,_,.inl (p _ _ (by rw[hu];omega)),ex,s',?_,Low.set _ _ _⟩;have:=bR.row (g:=g.at k (L+1) ⟨w.heap.size,0,grownCap w (m+xs.length) (l.cap-j) D,f⟩) (k:=k) (n:=L+1) (sz:=f) (off:=0) (len:=m+xs.length) (g.at_same _ _ _) rfl (by grind);grind
   -- in its place
   rcases M with rfl|⟨q,cr⟩
   ·have ci:=sU Q Y;have cs:(j+(m+xs.length))*f<=l.cap*f:=Nat.mul_le_mul_right _ o_;have ce:(j+(m+xs.length))*f=(j+m)*f+xs.length*f:=by rw[<-Nat.add_mul];congr 1;omega
    have aj:=iJ (C:=C) (b:=l.block) (off:=l.base+(j+m)*f) (t:=t') H 0 w I q3 o_ o_;rw[Nat.add_zero]at aj;have ak:(⟨l.block,l.base+j*f,none⟩:Addr).add (m*f)=⟨l.block,l.base+(j+m)*f,none⟩:=by rw[nE];congr 1;omega
    rw[<-ak]at aj;have E:=Bh (w:=w) (ty:=o.type) A (cap:=l.cap-j) o_ O o_ aj;have ab:l.base+(j+m)*f+H.length<=I.toList.length:=by simp;omega
    have am:=g.at_ext (k:=k) (n:=L+1) ⟨l.block,l.base+j*f,l.cap-j,f⟩ o_;obtain⟨ex,s'⟩:=s.regen (w':=eK w l.block (.cells ⟨setR (l.base+(j+m)*f) H I.toList⟩ t' (0,0))) (F:=L+1) (a:=⟨l.block,l.base+j*f,l.cap-j,f⟩)
     (o':=.row (L+1) f (dI C.T D) ((r.2.1.drop (j*f)).take (m*f)++bJ xs) (r.2.2-j*f)) r1 r2 hl rfl o_
     (λbb an a3=>mb an) (by grind [wS]) g_
     ⟨rfl,hp,_,t',fC ap,by
       show l.base+j*f+(l.cap-j)*f<=(setR (l.base+(j+m)*f) H I.toList).length;rw[lJ];have:j*f+(l.cap-j)*f=l.cap*f:=by rw[<-Nat.add_mul];congr 1;omega
       simp;omega,
      by rw[n];exact Nat.mul_le_mul_right _ o_,by
       rw[n];have:((setR (l.base+(j+m)*f) H I.toList).drop (l.base+j*f)).take ((m+xs.length)*f)=((((I.toList.drop l.base).take r.2.1.length).drop (j*f)).take (m*f))++H:=by
        apply List.ext_getElem?;intro ii;rw[List.getElem?_take,List.getElem?_drop,uX _ _ _ _ ab,List.getElem?_append,K];grind
       show bD _ _ (((setR (l.base+(j+m)*f) H I.toList).drop (l.base+j*f)).take ((m+xs.length)*f));rw[this];exact(R.append Q).mono am,o_,
      λoo vv q=>by
       have q:g.F l.block oo=some vv:=q;have:=q8 oo vv q;show oo<l.base+j*f+(r.2.2-j*f);omega,
      λmm bk=>by grind [Gh.at_other]⟩
     (λii vv q=>by
      have q:g.F l.block ii=some vv:=q;have cb:=q8 ii vv q;rw[cell_of_row _ _ _ _ t' (0,0) (fC ap)];have:=s.frz _ _ _ q;rw[cell_of_row _ _ _ I t' (0,0) q3]at this;have e2:(⟨setR (l.base+(j+m)*f) H I.toList⟩:Array Value)[ii]?=(setR (l.base+(j+m)*f) H I.toList)[ii]?:=by simp
      rw[e2,uX _ _ _ _ ab,N_ o_];simpa using this) rfl rfl rfl
    refine⟨_,_,_,.inl (p _ _ (by rw[hu];exact E)),ex,s',?_,Low.set _ _ _⟩;have:=bR.row (g:=g.at k (L+1) ⟨l.block,l.base+j*f,l.cap-j,f⟩) (k:=k) (n:=L+1) (sz:=f) (off:=0) (len:=m+xs.length) (g.at_same _ _ _) rfl (by simpa using ai);simpa using this
   omega
def wI {a:List AV}{b k:Nat}(hs:∀e∈a,e.cells.length=b):bJ (a.take k)=(bJ a).take (k*b):=by
 have:=Av (l:=0) (k:=k) hs o_;grind
def Ak {l:List AV}{k:AV->OpR}(e:Rb l OpR.bad k=.val v h'):∃x,l=[x]/\k x=.val v h':=by
 cases l with
 |nil=>cases e
 |cons x l=>cases l with
  |nil=>exact⟨x,rfl,e⟩
  |cons y l=>cases e
def SI {l:List AV}{k:AV->AV->OpR}(e:acI l OpR.bad k=.val v h'):∃x y,l=[x,y]/\k x y=.val v h':=by
 cases l with
 |nil=>cases e
 |cons x l=>
  obtain⟨_,rfl,e⟩:=Ak (l:=l) e;grind
theorem ZA {a:Array Operand}{c:List AX}{x:AV}(g:cXs a=some c)(e:evs c tm=[x]):∃y d,a=#[y]/\cX y=some d/\x=ev d tm:=by
 cases c with
 |nil=>cases e
 |cons d l=>
  cases l with
  |cons z l=>cases e
  |nil=>
   cases e;have⟨a⟩:=a;cases a with
   |nil=>cases g
   |cons y a=>
    have⟨b,r,h,f,q⟩:=cA (show ma cX (y::a)=_ from g);cases q;cases a with
    |nil=>grind
    |cons z a=>have⟨_,_,_,f,_⟩:=cA f;grind
theorem Zz {a:Array Operand}{d:List AX}{x h:AV}(i:cXs a=some d)(e:evs d tm=[x,h]):
  ∃y z f g,a=#[y,z]/\cX y=some f/\cX z=some g/\x=ev f tm/\h=ev g tm:=by
 cases d with
 |nil=>cases e
 |cons f l=>
  cases l with
  |nil=>cases e
  |cons g l=>
   cases l with
   |cons z l=>cases e
   |nil=>
    cases e;have⟨a⟩:=a;cases a with
    |nil=>cases i
    |cons y a=>
     have⟨b,r,k,c,q⟩:=cA (show ma cX (y::a)=_ from i);cases q;cases a with
     |nil=>cases c
     |cons z a=>
      have⟨b,r,_,c,q⟩:=cA c;cases q;cases a with
      |nil=>grind
      |cons z a=>have⟨_,_,_,c,_⟩:=cA c;grind
def II {o:Oper}{c:Call}{b:Builtin}{args:List AX}{f:AOp}(s:Sim C g U h w)(m:ig g tm tmps)(ho:o.op=.call c)(l:c.callee=.builtin b)(j:cXs c.args=some args)
  (a:AL b C.T c.argTypes args=some f) (e:da f tm h=.val v h'):mi C g U h ((execOp (bE tmps) o).run C.P w) v h':=by
 cases b with
 |len=>
  have⟨_,h1,a⟩:=aC (show aI c.argTypes.toList[0]? _=_ from a);have⟨_,u,a⟩:=aC a;have⟨_,p,a⟩:=aC a;cases a;have⟨x,q,e⟩:=Ak (show Rb (evs args tm) OpR.bad _=_ from e);grind [ZA,adA]
 |append=>
  have⟨_,_,a⟩:=aC (show aI (Bp C.T c.argTypes 0) _=_ from a);have⟨_,_,a⟩:=aC a;have⟨_,_,a⟩:=aC a;have⟨_,_,a⟩:=aC a;have⟨_,_,a⟩:=aC a;have⟨_,a⟩:=bj a;cases a;have⟨_,_,_,e⟩:=SI (show acI (evs args tm) OpR.bad _=_ from e);grind [Zz,OH,lX]
 |max=>cases a;exact ady s m ho l j e
 |min=>cases a;exact adx s m ho l j e
 |recover=>cases a;cases e
 |_=>cases a
def adv {o:Oper}{aop:AOp}(s:Sim C g U h w)(ht:ig g tm tmps)(hc:cOp o.op C.P C.T=some aop)(e:da aop tm h=.val v h'):
  mi C g U h ((execOp (bE tmps) o).run C.P w) v h':=by
 cases ho:o.op with
 |move x=>
  rw[ho]at hc;have⟨ax,h1,hc⟩:=aC (show aI (cX x) _=_ from hc);cases hc;cases e;grind [abv]
 |assign x=>
  rw[ho]at hc;have⟨ax,h1,hc⟩:=aC (show aI (cX x) _=_ from hc);cases hc;cases e;exact abv s ht g_ h1
 |pick x y z=>
  rw[ho]at hc;have⟨ax,h1,hc⟩:=aC (show aI (cX x) _=_ from hc);have⟨ay,h2,hc⟩:=aC hc;have⟨_,h3,hc⟩:=aC hc;cases hc;exact Ym s ht ho h1 h2 h3 e
 |alloc t=>
  rw[ho]at hc;have⟨z,h1,hc⟩:=aC (show aI (pq C.T t) _=_ from hc);cases hc;cases e;grind [adw]
 |box t x=>
  rw[ho]at hc;have⟨n,h1,hc⟩:=aC (show aI (szT C.T t) _=_ from hc);have⟨ax,h2,hc⟩:=aC hc;cases hc;exact adB s ht ho h2 e
 |build t ps=>rw[ho]at hc;exact SG s ht ho hc e
 |buildSlice t n ps=>rw[ho]at hc;exact adz s ht ho hc e
 |load t x=>
  rw[ho]at hc;have⟨n,h1,hc⟩:=aC (show aI (szT C.T t) _=_ from hc);have⟨ax,h2,hc⟩:=aC hc;have⟨_,hc⟩:=bj hc;cases hc;exact Yo s ht ho h1 h2 e
 |store t x y=>
  rw[ho]at hc;have⟨n,h1,hc⟩:=aC (show aI (szT C.T t) _=_ from hc);have⟨ax,h2,hc⟩:=aC hc;have⟨ay,h3,hc⟩:=aC hc;cases hc;exact Sz s ht ho h1 h2 h3 e
 |nilCheck x=>
  rw[ho]at hc;have⟨ax,h1,hc⟩:=aC (show aI (cX x) _=_ from hc);cases hc;exact OC s ht ho h1 e
 |binOp op t x y t'=>
  rw[ho]at hc;have⟨k,h1,hc⟩:=aC (show aI (eqK C.P C.T t (isC x||isC y)) _=_ from hc);have⟨ax,h2,hc⟩:=aC hc;have⟨_,h3,hc⟩:=aC hc;cases hc;exact adC s ht ho h1 h2 h3 e
 |unOp op t x=>
  rw[ho]at hc;cases op<;>first|(cases hc;done)|skip
  have⟨ax,h1,hc⟩:=aC (show aI (cX x) _=_ from hc);cases hc;exact op_un s ht ho h1 e
 |makeInterface t x=>
  rw[ho]at hc;have⟨d,h1,hc⟩:=aC (show aI (und C.T t) _=_ from hc);have⟨h2,hc⟩:=lq hc;have⟨ax,h3,hc⟩:=aC hc;cases hc;cases e;grind [IG]
 |makeFunc f a b=>
  rw[ho]at hc;cases f with
  |func f=>
   have⟨_,h1,hc⟩:=aC (show aI (cXs a) _=_ from hc);have⟨_,h2,hc⟩:=aC hc;cases hc;cases e;grind [Yn]
  |_=>cases hc
 |makeMap t r=>
  rw[ho]at hc;cases r with
  |none=>cases hc;cases e;grind [SA]
  |some r=>cases hc
 |makeSlice t l c=>
  rw[ho]at hc;have⟨el,h1,hc⟩:=aC (show aI (mP C.T t) _=_ from hc);have⟨n,h2,hc⟩:=aC hc;have⟨z,h3,hc⟩:=aC hc;have⟨i,h4,hc⟩:=aC hc;have⟨_,h5,hc⟩:=aC hc;have⟨_,h6,hc⟩:=aC hc;have⟨hp,hc⟩:=bj hc;cases hc;exact IF s ht ho h1 h2 h3 h4 h5 h6 (lX hp) e
 |slice t x lo hi mx=>
  rw[ho]at hc;cases mx<;>first|(cases hc;done)|skip
  have⟨ax,h1,hc⟩:=aC (show aI (cX x) _=_ from hc);have⟨_,h2,hc⟩:=aC hc;have⟨_,h3,hc⟩:=aC hc;have⟨el,h4,hc⟩:=aC hc;have⟨n,h5,hc⟩:=aC hc;have⟨_,hc⟩:=bj hc;cases hc;obtain⟨q,rfl⟩:=fa e;have⟨m,e1,q⟩:=aC q;have⟨_,e2,q⟩:=aC q;have⟨_,e3,q⟩:=aC q;exact Ds s ht ho (ux h4) h5 h1 h2 h3 e1 e2 e3 q
 |fieldAddr t x f=>
  rw[ho]at hc;have⟨p,h1,hc⟩:=aC (show aI (zI C.T t f) _=_ from hc);have⟨ax,h2,hc⟩:=aC hc;cases hc;exact SF s ht ho h1 h2 e
 |indexAddr t x i=>
  rw[ho]at hc;have⟨ax,h1,hc⟩:=aC (show aI (cX x) _=_ from hc);have⟨ai,h2,hc⟩:=aC hc;have⟨_,h3,hc⟩:=aC hc;have⟨_,h4,hc⟩:=aC hc;cases hc;exact SD s ht ho h3 h4 h1 h2 e
 |index t x i=>
  rw[ho]at hc;have⟨ax,h1,hc⟩:=aC (show aI (cX x) _=_ from hc);have⟨ai,h2,hc⟩:=aC hc;have⟨d,h3,hc⟩:=aC hc;cases d with
  |string=>cases hc;exact OB s ht ho h3 h1 h2 e
  |_=>cases hc
 |lookup t x i ok=>
  rw[ho]at hc;have⟨p,h1,hc⟩:=aC (show aI (nD C.P C.T t) _=_ from hc);have⟨z,h2,hc⟩:=aC hc;have⟨ax,h3,hc⟩:=aC hc;have⟨_,h4,hc⟩:=aC hc;cases hc;exact OF s ht ho h1 h2 h3 h4 e
 |mapUpdate t m k x=>
  rw[ho]at hc;have⟨_,h1,hc⟩:=aC (show aI (nD C.P C.T t) _=_ from hc);have⟨_,h2,hc⟩:=aC hc;have⟨_,h3,hc⟩:=aC hc;have⟨ax,h4,hc⟩:=aC hc;cases hc;exact SB s ht ho h1 h2 h3 h4 e
 |typeAssert x t t' ok=>
  rw[ho]at hc;have⟨d,h1,hc⟩:=aC (show aI (und C.T t') _=_ from hc);have⟨h2,q⟩:=lq hc;obtain⟨h5,rfl⟩:vR d=false/\ok=true:=by grind
  have⟨ax,h3,q⟩:=aC q;have⟨_,h4,q⟩:=aC q;cases q;exact OG s ht ho h1 h5 h3 h4 e
 |extract x i=>
  rw[ho]at hc;have⟨ax,h1,hc⟩:=aC (show aI (cX x) _=_ from hc);cases hc;exact IH s ht ho h1 e
 |call c=>
  rw[ho]at hc;have⟨args,h1,hc⟩:=aC (show aI (cXs c.args) _=_ from hc);cases hcc:c.callee with
  |value f=>
   rw[hcc]at hc;have⟨af,h2,hc⟩:=aC (show aI (cX f) _=_ from hc);cases hc;cases e
  |invoke a b=>rw[hcc]at hc;cases hc
  |builtin b=>rw[hcc]at hc;exact II s ht ho hcc h1 hc e
 |defer c=>
  rw[ho]at hc;have⟨_,h1,hc⟩:=aC (show aI (cXs c.args) _=_ from hc);cases hcc:c.callee with
  |value f=>
   rw[hcc]at hc;have⟨_,_,hc⟩:=aC (show aI (cX f) _=_ from hc);cases hc;cases e
  |invoke a b=>rw[hcc]at hc;cases hc
  |builtin b=>rw[hcc]at hc;cases hc
 |panic x=>
  rw[ho]at hc;have⟨ax,_,hc⟩:=aC (show aI (cX x) _=_ from hc);cases hc;have e:tE (ev ax tm)=.val v h':=e;generalize ev ax tm=y at e;cases y<;>cases e
 |_=>rw[ho]at hc;cases hc
end
def stF (b:Frame)(tmps:Array Value)(ds:List Deferred)(todo:List Item):Frame:={b with tmps:=tmps,defers:=ds,todo:=todo,mode:=.run}
structure KK where
 c0:Frame
 rest:List Frame
 pv:Value
 cs:List Frame
def ent (v:Value)(r:Bool):PanicEntry:={v:=v,recovered:=r,goexit:=false}
def gR (K:KK):RC->List Frame
 |.no=>K.cs
 |.ret=>{K.c0 with mode:=.returning} :: K.rest
 |.pend _=>{K.c0 with mode:=.panicking [ent K.pv false]} :: K.rest
 |.done=>{K.c0 with mode:=.panicking [ent K.pv true]} :: K.rest
def AW (K:KK)(u:Value):RC->Frame
 |.no=>K.c0.finish u
 |.ret=>{K.c0 with mode:=.returning}
 |.pend _=>{K.c0 with mode:=.panicking [ent K.pv false]}
 |.done=>{K.c0 with mode:=.returning}
def ye (g:Gh)(K:KK)(a:CallKind):RC->Prop
 |.no=>a=.normal
 |.ret=>a=.deferred
 |.pend v=>a=.deferred/\bR g v K.pv
 |.done=>a=.deferred
inductive Gi (g:Gh):List DF->List Deferred->Prop
 |nil:Gi g [] []
 |fn {f:FuncId} {a b as:List AV} {x y us:List Value} {l:List DF} {ds:List Deferred} (ha:bD g a x) (hb:bD g b y) (hs:bD g as us) (t:Gi g l ds) :
   Gi g (.call (.fn f a b) as::l) ({target:=.fn (.func f) ⟨y⟩,args:=⟨x++us⟩} :: ds)
 |mark {k:Nat} {lc:Loc} {l:List DF} {ds:List Deferred} (h:g.ρ k 0=some lc) (t:Gi g l ds):Gi g (.mark k::l) ({target:=.collected lc.block,args:=#[]} :: ds)
inductive FP (g:Gh):Option Nat->Option Nat->Prop
 |none:FP g none none
 |some {k:Nat} {l:Loc} (h:g.ρ k 0=some l):FP g (some k) (some l.block)
def Gi.mono {g b:Gh}(x:Ext g b){l:List DF}{ds:List Deferred}(h:Gi g l ds):Gi b l ds:=by
 induction h with
 |nil=>exact .nil
 |fn d c hs _ a=>exact .fn (d.mono x) (c.mono x) (hs.mono x) a
 |mark h _ a=>exact .mark (x.ρ _ _ _ h) a
def FP.mono {g c:Gh}(x:Ext g c){a b:Option Nat}(h:FP g a b):FP c a b:=by
 cases h with
 |none=>exact .none
 |some h=>exact .some (x.ρ _ _ _ h)
def ye.mono {g a:Gh}(x:Ext g a){K:KK}{kd:CallKind}{r:RC}(h:ye g K kd r):ye a K kd r:=by
 cases r with
 |pend v=>exact⟨h.1,h.2.mono x⟩
 |_=>exact h
structure FR (g:Gh)(b:Frame)(K:KK)(nt:Nat)(fr:AF)(tmps:Array Value)(ds:List Deferred):Prop where
 ht:ig g fr.tm tmps
 hd:Gi g fr.cx.dfs ds
 hr:ye g K b.kind fr.cx.rc
 hn:nt<=tmps.size
 hf:fr.cx.fid=b.fn
 ho:FP g fr.cx.rnd b.roundOf
def FR.mono {g a:Gh}(x:Ext g a){b:Frame}{K:KK}{nt:Nat}{fr:AF}{tmps:Array Value}{ds:List Deferred}(f:FR g b K nt fr tmps ds):FR a b K nt fr tmps ds:=
 ⟨f.ht.mono x,f.hd.mono x,f.hr.mono x,f.hn,f.hf,f.ho.mono x⟩
def Bu:List Item->Prop
 |.call _ _ _ _::_=>False
 |_=>True
def Out (P:Program)(b:Frame)(K:KK)(k:List Item)(m:Machine)(g:Gh)(fr:AF)(tmps:Array Value)(ds:List Deferred)(w:World):AEx->Prop
 |.normal=>Steps P m (lone (stF b tmps ds k) (gR K fr.cx.rc) w)
 |.exit id=>∃a,exitTo id a=exitTo id k/\Steps P m (lone (stF b tmps ds (.code (.exit id)::a)) (gR K fr.cx.rc) w)
 |.ret=>∃a,Steps P m (lone (stF b tmps ds (.code .ret::a)) (gR K fr.cx.rc) w)
 |.panic v=>∃a pv,Bu a/\bR g v pv/\Steps P m (lone {stF b tmps ds a with mode:=.panicking [ent pv false]} (gR K fr.cx.rc) w)
def iI (C:Cx)(b:Frame)(K:KK)(nt:Nat)(k:List Item)(m:Machine)(g:Gh)(U:Nat->Option (List AV))(h:AH)(e:AEx)(fr:AF)(h':AH):Prop:=
 ∃a d c tmps ds,Ext g a/\xZ h.z U d/\Sim C a d h' c/\Low h h'/\FR a b K nt fr tmps ds/\Out C.P b K k m a fr tmps ds c e
section
variable {C:Cx}{b:Frame}{K:KK}{nt:Nat}{k:List Item}{m m1:Machine}{g g1:Gh}{U U1:Nat->Option (List AV)}{h h1 h':AH}{e:AEx}{fr fr':AF}
def Out.of_steps {P:Program}{tmps:Array Value}{ds:List Deferred}{w:World}(s:Steps P m m1)(o:Out P b K k m1 g fr tmps ds w e):Out P b K k m g fr tmps ds w e:=by
 cases e with
 |normal=>exact s.trans o
 |exit id=>have⟨a,x,y⟩:=o;exact⟨a,x,s.trans y⟩
 |ret=>have⟨a,y⟩:=o;exact⟨a,s.trans y⟩
 |panic v=>have⟨a,pv,x,y,z⟩:=o;exact⟨a,pv,x,y,s.trans z⟩
def iI.of_steps (s:Steps C.P m m1)(o:iI C b K nt k m1 g U h e fr h'):iI C b K nt k m g U h e fr h':=by
 have⟨n,j,f,tmps,ds,c,i,p,l,a,d⟩:=o;exact⟨n,j,f,tmps,ds,c,i,p,l,a,d.of_steps s⟩
def iI.after (x:Ext g g1)(u:xZ h.z U U1)(l:Low h h1)(o:iI C b K nt k m g1 U1 h1 e fr h'):iI C b K nt k m g U h e fr h':=by
 have⟨p,j,f,tmps,ds,c,i,q,n,a,d⟩:=o;exact⟨p,j,f,tmps,ds,x.trans c,u.trans i l,q,l.trans n,a,d⟩
theorem iI.then (o:iI C b K nt k m g U h .normal fr h1){d:List Item}{c:AEx}
  (n:∀g1 U1 a tmps ds,Sim C g1 U1 h1 a->FR g1 b K nt fr tmps ds->iI C b K nt d (lone (stF b tmps ds k) (gR K fr.cx.rc) a) g1 U1 h1 c fr' h'):iI C b K nt d m g U h c fr' h':=by
 have⟨_,_,_,_,_,e,i,_,j,_,f⟩:=o;exact iI.after e i j (iI.of_steps f g_)
theorem iI.pass {x:List Item}(o:iI C b K nt (x++k) m g U h e fr h')(hx:∀id,exitTo id (x++k)=exitTo id k)(r:∀(_:e=.normal),False):iI C b K nt k m g U h e fr h':=by
 have⟨g1,U1,d,tmps,ds,i,j,n,l,c,a⟩:=o;refine⟨g1,U1,d,tmps,ds,i,j,n,l,c,?_⟩;cases e with
 |normal=>grind
 |exit id=>have⟨f,_,q⟩:=a;exact⟨f,g_,q⟩
 |ret=>exact a
 |panic v=>exact a
theorem Pb {a:AF}{h1:AH}{b c:AEx}{d:AF->AH->RX}(q:acR b a h1 d=some (c,fr',h')):
  (b=.normal/\d a h1=some (c,fr',h'))\/(b≠.normal/\c=b/\fr'=a/\h'=h1):=by
 cases b with
 |normal=>exact .inl ⟨rfl,by cases a;cases h1;exact q⟩
 |_=>cases q;grind
theorem andThen_some {r:RX}{c:AF->AH->RX}{b:AEx}(q:kQ r c=some (b,fr',h')):
  (∃a h1,r=some (.normal,a,h1)/\c a h1=some (b,fr',h'))\/(r=some (b,fr',h')/\b≠.normal):=by
 have⟨⟨_,_,_⟩,_,q⟩:=aC (show aI r _=_ from q);grind [Pb]
end
section steps
variable {P:Program}{b:Frame}{tmps:Array Value}{ds:List Deferred}{k:List Item}{cs:List Frame}{w:World}
def Aa (b:Frame)(tmps:Array Value)(ds:List Deferred)(k:List Item):(stF b tmps ds k).eval=bE tmps:=FC _
def Xz:step P (lone (stF b tmps ds (.code .skip::k)) cs w)=.next (lone (stF b tmps ds k) cs w):=step_lone_go (by simp[stepG,stepG.exec,stF])
def RN {l:Nat}: step P (lone (stF b tmps ds (.code (.label l)::k)) cs w)=.next (lone (stF b tmps ds k) cs w):=step_lone_go (by simp[stepG,stepG.exec,stF])
def Iu {id:Nat}: step P (lone (stF b tmps ds (.inBlock id::k)) cs w)=.next (lone (stF b tmps ds k) cs w):=step_lone_go (by simp[stepG,stepG.exec,stF])
def Is {c:Code}: step P (lone (stF b tmps ds (.inScope c::k)) cs w)=.next (lone (stF b tmps ds k) cs w):=step_lone_go (by simp[stepG,stepG.exec,stF])
def ada {x y:Code}: step P (lone (stF b tmps ds (.code (.seq x y)::k)) cs w)=.next (lone (stF b tmps ds (.code x :: .code y::k)) cs w):=step_lone_go (by simp[stepG,stepG.exec,stF])
def XD {c:Operand}{x y:Code}{t:Bool}(h:bE tmps c=.bool t):
  step P (lone (stF b tmps ds (.code (.cond c x y)::k)) cs w)=.next (lone (stF b tmps ds (.code (if t then x else y)::k)) cs w):=
 step_lone_go (by
  have:=congrFun (Aa b tmps ds (.code (.cond c x y)::k)) c;simp only[stF]at this;simp[stepG,stepG.exec,stF,this,h])
def RQ {id:Nat}{c:Code}: step P (lone (stF b tmps ds (.code (.block id c)::k)) cs w)=.next (lone (stF b tmps ds (.code c :: .inBlock id::k)) cs w):=step_lone_go (by simp[stepG,stepG.exec,stF])
def XA {c:Code}: step P (lone (stF b tmps ds (.code (.loop c)::k)) cs w)=.next (lone (stF b tmps ds (.code c :: .inLoop c::k)) cs w):=step_lone_go (by simp[stepG,stepG.exec,stF])
def NU {c:Code}: step P (lone (stF b tmps ds (.inLoop c::k)) cs w)=.next (lone (stF b tmps ds (.code c :: .inLoop c::k)) cs w):=step_lone_go (by simp[stepG,stepG.exec,stF])
def RI {c:Code}: step P (lone (stF b tmps ds (.code (.scope c)::k)) cs w)=.next (lone (stF b tmps ds (.code c :: .inScope c::k)) cs w):=step_lone_go (by simp[stepG,stepG.exec,stF])
def XB {id:Nat}{k':List Item}(h:exitTo id k=some k'):step P (lone (stF b tmps ds (.code (.exit id)::k)) cs w)=.next (lone (stF b tmps ds k') cs w):=
 step_lone_go (by simp[stepG,stepG.exec,stF,h])
def NT {id:Nat}{ops:Array Oper}: step P (lone (stF b tmps ds (.code (.region id ops false)::k)) cs w)=.next (lone (stF b tmps ds (.inRegion ops (List.range ops.size)::k)) cs w):=
 step_lone_go (by simp[stepG,stepG.exec,stF])
def uw {ops:Array Oper}: step P (lone (stF b tmps ds (.inRegion ops []::k)) cs w)=.next (lone (stF b tmps ds k) cs w):=
 step_lone_go (by simp[stepG,stepG.exec,stF])
def uM (d:Option Tmp)(tmps:Array Value)(v:Value):Array Value:=match d with
 |some d=>tmps.setIfInBounds d v
 |none=>tmps
def pg {ops:Array Oper}{i:Nat}{is:List Nat}{o:Oper}(ho:ops[i]?=some o)(v:Value):
  (stF b tmps ds (.inRegion ops (i::is)::k)).finish v=stF b (uM o.dst tmps v) ds (.inRegion ops is::k):=by
 grind [Frame.finish,stF,uM]
def EU {ops:Array Oper}{i:Nat}{is:List Nat}{o:Oper}(ho:ops[i]?=some o)(hw:Region.wanted o (yielded ops tmps)=false):
  step P (lone (stF b tmps ds (.inRegion ops (i::is)::k)) cs w)=.next (lone (stF b (uM o.dst tmps undef) ds (.inRegion ops is::k)) cs w):=by
 refine step_lone_go ?_;have:=pg (b:=b) (tmps:=tmps) (ds:=ds) (k:=k) (is:=is) ho undef;rw[<-this];simp[stepG,stepG.exec,stF,ho,hw]
section wanted
variable {ops:Array Oper}{i:Nat}{is:List Nat}{o:Oper}
def te (ho:ops[i]?=some o)(a:Region.wanted o (yielded ops tmps)=true)(d:(∀c,o.op≠.defer c)\/b.roundOf=none):
  stepG P true {frame:=stF b tmps ds (.inRegion ops (i::is)::k),callers:=cs,status:=.running,dying:=none} w =
   stepG.apply P true (stF b tmps ds (.inRegion ops (i::is)::k)) cs none (execOp (bE tmps) o) w:=by
 have e:=Aa b tmps ds (.inRegion ops (i::is)::k);simp only[stF]at e;simp only[stepG,stepG.exec,stF,ho,Option.map_some,Option.getD_some,a,if_true,stepG.oper,Frame.oper?];grind
def Gx (ho:ops[i]?=some o)(hw:Region.wanted o (yielded ops tmps)=true)(hd:(∀c,o.op≠.defer c)\/b.roundOf=none){u:Value}{w':World}
  (hr:(execOp (bE tmps) o).run P w=.ok (.value u) w'\/((execOp (bE tmps) o).run P w=.ok .skip w'/\u=undef)) :
  step P (lone (stF b tmps ds (.inRegion ops (i::is)::k)) cs w)=.next (lone (stF b (uM o.dst tmps u) ds (.inRegion ops is::k)) cs w'):=by
 refine step_lone_go ?_;rw[te ho hw hd,<-pg ho u];rcases hr with hr|⟨hr,rfl⟩<;>simp[stepG.apply,hr]
def RL (ho:ops[i]?=some o)(hw:Region.wanted o (yielded ops tmps)=true)(hd:(∀c,o.op≠.defer c)\/b.roundOf=none){u:Value}{w':World}
  (hr:(execOp (bE tmps) o).run P w=.halt (.panic u) w') :
  step P (lone (stF b tmps ds (.inRegion ops (i::is)::k)) cs w)=.next (lone {stF b tmps ds (.inRegion ops (i::is)::k) with mode:=.panicking [ent u false]} cs w'):=by
 refine step_lone_go ?_;rw[te ho hw hd];simp[stepG.apply,hr,Frame.raise,stF,ent]
def RO (ho:ops[i]?=some o)(hw:Region.wanted o (yielded ops tmps)=true)(hd:(∀c,o.op≠.defer c)\/b.roundOf=none){f:FuncId}{args:Array Value}{w':World}
  (hr:(execOp (bE tmps) o).run P w=.ok (.enter f args) w') :
  step P (lone (stF b tmps ds (.inRegion ops (i::is)::k)) cs w)=.next (lone (Frame.enter P f args .normal) (stF b tmps ds (.inRegion ops (i::is)::k)::cs) w'):=by
 refine step_lone_go ?_;rw[te ho hw hd];simp[stepG.apply,hr,stF]
def RJ (ho:ops[i]?=some o)(hw:Region.wanted o (yielded ops tmps)=true)(hd:(∀c,o.op≠.defer c)\/b.roundOf=none){l:Nat}{f:FuncId}{ts:Array Value}{x y:Code}{w':World}
  (hr:(execOp (bE tmps) o).run P w=.ok (.round l f ts x y) w') :
  step P (lone (stF b tmps ds (.inRegion ops (i::is)::k)) cs w)=.next (lone (Frame.round l f ts x y .normal) (stF b tmps ds (.inRegion ops (i::is)::k)::cs) w'):=by
 refine step_lone_go ?_;rw[te ho hw hd];simp[stepG.apply,hr]
def RP (ho:ops[i]?=some o)(hw:Region.wanted o (yielded ops tmps)=true)(hd:b.roundOf=none){d:Deferred}{w':World}
  (hr:(execOp (bE tmps) o).run P w=.ok (.defer d) w') :
  step P (lone (stF b tmps ds (.inRegion ops (i::is)::k)) cs w)=.next (lone (stF b (uM o.dst tmps undef) (d::ds) (.inRegion ops is::k)) cs w'):=by
 refine step_lone_go ?_;rw[te ho hw (.inr hd),<-pg ho undef];simp[stepG.apply,hr,stF]
def tM (ho:ops[i]?=some o)(hw:Region.wanted o (yielded ops tmps)=true)(hd:b.roundOf=none){w':World}{u:Value}{cs':List Frame}
  (hr:(execOp (bE tmps) o).run P w=.ok .recover w') (ht:(tryRecover (stF b tmps ds (.inRegion ops (i::is)::k)) cs=some (u,cs'))\/(tryRecover (stF b tmps ds (.inRegion ops (i::is)::k)) cs=none/\u=.nilIface/\cs'=cs)) :
  step P (lone (stF b tmps ds (.inRegion ops (i::is)::k)) cs w)=.next (lone (stF b (uM o.dst tmps u) ds (.inRegion ops is::k)) cs' w'):=by
 refine step_lone_go ?_;rw[te ho hw (.inr hd),<-pg ho u];have hro:(stF b tmps ds (.inRegion ops (i::is)::k)).roundOf=none:=hd;rcases ht with ht|⟨ht,rfl,rfl⟩<;>simp[stepG.apply,hr,hro,ht]
end wanted
end steps
def Ge:OpR->Bool
 |.val _ _=>true
 |.bad=>true
 |_=>false
def Kq (r:Option AV)(h:AH):Ge (okV r h)=true:=by cases r<;>rfl
def adF (r:Option AH):Ge (okH r)=true:=by cases r<;>rfl
def My (r:Option (AV×AH)):Ge (Kc r)=true:=by cases r<;>rfl
def Mw {l:List AV}{k:AV->OpR}(h:∀x,Ge (k x)=true):Ge (Rb l OpR.bad k)=true:=by
 cases l with
 |nil=>rfl
 |cons x l=>cases l with
  |nil=>exact h x
  |cons y l=>rfl
def Yp {l:List AV}{k:AV->AV->OpR}(h:∀x y,Ge (k x y)=true):Ge (acI l OpR.bad k)=true:=by
 cases l with
 |nil=>rfl
 |cons x l=>exact Mw g_
def AOp.odd:AOp->Bool
 |.call _ _|.defer _ _|.panic _|.builtin .recover _=>true
 |_=>false
def MV {a:AOp}(tm:Tm)(h:AH)(ho:a.odd=false):Ge (da a tm h)=true:=by
 cases a
 case box n x=>show Ge (uk h n (ev x tm))=true;unfold uk;cases and _ _<;>rfl
 case builtin b args=>
  cases b
  case len=>exact Mw λ_=>Kq _ _
  case append=>exact Yp λ_ _=>My _
  all_goals first|exact Kq _ _|cases ho
 all_goals first|exact Kq _ _|exact adF _|exact My _|rfl|cases ho
def vh {aop:AOp}{tm:Tm}{h:AH}(e:Ge (da aop tm h)=false):
  (∃x xs,aop=.call x xs/\da aop tm h=.call (ev x tm) (evs xs tm))\/(∃x xs,aop=.defer x xs/\da aop tm h=.dfr (ev x tm) (evs xs tm))\/
  (∃xs,aop=.builtin .recover xs/\da aop tm h=.rcv)\/∃x t y,aop=.panic x/\ev x tm=.ifc t y/\da aop tm h=.pan (.ifc t y):=by
 cases ho:aop.odd with
 |false=>rw[MV tm h ho]at e;cases e
 |true=>
  cases aop<;>first|(cases ho;done)|skip
  case call x xs=>exact .inl ⟨x,xs,rfl,rfl⟩
  case defer x xs=>exact .inr (.inl ⟨x,xs,rfl,rfl⟩)
  case panic x=>
   have e:Ge (tE (ev x tm))=false:=e;cases hx:ev x tm<;>rw[hx]at e<;>first|(cases e;done)|skip
   exact .inr (.inr (.inr ⟨x,_,_,rfl,hx,by show tE (ev x tm)=_;rw[hx];rfl⟩))
  case builtin b xs=>cases b<;>first|(cases ho;done)|exact .inr (.inr (.inl ⟨xs,rfl,rfl⟩))
def Pc {a:AOp}{tm:Tm}{h:AH}{f:AV}{as:List AV}(e:da a tm h=.call f as):∃x xs,a=.call x xs/\f=ev x tm/\as=evs xs tm:=by
 have:=vh (aop:=a) (tm:=tm) (h:=h) (by rw[e];rfl);grind
def Tv {a:AOp}{tm:Tm}{h:AH}{f:AV}{as:List AV}(e:da a tm h=.dfr f as):∃x xs,a=.defer x xs/\f=ev x tm/\as=evs xs tm:=by
 have:=vh (aop:=a) (tm:=tm) (h:=h) (by rw[e];rfl);grind
def Tt {a:AOp}{tm:Tm}{h:AH}(e:da a tm h=.rcv):∃xs,a=.builtin .recover xs:=by
 have:=vh (aop:=a) (tm:=tm) (h:=h) (by rw[e];rfl);grind
def Tu {a:AOp}{tm:Tm}{h:AH}{v:AV}(e:da a tm h=.pan v):∃x t y,a=.panic x/\ev x tm=.ifc t y/\v=.ifc t y:=by
 have:=vh (aop:=a) (tm:=tm) (h:=h) (by rw[e];rfl);grind
def Okd {b:Type}(p:b->Prop)(o:Option b):Prop:=∀a,o=some a->p a
def Okd.bind {c d:Type}{p:d->Prop}{o:Option c}{k:c->Option d}(h:∀a,Okd p (k a)):Okd p (aI o k):=λb e=>by
 have⟨a,_,e⟩:=aC e;exact h a b e
def Okd.cond {a:Type}{p:a->Prop}{c:Bool}{x:Option a}(h:Okd p x):Okd p (bif c then x else none):=λb e=>h b (bj e).2
def Okd.cond' {a:Type}{p:a->Prop}{c:Bool}{x:Option a}(h:Okd p x):Okd p (bif c then none else x):=λb e=>h b (lq e).2
def Okd.some {c:Type}{p:c->Prop}{a:c}(h:p a):Okd p (some a):=λb e=>by grind
def Okd.none {a:Type}{p:a->Prop}: Okd p (none:Option a):=λb e=>by grind
def AOp.kd:AOp->Nat
 |.call _ _=>1
 |.defer _ _=>2
 |.panic _=>3
 |.builtin .recover _=>4
 |.new _=>5
 |_=>0
def _root_.Go.Op.kd:Op->Nat
 |.call c=>match c.callee with
  |.value _=>1
  |.builtin .recover=>4
  |_=>0
 |.defer _=>2
 |.panic _=>3
 |.alloc _=>5
 |_=>0
def xy (b:Builtin)(T:Tr TypeInfo)(c:Array TypeId)(l:List AX):Okd (λa=>a.kd=match b with|.recover=>4|_=>0) (AL b T c l):=by
 cases b<;>(repeat' first|exact .none|exact .some rfl|refine Okd.bind λ_=>?_|refine Okd.cond ?_)
def xX (op:Op)(P:Program)(T:Tr TypeInfo):Okd (λa=>a.kd=op.kd) (cOp op P T):=by
 cases op
 case unOp o _ _=>cases o<;>first|exact .none|exact Okd.bind λ_=>.some rfl
 case makeFunc f a b=>cases f<;>first|exact .none|exact Okd.bind λ_=>.bind λ_=>.some rfl
 case makeMap t r=>cases r<;>first|exact .none|exact .some rfl
 case slice t x lo hi mx=>cases mx<;>first|exact .none|exact Okd.bind λ_=>.bind λ_=>.bind λ_=>.bind λ_=>.bind λ_=>.cond (.some rfl)
 case index t x i=>
  refine Okd.bind λ_=>.bind λ_=>.bind λd=>?_;cases d<;>first|exact .none|exact .some rfl
 case call c=>
  refine Okd.bind λl=>?_;have⟨cc,args,tys⟩:=c;cases cc with
  |value f=>exact Okd.bind λ_=>.some rfl
  |invoke a b=>exact .none
  |builtin b=>
   intro a e;have:=xy b T tys l a e;rw[this];cases b<;>rfl
 case defer c=>
  refine Okd.bind λl=>?_;have⟨cc,_,_⟩:=c;cases cc<;>first|exact .none|exact Okd.bind λ_=>.some rfl
 all_goals repeat' first|exact .none|exact .some rfl|refine Okd.bind λ_=>?_|refine Okd.cond ?_|refine Okd.cond' ?_
section
variable {op:Op}{P:Program}{T:Tr TypeInfo}{x:AX}{xs:List AX}
def TU (hc:cOp op P T=some (.call x xs)):∃c f,op=.call c/\c.callee=.value f/\cX f=some x/\cXs c.args=some xs:=by
 have hk:1=op.kd:=xX op P T _ hc;cases op with
 |call c=>
  have⟨args,_,hc⟩:=aC (show aI (cXs c.args) _=_ from hc);cases hcc:c.callee with
  |value f=>
   rw[hcc]at hc;have⟨_,_,hc⟩:=aC (show aI (cX f) _=_ from hc);grind
  |invoke a b=>rw[hcc]at hc;cases hc
  |builtin b=>
   rw[hcc]at hc;have:=xy b T c.argTypes args _ hc;cases b<;>cases this
 |_=>cases hk
def PK (hc:cOp op P T=some (.defer x xs)):∃c f,op=.defer c/\c.callee=.value f/\cX f=some x/\cXs c.args=some xs:=by
 have hk:2=op.kd:=xX op P T _ hc;cases op with
 |call c=>grind [Op.kd]
 |defer c=>
  have⟨_,_,hc⟩:=aC (show aI (cXs c.args) _=_ from hc);cases hcc:c.callee with
  |value f=>
   rw[hcc]at hc;have⟨_,_,hc⟩:=aC (show aI (cX f) _=_ from hc);grind
  |invoke a b=>rw[hcc]at hc;cases hc
  |builtin b=>rw[hcc]at hc;cases hc
 |_=>cases hk
def PJ (a:cOp op P T=some (.panic x)):∃y,op=.panic y/\cX y=some x:=by
 have hk:3=op.kd:=xX op P T _ a;cases op with
 |call c=>grind [Op.kd]
 |panic y=>
  have⟨_,_,a⟩:=aC (show aI (cX y) _=_ from a);grind
 |_=>cases hk
def FJ (a:cOp op P T=some (.builtin .recover xs)):∃c,op=.call c/\c.callee=.builtin .recover:=by
 have hk:4=op.kd:=xX op P T _ a;cases op with
 |call c=>
  grind [Op.kd]
 |_=>cases hk
def Th {a:AOp}(b:cOp op P T=some a)(h:a.kd≠2)(c:Call):op≠.defer c:=by
 rintro rfl;exact h (xX _ P T _ b)
end
def KN (P:Program)(d:Deferred)(a:CallKind)(w:World)(fr:Frame):Prop:=
 (∃f as,(invoke d.target d.args).run P w=.ok (.enter f as) w/\fr=Frame.enter P f as a)\/
 (a=.normal/\∃l f ts x y,(invoke d.target d.args).run P w=.ok (.round l f ts x y) w/\fr=Frame.round l f ts x y a)
def JZ (P:Program)(K:KK)(a:CallKind)(b:RC)(m:Machine)(g:Gh)(w:World):ep->Prop
 |.ret v=>∃u,bR g v u/\Steps P m (lone (AW K u b) K.rest w)
 |.pan v=>∃pv,bR g v pv/\(a=.normal->Steps P m (lone (K.c0.raise [ent pv false]) K.rest w))
def dD (C:Cx)(call:aN):Prop:=
 ∀f args i h out b h',call f args i h=some (out,b,h')->∀g U w l m K a,Sim C g U h w->bR g f l->bD g args m->ye g K a i->K.cs=K.c0::K.rest->
  ∃d c,(∀w,(Deferred.ofValue l ⟨m⟩).run C.P w=.ok d w)/\KN C.P d a w c/\∃e k j,Ext g e/\xZ h.z U k/\Sim C e k h' j/\Low h h'/\ye e K a b/\
   JZ C.P K a b (lone c (gR K i) w) e j out
section
variable {C:Cx}{b:Frame}{K:KK}{nt:Nat}{k:List Item}{m m1:Machine}{g g1:Gh}{U U1:Nat->Option (List AV)}{h h1 h':AH}{e:AEx}{fr fr':AF}{w:World}{tmps:Array Value}{ds:List Deferred}
theorem zu (tm:Tm)(d:Nat)(v:AV)(i:Nat):nth (tm.put d v) i=if i=d then v else nth tm i:=by
 unfold nth;rw[Tr.get_put];split<;>rfl
theorem ig.put {tm:Tm}{d:Option Nat}{v:AV}{u:Value}(b:ig g tm tmps)(a:QU d nt=true)(f:nt<=tmps.size)(h:bR g v u):ig g (fI d tm v) (uM d tmps u):=by
 cases d with
 |none=>exact b
 |some d=>
  have a:=B_ (lX a) f;intro i;show bR g (nth (tm.put d v) i) ((tmps.setIfInBounds d u).getD i undef);rw[zu];by_cases hi:i=d
  ·simp_all
  have c:¬d=i:=o_;have e:(tmps.setIfInBounds d u).getD i undef=tmps.getD i undef:=by simp_all
  rw[e];simp only[hi,if_false];exact b i
theorem wz (d:Option Tmp)(tmps:Array Value)(u:Value):(uM d tmps u).size=tmps.size:=by
 cases d<;>simp[uM]
theorem tJ (fr:AF)(d:Option Nat)(v:AV):(fr.put d v).cx=fr.cx:=by cases fr;rfl
theorem EC (fr:AF)(d:Option Nat)(v:AV):(fr.put d v).tm=fI d fr.tm v:=by cases fr;rfl
def FR.put {d:Option Nat}{v:AV}{u:Value}(f:FR g b K nt fr tmps ds)(a:QU d nt=true)(c:bR g v u):FR g b K nt (fr.put d v) (uM d tmps u) ds:=by
 refine⟨?_,?_,?_,?_,?_,?_⟩
 ·exact f.ht.put a f.hn c
 ·exact f.hd
 ·exact f.hr
 ·rw[wz];exact f.hn
 ·exact f.hf
 exact f.ho
structure xP (C:Cx)(nt:Nat)(ops:List Oper)(o:Oper)(ao:aX):Prop where
 hop:cOp o.op C.P C.T=some ao.op
 hdst:ao.dst=o.dst
 hok:QU o.dst nt=true
 hg:(o.guard=none/\ao.guard=none)\/∃j w oj t,o.guard=some (j,w)/\ops[j]?=some oj/\oj.dst=some t/\ao.guard=some (t,w)
theorem CQ {ops:List Oper}{o:Oper}{d:aX}(a:De C.P C.T nt ops o=some d):xP C nt ops o d:=by
 have⟨_,h1,a⟩:=aC (show aI (cOp o.op C.P C.T) _=_ from a);have⟨c,a⟩:=bj a;cases b:o.guard with
 |none=>rw[b]at a;cases a;exact⟨h1,rfl,c,g_⟩
 |some p=>
  have⟨j,_⟩:=p;rw[b]at a;have⟨_,_,a⟩:=aC (show aI ops[j]? _=_ from a);have⟨_,_,a⟩:=aC a;cases a;exact⟨h1,rfl,c,g_⟩
theorem Rx {ops:Array Oper}{o:Oper}{h:aX}{x:Bool}(c:xP C nt ops.toList o h){tm:Tm}(f:ig g tm tmps)(e:fY h.guard tm=some x):Region.wanted o (yielded ops tmps)=x:=by
 rcases c.hg with⟨h1,d⟩|⟨j,w,k,t,h1,d,i,p⟩
 ·rw[d]at e;cases e;grind [Region.wanted]
 rw[p]at e;have e:wantV (nth tm t) w=some x:=e;have d:ops[j]?=some k:=by grind
 simp only[Region.wanted,h1,yielded,d,Option.bind_some,i];have b:=f t;cases n:nth tm t<;>rw[n]at e b<;>first|(cases e;done)|skip
 case bool c=>
  cases e;have b:=b.bool_inv;have f:tmps[t]?=some (.bool c):=by
   rw[Array.getD_eq_getD_getElem?]at b;cases r:tmps[t]? with
   |none=>rw[r]at b;cases b
   |some y=>grind
  rw[f,BY];rfl
 case tup l=>
  have⟨m,e⟩:=bj (show cond (acK l) (some false) none=some x from e);cases e;cases l with
  |cons a l=>cases m
  |nil=>
   have⟨_,q,b⟩:=b.tup_inv;cases q;rw[Array.getD_eq_getD_getElem?]at b;grind
def Sf {o:Oper}{c:Call}{f:Operand}{d:Deferred}(ho:o.op=.call c)(b:c.callee=.value f)(a:(Deferred.ofValue (bE tmps f) (c.args.map (bE tmps))).run C.P w=.ok d w):
  (execOp (bE tmps) o).run C.P w=(invoke d.target d.args).run C.P w:=by
 simp[execOp,ho,resolve,b,a]
def On {o:Oper}{c:Call}{f:Operand}{d:Deferred}(ho:o.op=.defer c)(b:c.callee=.value f)(a:(Deferred.ofValue (bE tmps f) (c.args.map (bE tmps))).run C.P w=.ok d w):
  (execOp (bE tmps) o).run C.P w=.ok (.defer d) w:=by
 simp[execOp,ho,resolve,b,a]
def Fg {o:Oper}{c:Call}(ho:o.op=.call c)(a:c.callee=.builtin .recover):(execOp (bE tmps) o).run C.P w=.ok .recover w:=by
 simp[execOp,ho,resolve,a,invoke,builtin]
def Ol {o:Oper}{x:Operand}{t:TypeId}{u:Value}(ho:o.op=.panic x)(hx:bE tmps x=.iface t u):(execOp (bE tmps) o).run C.P w=.halt (.panic (.iface t u)) w:=by
 simp[execOp,ho,Instr.panic,hx]
def IW {ops:Array Oper}{i:Nat}{is:List Nat}{o:Oper}(ho:ops[i]?=some o)(u:Value)(rest cs:List Frame)(pv:Value):
  AW ⟨stF b tmps ds (.inRegion ops (i::is)::k),rest,pv,cs⟩ u .no=stF b (uM o.dst tmps u) ds (.inRegion ops is::k):=pg ho u
def oX {g:Gh}{K:KK}{a:RC}(h:ye g K .normal a):a=.no:=by
 cases a with
 |no=>rfl
 |ret=>cases h
 |pend v=>cases h.1
 |done=>cases h
def tP {f:AV}{a:Value}{b:List Value}(c:bR g f a){x y:List Value}{n:FuncId}(h:a=.func (.func n) ⟨x⟩ ⟨y⟩)(w:World):
  (Deferred.ofValue a ⟨b⟩).run C.P w=.ok {target:=.fn (.func n) ⟨y⟩,args:=⟨x++b⟩} w:=by
 subst h;simp[Deferred.ofValue]
theorem rS {call:aN}(N:dD C call){ops:Array Oper}{i:Nat}{is:List Nat}{o:Oper}{G:aX}(ho:ops[i]?=some o)(c:xP C nt ops.toList o G)
  {L:AEx} (e:eO G call fr h=some (L,fr',h')) (s:Sim C g U h w) (f:FR g b K nt fr tmps ds) :
  iI C b K nt (.inRegion ops is::k) (lone (stF b tmps ds (.inRegion ops (i::is)::k)) (gR K fr.cx.rc) w) g U h L fr' h'/\(L=.normal\/∃v,L=.panic v):=by
 obtain⟨x,hw,e⟩:=aC (show aI (fY G.guard fr.tm) _=_ from e);have af:=Rx c f.ht hw;cases x with
 |false=>
  cases e;refine⟨⟨g,U,w,uM o.dst tmps undef,ds,.refl g,.refl _ U,s,.refl _,?_,?_⟩,g_⟩
  ·rw[c.hdst];exact f.put c.hok (.tup .nil)
  rw[c.hdst];show Steps _ _ _;rw[tJ];exact .one (EU ho o_)
 |true=>
  have e:=e;cases r:da G.op fr.tm h with
  |bad=>rw[r]at e;cases e
  |val v h1=>
   rw[r]at e;cases e;obtain⟨g',w',u,E,hx,hs,X,hl⟩:=adv s f.ht c.hop r;have W:∀B,o.op≠.defer B:=λB=>Th c.hop (λq=>by
    cases hq:G.op<;>rw[hq]at q r<;>first|(cases q;done)|(cases r;done)|skip
    next bb _=>cases bb<;>cases q) B
   refine⟨⟨g',U,w',uM o.dst tmps u,ds,hx,.refl _ U,hs,hl,?_,?_⟩,g_⟩
   ·rw[c.hdst];exact(f.mono hx).put c.hok X
   show Steps _ _ _;rw[tJ];exact .one (Gx ho o_ g_ o_)
  |call fv args=>
   rw[r]at e;obtain⟨S,H,n,rfl,rfl⟩:=Pc r;have a:=c.hop;rw[n]at a;obtain⟨B,fo,p,J,hf,ha⟩:=TU o_;obtain⟨⟨out,ai,h1⟩,hq,e⟩:=aC (show aI (call _ _ .no h) _=_ from e);have F:=cT f.ht hf;have M:=qO f.ht ha;obtain⟨d,aa,hd,V,g',U',w',hx,hu,hs,hl,j,A⟩:=
    N _ _ _ _ _ _ _ hq g U w _ _ ⟨stF b tmps ds (.inRegion ops (i::is)::k),gR K fr.cx.rc,.nilIface,stF b tmps ds (.inRegion ops (i::is)::k)::gR K fr.cx.rc⟩ .normal s F M rfl rfl
   have Y:=oX j;subst Y;have Q:B.args.map (bE tmps)=⟨B.args.toList.map (bE tmps)⟩:=by
    apply Array.ext';simp
   have W:∀c2,o.op≠.defer c2:=g_;have E:(execOp (bE tmps) o).run C.P w=(invoke d.target d.args).run C.P w:=Sf p o_ (by grind);have h0:Steps C.P (lone (stF b tmps ds (.inRegion ops (i::is)::k)) (gR K fr.cx.rc) w) (lone aa (stF b tmps ds (.inRegion ops (i::is)::k)::gR K fr.cx.rc) w):=by
    rcases V with⟨ff,as,h1,rfl⟩|⟨_,l,ff,ts,xx,yy,h1,rfl⟩
    ·exact .one (RO ho o_ g_ g_)
    exact .one (RJ ho o_ g_ g_)
   cases out with
   |ret v=>
    cases e;obtain⟨u,X,I⟩:=A;refine⟨⟨g',U',w',uM o.dst tmps u,ds,hx,hu,hs,hl,?_,?_⟩,g_⟩
    ·rw[c.hdst];exact(f.mono hx).put c.hok X
    show Steps _ _ _;rw[tJ];rw[IW ho]at I;exact h0.trans I
   |pan v=>
    cases e;obtain⟨pv,X,I⟩:=A;refine⟨⟨g',U',w',tmps,ds,hx,hu,hs,hl,f.mono hx,?_⟩,g_⟩;exact⟨.inRegion ops (i::is)::k,pv,trivial,X,h0.trans (I rfl)⟩
  |rcv=>
   rw[r]at e;obtain⟨H,n⟩:=Tt r;have a:=c.hop;rw[n]at a;obtain⟨B,p,J⟩:=FJ o_;have E:(execOp (bE tmps) o).run C.P w=.ok .recover w:=Fg p o_;have e:Option.casesOn fr.cx.rnd (VP fr.cx.rc G.dst fr h) (λ_=>none)=some (L,fr',h'):=e;have m:=f.ho;cases P:fr.cx.rnd with
   |some l=>simp_all
   |none=>
    rw[P]at e m;have D:b.roundOf=none:=by cases O:b.roundOf with
     |none=>rfl
     |some y=>rw[O]at m;cases m
    have e:=e;have j:=f.hr;cases z:fr.cx.rc with
    |no=>rw[z]at e;cases e
    |ret=>
     rw[z]at e j;cases e;refine⟨⟨g,U,w,uM o.dst tmps .nilIface,ds,.refl g,.refl _ U,s,.refl _,?_,?_⟩,g_⟩
     ·rw[c.hdst];exact f.put c.hok .nili
     show Steps _ _ _;rw[tJ,z];have R:b.kind=.deferred:=j;refine .one (tM ho o_ D o_ (.inr ⟨?_,rfl,rfl⟩));grind [tryRecover,stF,gR]
    |done=>
     rw[z]at e j;cases e;refine⟨⟨g,U,w,uM o.dst tmps .nilIface,ds,.refl g,.refl _ U,s,.refl _,?_,?_⟩,g_⟩
     ·rw[c.hdst];exact f.put c.hok .nili
     show Steps _ _ _;rw[tJ,z];have R:b.kind=.deferred:=j;refine .one (tM ho o_ D o_ (.inr ⟨?_,rfl,rfl⟩));grind [tryRecover,stF,gR,ent]
    |pend v=>
     rw[z]at e j;cases e;obtain⟨R,ah⟩:=j;refine⟨⟨g,U,w,uM o.dst tmps K.pv,ds,.refl g,.refl _ U,s,.refl _,?_,?_⟩,g_⟩
     ·refine⟨?_,f.hd,R,?_,f.hf,g_⟩
      ·rw[c.hdst];exact f.ht.put c.hok f.hn ah
      rw[wz];exact f.hn
     show Steps _ _ _;refine .one (tM ho o_ D o_ (.inl ?_));grind [tryRecover,stF,gR,ent]
  |dfr fv args=>
   rw[r]at e;obtain⟨S,H,n,rfl,rfl⟩:=Tv r;have a:=c.hop;rw[n]at a;obtain⟨B,fo,p,J,hf,ha⟩:=PK o_;have F:=cT f.ht hf;have M:=qO f.ht ha;have e:Option.casesOn fr.cx.rnd (cond (acP (ev S fr.tm)) (some (AEx.normal,(⟨fI G.dst fr.tm (.tup []),⟨.call (ev S fr.tm) (evs H fr.tm)::fr.cx.dfs,fr.cx.rc,fr.cx.rnd,fr.cx.fid⟩⟩:AF),h)) none) (λ_=>none)=some (L,fr',h'):=e;have m:=f.ho;cases P:fr.cx.rnd with
   |some l=>simp_all
   |none=>
    rw[P]at e m;have D:b.roundOf=none:=by cases O:b.roundOf with
     |none=>rfl
     |some y=>rw[O]at m;cases m
    obtain⟨Z,e⟩:=bj e;cases e;have Q:B.args.map (bE tmps)=⟨B.args.toList.map (bE tmps)⟩:=by
     apply Array.ext';simp
    have ac:∃d,(∀w,(Deferred.ofValue (bE tmps fo) ⟨B.args.toList.map (bE tmps)⟩).run C.P w=.ok d w)/\Gi g (.call (ev S fr.tm) (evs H fr.tm)::fr.cx.dfs) (d::ds):=by
     generalize ev S fr.tm=y at Z F;cases y<;>first|(cases Z;done)|skip
     obtain⟨x,y,hx,hy,ad⟩:=F.fn_inv;exact⟨_,λw=>tP F ad w,.fn hx hy M f.hd⟩
    obtain⟨d,hd,hD⟩:=ac;have E:(execOp (bE tmps) o).run C.P w=.ok (.defer d) w:=On p o_ (by grind);refine⟨⟨g,U,w,uM o.dst tmps undef,d::ds,.refl g,.refl _ U,s,.refl _,?_,.one (RP ho o_ D o_)⟩,g_⟩;refine⟨?_,hD,f.hr,?_,f.hf,?_⟩
    ·rw[c.hdst];exact f.ht.put c.hok f.hn (.tup .nil)
    ·rw[wz];exact f.hn
    omega
  |pan v=>
   rw[r]at e;obtain⟨S,t,y,n,ab,rfl⟩:=Tu r;have a:=c.hop;rw[n]at a;obtain⟨xo,p,hx⟩:=PJ o_;have T:=cT f.ht hx;rw[ab]at T;obtain⟨u,hu,ag⟩:=T.ifc_inv;cases e;have W:∀c2,o.op≠.defer c2:=g_;refine⟨⟨g,U,w,tmps,ds,.refl g,.refl _ U,s,.refl _,f,?_⟩,g_⟩;exact⟨.inRegion ops (i::is)::k,.iface t u,trivial,g_,.one (RL ho o_ g_ (Ol p ag))⟩
end
