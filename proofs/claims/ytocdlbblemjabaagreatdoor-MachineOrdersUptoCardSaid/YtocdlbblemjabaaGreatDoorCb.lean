/- Lemmas for MachineOrders (no condition). -/
import Derived.Test.YtocdlbblemjabaaGreatDoorCa
import Derived.Test.YtocdlbblemjabaaGreatDoorBx
import Derived.KernelRfl
namespace Go.Proofs.YtocdlbblemjabaaGreatDoor
open Go.AG Go.AG.MK Go.Proofs Go.RowKit
variable {h:AH}{f:FuncId}{a b c:List AV}{g:RC}
def acS:Nat->Nat->List UInt8
 |0,_=>[]
 |f+1,u=>if u<10 then [UInt8.ofNat (48+u)] else acS f (u / 10)++[UInt8.ofNat (48+u % 10)]
theorem MX:∀(f u:Nat),u<10 ^ f->0<f->acS f u=Lib.decDigits u
 |0,_,_,h=>by omega
 |f+1,u,h,_=>by
  rw[acS,Lib.decDigits];by_cases q:u<10
  ·rw[P_ q,dif_pos q]
  rw[N_ q,dif_neg q];rcases f with _|f
  ·omega
  rw[MX (f+1) (u / 10) (by rw[Nat.pow_succ]at h;omega) o_]
def FA (n:Int):List UInt8:=acS 20 n.toNat
theorem As {n:Int}(a:0<=n)(b:n<=70000):FA n=Lib.itoa n:=by
 unfold FA Lib.itoa;rw[N_ o_,MX 20 _ o_ o_]
def JN:List AV->Option (List Int)
 |[]=>some []
 |.int .i64 n::l=>if 0<=n/\n<65536 then (JN l).map λm=>n::m else none
 |_::_=>none
theorem Hr:∀{l:List AV} {m:List Int},JN l=some m->l=m.map AG.bh/\∀c∈m,0<=c/\c<65536
 |[],m,h=>by cases h;exact⟨rfl,by simp⟩
 |v::l,m,h=>by
  unfold JN at h;split at h
  ·rename_i e;cases e
  ·rename_i n g e;cases e;split at h
   ·rename_i d;cases hk:JN l with
    |none=>rw[hk]at h;cases h
    |some k=>
     rw[hk]at h;cases h;obtain⟨b,f⟩:=Hr hk;refine⟨by rw[b];rfl,λc a=>?_⟩;rcases X_.1 a with rfl|a
     ·exact d
     exact f c a
   cases h
  cases h
def acN:aN:=λf a b h=>match f,a,b with
 |.fn 138 [] [],[.agg [.int .i64 k,.int .i64 i,.str nm,.ls [],.ls c]],.no=>match JN c with
  |some d=>if (0<=k/\k<13/\k≠2)/\(d.length:Int)=cN k/\(0<=i/\i<=65535)/\(k≠0->k≠12->i=0)/\((k≠3/\nm=bs [])\/(k=3/\nm=bs [78,97,116])) then
    some (.ret (.str (bs (FA k++32::(FA i++32::(nm.data.toList++(124::d.flatMap λk=>FA k++[32])))))),.no,h) else none
  |none=>none
 |_,_,_=>none
def Sw (r:Option (ep×RC×AH)):Option (ep×RC):=match r with
 |some (o,a,_)=>some (o,a)
 |none=>none
noncomputable def keyG:aN:=λf a b h=>match acN f a b h with
 |some r=>some r
 |none=>rf f a b h
theorem Ts:Sw (chI keyG EG 1000000000000 niM noM dpM 100000 (.fn 9 [] []) [] .no uS)=some (.ret (.bool true),.no):=r_
theorem yR {a:Type}{f g:a->List UInt8}: ∀{l:List a},(∀x∈l,f x=g x)->l.flatMap f=l.flatMap g
 |[],_=>rfl
 |x::l,h=>by rw[List.flatMap_cons,List.flatMap_cons,h x (List.mem_cons_self ..),yR λy b=>h y (List.mem_cons_of_mem _ b)]
theorem Tf {f:AV}{m:RC}{r:ep×RC×AH}(e:acN f a m h=some r):yk f a m h=some r:=by
 unfold acN at e;split at e
 ·rename_i k i nm A;split at e
  ·rename_i d v;split at e
   ·rename_i b;cases e;obtain⟨⟨n,s,c3⟩,z,⟨l,c6⟩,c7,g⟩:=b;obtain⟨p,j⟩:=Hr v;have y:NOK ⟨k,i,nm,[],d⟩:=by
     refine⟨⟨n,s,z,l,c6,c7,?_,?_,?_,?_,by simp⟩,j⟩
     ·rcases g with⟨_,rfl⟩|⟨_,rfl⟩
      ·intro c b;simp[bs]at b
      intro c b;have:c=78\/c=97\/c=116:=by simpa [bs] using b
      rcases this with rfl|rfl|rfl<;>exact .inl rfl
     ·rcases g with⟨_,rfl⟩|⟨_,rfl⟩
      ·show(bs []).size<=1000;decide
      show(bs [78,97,116]).size<=1000;decide
     ·intro q;rcases g with⟨_,h⟩|⟨h,_⟩
      ·exact h
      cases q h
     exact⟨λq=>absurd q c3,λ_=>by simp,λ_ _=>rfl⟩
    have hk:=Cv y h;have w:bU ⟨k,i,nm,[],d⟩=.agg [.I k,.I i,.str nm,.ls [],.ls A]:=by rw[p];rfl
    rw[w]at hk;rw[hk];have t:=As n o_;have o:=As l o_;have u:(d.flatMap λk=>FA k++[32])=d.flatMap λk=>Lib.itoa k++[32]:=yR λx hx=>by rw[As (j x hx).1 (by have:=(j x hx).2;omega)]
    rw[t,o,u];rfl
   cases e
  cases e
 cases e
theorem YL:dD CI keyG:=by
 intro f args b h out a c q;unfold keyG at q;cases hk:acN f args b h with
 |some r=>rw[hk]at q;exact UM f args b h out a c (by rw[Tf hk];exact q)
 |none=>rw[hk]at q;exact MN f args b h out a c q
theorem Ub:Ans CI (.fn 9 [] []) [] (.ret (.bool true)):=by
 have e:=Ts;have b:dD CI (chI keyG EG 1000000000000 niM noM dpM 100000):=KF hEG YL 100000;generalize chI keyG EG 1000000000000 niM noM dpM 100000=call at e b;cases a:call (.fn 9 [] []) [] .no uS with
 |none=>rw[a]at e;cases e
 |some r=>
  obtain⟨o,d,c⟩:=r;rw[a]at e;injection e with e;injection e with e1 e2;subst e1 e2;exact⟨rfl,rfl,rfl,_,c,_,b,a,rfl⟩
def awT:AV->List AV->Option ep:=λf a=>match f,a with
 |.fn 9 [] [],[]=>some (.ret (.bool true))
 |_,_=>none
theorem ago:dD CI (jO awT):=ac6 λf a o e=>by
 unfold awT at e;split at e
 ·cases e;exact Ub
 cases e
noncomputable def KU:aN:=λf a b h=>match yk f a b h with
 |some r=>some r
 |none=>match rf f a b h with
  |some r=>some r
  |none=>match uh f a b h with
   |some r=>some r
   |none=>jO awT f a b h
theorem KU_ok:dD CI KU:=by
 intro f args b h out a c q;unfold KU at q;cases hk:yk f args b h with
 |some r=>rw[hk]at q;exact UM f args b h out a c (by rw[hk];exact q)
 |none=>
  rw[hk]at q;cases d:rf f args b h with
  |some r=>rw[d]at q;exact MN f args b h out a c (by rw[d];exact q)
  |none=>
   rw[d]at q;cases hs:uh f args b h with
   |some r=>rw[hs]at q;exact XF f args b h out a c (by rw[hs];exact q)
   |none=>rw[hs]at q;exact ago f args b h out a c q
theorem vQ (d:f≠138):yk (.fn f b c) a g h=none:=by
 unfold yk;split
 ·rename_i e;injection e with e1;cases d e1
 rfl
theorem Au (d:f≠107):rf (.fn f b c) a g h=none:=by
 unfold rf;split
 ·rename_i e;injection e with e1;cases d e1
 rfl
theorem Gz (d:f≠221):uh (.fn f b c) a g h=none:=by
 unfold uh;split
 ·rename_i e;injection e with e1;cases d e1
 rfl
theorem agp {d:RC}(g:f≠9):jO awT (.fn f b c) a d h=none:=by
 have k:∀b c a,awT (.fn f b c) a=none:=λb c a=>by
  unfold awT;split
  ·rename_i e;injection e with e1;cases g e1
  rfl
 unfold jO;cases d
 case no=>simp only[AV.norm,k]
 all_goals rfl
theorem acu {e:RC}(d:f≠138/\f≠107/\f≠221/\f≠9):KU (.fn f b c) a e h=none:=by
 simp only[KU,vQ d.1,Au d.2.1,Gz d.2.2.1,agp d.2.2.2]
theorem ZU:RunsM KU:=by
 have n:(ud.all λf=>decide (f≠138/\f≠107/\f≠221/\f≠9))=true:=r_;have i:∀f∈ud,f≠138/\f≠107/\f≠221/\f≠9:=λf g=>O_ (List.all_eq_true.1 n f g);refine⟨λf g c a d h=>acu (i f g),λf g b c a d h=>acu (i f g),λl a d h=>?_⟩;have j:yk (.yld l) a d h=none:=by
  unfold yk;split
  ·rename_i e;cases e
  rfl
 have p:rf (.yld l) a d h=none:=by
  unfold rf;split
  ·rename_i e;cases e
  rfl
 have o:uh (.yld l) a d h=none:=by
  unfold uh;split
  ·rename_i e;cases e
  rfl
 have m:jO awT (.yld l) a d h=none:=by
  have k:∀a,awT (AV.yld l) a=none:=λa=>by
   unfold awT;split
   ·rename_i e;cases e
   rfl
  unfold jO;cases d
  case no=>simp only[AV.norm,k]
  all_goals rfl
 simp only[KU,j,p,o,m]
theorem KU_KM:KM KU:=⟨λn a h=>by simp only[KU,Cv a h]⟩
theorem KU_KG:KG KU where
 zero h:=by
  have a:yk (.fn 107 [] []) [.nl,.I 0] .no h=none:=vQ (by decide);simp only[KU,a,OZ h]
 pos n h h0 h1:=by
  have a:yk (.fn 107 [] []) [.nl,.I (n:Int)] .no h=none:=vQ (by decide);simp only[KU,a,Tn n h h0 h1]
theorem KU_KS:KS KU:=⟨λH a m L h g b l c=>by
 have d:yk (.fn 221 [] []) [.fn 234 [] [.P a]] .no H=none:=vQ (by decide);have i:rf (.fn 221 [] []) [.fn 234 [] [.P a]] .no H=none:=Au (by decide);have j:=Iv (h:=H) h g b l (λk hk=>by obtain⟨e,f,rfl⟩:=List.mem_map.1 hk;exact c e f);simp only[KU,d,i,j]⟩
theorem KU_KA:KA KU:=⟨λh=>by
 have a:yk (.fn 9 [] []) [] .no h=none:=vQ (by decide);have d:rf (.fn 9 [] []) [] .no h=none:=Au (by decide);have c:uh (.fn 9 [] []) [] .no h=none:=Gz (by decide);have b:jO awT (.fn 9 [] []) [] .no h=some (.ret (.bool true),.no,h):=by
  unfold jO;rfl
 simp only[KU,a,d,c,b]⟩
