/- MachineKeeps: awake, run in the kernel (no condition). -/
import Derived.Test.YtocdlbblemjabaaGreatDoorCa
import Derived.Test.YtocdlbblemjabaaGreatDoorBy
import Derived.KernelRfl
namespace Go.Proofs.YtocdlbblemjabaaGreatDoor
open Go.AG Go.AG.MK Go.Proofs Go.RowKit
def ahD:Nat->Nat->List UInt8
 |0,_=>[]
 |f+1,u=>if u<10 then [UInt8.ofNat (48+u)] else ahD f (u / 10)++[UInt8.ofNat (48+u % 10)]
theorem Pb:∀ (f u:Nat),u<10 ^ f->0<f->ahD f u=Lib.decDigits u
 |0,_,_,h=>by omega
 |f+1,u,h,_=>by
  rw[ahD,Lib.decDigits];by_cases q:u<10
  ·rw[P_ q,dif_pos q]
  ·rw[N_ q,dif_neg q];rcases f with _|f
   ·omega
   ·rw[Pb (f+1) (u / 10) (by rw[Nat.pow_succ]at h;omega) o_]
def CC (n:Int):List UInt8:=ahD 20 n.toNat
theorem wE {n:Int}(h0:0<=n)(h1:n<=70000):CC n=Lib.itoa n:=by
 unfold CC Lib.itoa;rw[N_ o_,Pb 20 _ o_ o_]
def Hm:List AV->Option (List Int)
 |[]=>some []
 |.int .i64 n::l=>if 0<=n/\n<65536 then (Hm l).map fun m=>n::m else none
 |_::_=>none
theorem EM:∀ {l:List AV} {m:List Int},Hm l=some m->l=m.map AG.aO/\∀ c∈m,0<=c/\c<65536
 |[],m,h=>by cases h;exact⟨rfl,by simp⟩
 |v::l,m,h=>by
  unfold Hm at h;split at h
  ·rename_i e;cases e
  ·rename_i n l' e;cases e;split at h
   ·rename_i hn;cases hk:Hm l with
    |none=>rw[hk]at h;cases h
    |some k=>
     rw[hk]at h;cases h;obtain⟨e1,e2⟩:=EM hk;refine⟨by rw[e1];rfl,fun c hc=>?_⟩;rcases List.mem_cons.1 hc with rfl|hc
     ·exact hn
     ·exact e2 c hc
   ·cases h
  ·cases h
def ahy:aQ:=fun f a rc h=>match f,a,rc with
 |.fn 138 [] [],[.agg [.int .i64 k,.int .i64 i,.str nm,.ls [],.ls ks]],.no=>match Hm ks with
  |some d=>if (0<=k/\k<13/\k≠2)/\(d.length:Int)=dW k/\(0<=i/\i<=65535)/\(k≠0->k≠12->i=0)/\((k≠3/\nm=bs [])∨(k=3/\nm=bs [78,97,116])) then
    some (.ret (.str (bs (CC k++32::(CC i++32::(nm.data.toList++(124::d.flatMap fun k=>CC k++[32])))))),.no,h) else none
  |none=>none
 |_,_,_=>none
def UT (r:Option (dH×RC×AH)):Option (dH×RC):=match r with
 |some (o,rc,_)=>some (o,rc)
 |none=>none
noncomputable def keyG:aQ:=fun f a rc h=>match ahy f a rc h with
 |some r=>some r
 |none=>oy f a rc h
theorem VQ:UT (cS keyG 100000 (.fn 9 [] []) [] .no rF)=some (.ret (.bool true),.no):=by kernel_rfl
theorem uS {α:Type}{f g:α->List UInt8}: ∀ {l:List α},(∀ x∈l,f x=g x)->l.flatMap f=l.flatMap g
 |[],_=>rfl
 |x::l,h=>by rw[List.flatMap_cons,List.flatMap_cons,h x (List.mem_cons_self ..),uS fun y hy=>h y (List.mem_cons_of_mem _ hy)]
theorem VD {f:AV}{a:List AV}{rc:RC}{h:AH}{r:dH×RC×AH}(e:ahy f a rc h=some r):uw f a rc h=some r:=by
 unfold ahy at e;split at e
 ·rename_i k i nm ks;split at e
  ·rename_i d hd;split at e
   ·rename_i hc;cases e;obtain⟨⟨c1,c2,c3⟩,c4,⟨c5,c6⟩,c7,c8⟩:=hc;obtain⟨e1,e2⟩:=EM hd;have hn:NOK ⟨k,i,nm,[],d⟩:=by
     refine⟨⟨c1,c2,c4,c5,c6,c7,?_,?_,?_,?_,by simp⟩,e2⟩
     ·rcases c8 with⟨_,rfl⟩|⟨_,rfl⟩
      ·intro c hc;simp[bs]at hc
      ·intro c hc;have:c=78∨c=97∨c=116:=by simpa [bs] using hc
       rcases this with rfl|rfl|rfl<;>exact .inl rfl
     ·rcases c8 with⟨_,rfl⟩|⟨_,rfl⟩
      ·show(bs []).size<=1000;decide
      ·show(bs [78,97,116]).size<=1000;decide
     ·intro q;rcases c8 with⟨_,h⟩|⟨h,_⟩
      ·exact h
      ·exact absurd h q
     ·exact⟨fun q=>absurd q c3,fun _=>by simp,fun _ _=>rfl⟩
    have hk:=yG hn h;have e3:aT ⟨k,i,nm,[],d⟩=.agg [i_ k,i_ i,.str nm,.ls [],.ls ks]:=by rw[e1];rfl
    rw[e3]at hk;rw[hk];have q1:=wE c1 o_;have q2:=wE c5 o_;have q3:(d.flatMap fun k=>CC k++[32])=d.flatMap fun k=>Lib.itoa k++[32]:=uS fun x hx=>by rw[wE (e2 x hx).1 (by have:=(e2 x hx).2;omega)]
    rw[q1,q2,q3];rfl
   ·cases e
  ·cases e
 ·cases e
theorem acJ:cK CI keyG:=by
 intro f args rc h out rc' h' q;unfold keyG at q;cases hk:ahy f args rc h with
 |some r=>rw[hk]at q;exact YV f args rc h out rc' h' (by rw[VD hk];exact q)
 |none=>rw[hk]at q;exact OQ f args rc h out rc' h' q
theorem WL:Ans CI (.fn 9 [] []) [] (.ret (.bool true)):=by
 have e:=VQ;have hc:cK CI (cS keyG 100000):=afA acJ 100000;generalize cS keyG 100000=call at e hc;cases hv:call (.fn 9 [] []) [] .no rF with
 |none=>rw[hv]at e;cases e
 |some r=>
  obtain⟨o,rc,h'⟩:=r;rw[hv]at e;injection e with e;injection e with e1 e2;subst e1 e2;exact⟨rfl,rfl,rfl,_,h',_,hc,hv,rfl⟩
def awT:AV->List AV->Option dH:=fun f a=>match f,a with
 |.fn 9 [] [],[]=>some (.ret (.bool true))
 |_,_=>none
theorem akq:cK CI (ic awT):=ahQ fun f a o e=>by
 unfold awT at e;split at e
 ·cases e;exact WL
 ·cases e
noncomputable def KU:aQ:=fun f a rc h=>match uw f a rc h with
 |some r=>some r
 |none=>match oy f a rc h with
  |some r=>some r
  |none=>match qI f a rc h with
   |some r=>some r
   |none=>ic awT f a rc h
theorem KU_ok:cK CI KU:=by
 intro f args rc h out rc' h' q;unfold KU at q;cases hk:uw f args rc h with
 |some r=>rw[hk]at q;exact YV f args rc h out rc' h' (by rw[hk];exact q)
 |none=>
  rw[hk]at q;cases hg:oy f args rc h with
  |some r=>rw[hg]at q;exact OQ f args rc h out rc' h' (by rw[hg];exact q)
  |none=>
   rw[hg]at q;cases hs:qI f args rc h with
   |some r=>rw[hs]at q;exact abH f args rc h out rc' h' (by rw[hs];exact q)
   |none=>rw[hs]at q;exact akq f args rc h out rc' h' q
theorem sI {f:FuncId}{b c a:List AV}{rc:RC}{h:AH}(hf:f≠138):uw (.fn f b c) a rc h=none:=by
 unfold uw;split
 ·rename_i e;injection e with e1;exact absurd e1 hf
 ·rfl
theorem wF {f:FuncId}{b c a:List AV}{rc:RC}{h:AH}(hf:f≠107):oy (.fn f b c) a rc h=none:=by
 unfold oy;split
 ·rename_i e;injection e with e1;exact absurd e1 hf
 ·rfl
theorem DD {f:FuncId}{b c a:List AV}{rc:RC}{h:AH}(hf:f≠221):qI (.fn f b c) a rc h=none:=by
 unfold qI;split
 ·rename_i e;injection e with e1;exact absurd e1 hf
 ·rfl
theorem akr {f:FuncId}{b c a:List AV}{rc:RC}{h:AH}(hf:f≠9):ic awT (.fn f b c) a rc h=none:=by
 have k:∀ b c a,awT (.fn f b c) a=none:=fun b c a=>by
  unfold awT;split
  ·rename_i e;injection e with e1;exact absurd e1 hf
  ·rfl
 unfold ic;cases rc
 case no=>simp only[AV.norm,k]
 all_goals rfl
theorem ahm {f:FuncId}{b c a:List AV}{rc:RC}{h:AH}(hf:f≠138/\f≠107/\f≠221/\f≠9):KU (.fn f b c) a rc h=none:=by
 simp only[KU,sI hf.1,wF hf.2.1,DD hf.2.2.1,akr hf.2.2.2]
theorem adC:aZ KU:=by
 have hb:(xW.all fun f=>decide (f≠138/\f≠107/\f≠221/\f≠9))=true:=r_;have hd:∀ f∈xW,f≠138/\f≠107/\f≠221/\f≠9:=fun f hf=>of_decide_eq_true (List.all_eq_true.1 hb f hf)
 refine⟨fun f hf c a rc h=>ahm (hd f hf),fun f hf b c a rc h=>ahm (hd f hf),fun l a rc h=>?_⟩;have e1:uw (.yld l) a rc h=none:=by
  unfold uw;split
  ·rename_i e;cases e
  ·rfl
 have e2:oy (.yld l) a rc h=none:=by
  unfold oy;split
  ·rename_i e;cases e
  ·rfl
 have e3:qI (.yld l) a rc h=none:=by
  unfold qI;split
  ·rename_i e;cases e
  ·rfl
 have e4:ic awT (.yld l) a rc h=none:=by
  have k:∀ a,awT (AV.yld l) a=none:=fun a=>by
   unfold awT;split
   ·rename_i e;cases e
   ·rfl
  unfold ic;cases rc
  case no=>simp only[AV.norm,k]
  all_goals rfl
 simp only[KU,e1,e2,e3,e4]
theorem KU_KM:KM KU:=⟨fun n hn h=>by simp only[KU,yG hn h]⟩
theorem KU_KG:KG KU where
 zero h:=by
  have e1:uw (.fn 107 [] []) [.nl,i_ 0] .no h=none:=sI (by decide);simp only[KU,e1,Sc h]
 pos n h h0 h1:=by
  have e1:uw (.fn 107 [] []) [.nl,i_ (n:Int)] .no h=none:=sI (by decide);simp only[KU,e1,VK n h h0 h1]
theorem KU_KS:KS KU:=⟨fun H kb km L h1 h2 h3 h4 h5=>by
 have e1:uw (.fn 221 [] []) [.fn 234 [] [.ptr kb 0 0]] .no H=none:=sI (by decide);have e2:oy (.fn 221 [] []) [.fn 234 [] [.ptr kb 0 0]] .no H=none:=wF (by decide);have e3:=FE (h:=H) h1 h2 h3 h4 (fun k hk=>by obtain⟨e,he,rfl⟩:=List.mem_map.1 hk;exact h5 e he);simp only[KU,e1,e2,e3]⟩
theorem KU_KA:KA KU:=⟨fun h=>by
 have e1:uw (.fn 9 [] []) [] .no h=none:=sI (by decide);have e2:oy (.fn 9 [] []) [] .no h=none:=wF (by decide);have e3:qI (.fn 9 [] []) [] .no h=none:=DD (by decide);have e4:ic awT (.fn 9 [] []) [] .no h=some (.ret (.bool true),.no,h):=by
  unfold ic;rfl
 simp only[KU,e1,e2,e3,e4]⟩
