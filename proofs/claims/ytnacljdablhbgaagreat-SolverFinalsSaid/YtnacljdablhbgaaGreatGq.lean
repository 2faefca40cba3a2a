/- SolverFinals: the table of the law (no condition). -/
import Derived.Test.YtnacljdablhbgaaGreatGj
import Derived.Test.YtnacljdablhbgaaGreatGp
import Derived.Test.YtnacljdablhbgaaGreatFb
noncomputable section
namespace Go.Proofs.YtnacljdablhbgaaGreat
open Go.AG
def wY (x:LL×List LL):List AV:=[aK x.1,.ls (x.2.map aK)]
theorem vP (x y:LL×List LL)(h:wY x=wY y):x=y:=by
 obtain⟨a,b⟩:=x;obtain⟨c,d⟩:=y;simp only[wY,List.cons.injEq,AV.ls.injEq,and_true]at h;rw[hO h.1,eB (fun _ _=>hO) h.2]
def ML (x:T×List LL):List AV:=[enc x.1,.ls (x.2.map aK)]
theorem Pf (x y:T×List LL)(h:ML x=ML y):x=y:=by
 obtain⟨a,b⟩:=x;obtain⟨c,d⟩:=y;simp only[ML,List.cons.injEq,AV.ls.injEq,and_true]at h;rw[fp h.1,eB (fun _ _=>hO) h.2]
theorem OJ (x y:QV)(h:gC x=gC y):x=y:=by
 simp only[gC,AV.agg.injEq,List.cons.injEq,AV.ls.injEq,AV.int.injEq,AV.str.injEq,AV.bool.injEq,and_true,true_and]at h;obtain⟨h1,h2,h3,h4,h5,h6,h7,h8,h9,h10,h11,h12⟩:=h;have e1:x.lt=y.lt:=fp (by rw[aA,aA y.lt,h2,h3,h4,h5,h6]);have e2:x.rt=y.rt:=fp (by rw[aA,aA y.rt,h7,h8,h9,h10,h11]);obtain⟨c,l,r,b⟩:=x;obtain⟨c',l',r',b'⟩:=y;simp only at e1 e2 h1 h12;rw[eB (fun _ _=>fp) h1,e1,e2,h12]
theorem Lo (x y:LL×LL)(h:cQ x=cQ y):x=y:=by
 obtain⟨a,b⟩:=x;obtain⟨c,d⟩:=y;simp only[cQ,AV.agg.injEq,List.cons.injEq,AV.ls.injEq,AV.int.injEq,and_true,true_and]at h;obtain⟨h1,h2,h3,h4⟩:=h;obtain⟨ac,av⟩:=a;obtain⟨bc,bv⟩:=b;obtain⟨cc,cv⟩:=c;obtain⟨dc,dv⟩:=d;simp only at h1 h2 h3 h4;rw[h1,h3,eB (fun _ _=>vI) h2,eB (fun _ _=>vI) h4]
def aSt (x:SV):List AV:=[od x]
theorem YJ (x y:SV)(h:aSt x=aSt y):x=y:=by
 simp only[aSt,od,AV.agg.injEq,List.cons.injEq,AV.ls.injEq,AV.int.injEq,and_true,true_and]at h;obtain⟨h1,h2,h3,h4⟩:=h;obtain⟨m,q,b,n⟩:=x;obtain⟨m',q',b',n'⟩:=y;simp only at h1 h2 h3 h4;rw[eB vK h1,eB OJ h2,eB Lo h3,h4]
def V123:AG.cF:=mkS 123 a0 Um fun _ o=>o=.ret (.agg U65)
def V29:AG.cF:=mkS 29 aT tO fun x o=>o=.ret (wt (io x))
def ae9:AG.cF:=mkS 246 aT tO fun x o=>o=.ret (wt (io x))
def acF:AG.cF:=mkS 128 aII Jr fun x o=>o=.ret (wt (aV x.1 x.2))
def V87:AG.cF:=mkS 87 aT tO fun t o=>o=.ret (enc (.mk t.kind t.i t.name t.L []))
def V58:AG.cF:=mkS 58 aLL Jp fun _ o=>o=.ret (.bool true)
def V47:AG.cF:=mkS 47 yA LK fun _ o=>o=.ret (.bool true)
def V11:AG.cF:=mkS 11 aTT YG fun _ o=>o=.ret (.bool true)
def V142:AG.cF:=mkS 142 wY vP fun x o=>o=.ret (.tup [aK (dX x.1 x.2).1,wt (dX x.1 x.2).2])
def acG:AG.cF:=mkS 115 wY vP fun x o=>o=.ret (.tup [aK (dX x.1 x.2).1,wt (dX x.1 x.2).2])
def V151:AG.cF:=mkS 151 wY vP fun _ o=>∃(y:LL) (e:Int),o=.ret (.tup [aK y,wt e])
def V67:AG.cF:=mkS 67 ML Pf fun x o=>o=.ret (.tup [enc (fj x.2 x.1).1,wt (fj x.2 x.1).2])
def V12:AG.cF:=mkS 12 aSt YJ fun x o=>MJ x.ms o
def is21 (x:LL)(o:bI):Prop:=∃b:Bool,o=.ret (.bool b)/\(x.v.length<9000->b=vl x)
def V21:AG.cF:=mkS 21 aL wU is21
def kR:List AG.cF:=[S72,V123,S28,V29,ae9,acF,V87,V58,V47,V11,V142,acG,V151,V67,V12,W18,Z20,V21,Z13]
theorem sS:kR.map AG.cF.fid=[72,123,28,29,246,128,87,58,47,11,142,115,151,67,12,18,20,21,13]:=rfl
theorem EC:∀s∈kR,s.Meets CI:=by
 intro s hs;simp only[kR,List.mem_cons,List.mem_nil_iff,or_false]at hs;rcases hs with h|h|h|h|h|h|h|h|h|h|h|h|h|h|h|h|h|h|h<;>(subst h;exact lN)
def K5:aG:=dI (fx kR)
theorem cy:bM CI K5/\∀s∈kR,s.Used K5:=ky kR EC (by rw[sS];decide)
theorem zZ:bW K5:=by
 refine⟨fun f hf c a rc h=>?_,fun l a rc h=>pX⟩;have hd:∀f∈Dm,f ∉ kR.map AG.cF.fid:=by rw[sS];decide
 exact il (hd f hf)
theorem K5_16 (c a:List AV)(rc:RC)(h:AH):K5 (.fn 16 [] c) a rc h=none:=il (by rw[sS];decide)
def FC:List AG.cF:=[acG,acF]
theorem yj:FC.map AG.cF.fid=[115,128]:=rfl
theorem ED:∀s∈FC,s.Meets CI:=by
 intro s hs;simp only[FC,List.mem_cons,List.mem_nil_iff,or_false]at hs;rcases hs with h|h<;>(subst h;exact lN)
def K6:aG:=dI (fx FC)
theorem zY:bM CI K6/\∀s∈FC,s.Used K6:=ky FC ED (by rw[yj];decide)
theorem Zh:nz K6:=by
 intro f hf c a rc h;have hd:∀f∈EZ,f ∉ FC.map AG.cF.fid:=by rw[yj];decide
 exact il (hd f hf)
theorem oS {f:FuncId}{az:List AV}{call:aG}{v w:AV}{h':AH}(hc:bM CI call)(hfr:AV.jp az=true)(e:call (.fn f [] []) az .no bg=some (.ret v,.no,h'))(hn:v.norm=w)(hw:w.free=true):Ans CI (.fn f [] []) az (.ret w):=
 ⟨by simp[AV.free,AV.jp],hfr,by simp[bI.free,hw],_,h',_,hc,e,by simp[bI.norm,hn]⟩
theorem adE:bM CI (fun _ _ _ _=>none):=by
 intro f args rc h out rc' h' q;cases q
theorem Pl:∃o,o=.ret (.agg U65)/\Ans CI (.fn 123 [] []) (a0 ()) o:=by
 have e:=ev123;cases hv:dZ EI (fun _ _ _ _=>none) 1 123 [] .no bg with
 |none=>rw[hv]at e;cases e
 |some r=>
  obtain⟨o,rc,h'⟩:=r;rw[hv]at e;injection e with e;injection e with e1 e2;subst e1 e2;refine⟨_,rfl,by simp[AV.free,AV.jp],by simp[a0,AV.jp],by simp[bI.free,AV.free,AV.jp,U65],_,h',.ret (.agg U65),rF hEI adE 1,?_,by simp[bI.norm,AV.norm,AV.ip,U65]⟩;show dZ EI _ 1 123 (app [] (app (a0 ()) [])) .no bg=_;rw[fk,fk];exact hv
theorem Dg (x:Int×Int):∃o,o=.ret (wt (aV x.1 x.2))/\Ans CI (.fn 128 [] []) (aII x) o:=
 eO (n:=0) cy.1 cf128 (gI 128) (by simp[aII,AV.jp,AV.free]) (by rintro o rfl;simp[bI.free,AV.free]) (mS (Q87.run128 K5 0 x.1 x.2))
theorem YO (t:T)(hq:Lq t):∃o,o=.ret (enc (.mk t.kind t.i t.name t.L []))/\Ans CI (.fn 87 [] []) (aT t) o:=by
 have hl:=hq.ls;obtain⟨k,i,nm,ls,ks⟩:=t;exact eO (n:=21) cy.1 cf87 (gI 87) (by simp[aT,AV.jp,cH]) (by rintro o rfl;simp[bI.free,cH]) (mS (Q87.run87 K5 21 k i nm ls ks (by have:=hl.1;simp only[T.L]at this;omega) hl.1 (fun x hx=>(hl.2 x hx).2)))
theorem YT:∀n t,size t<=n->n<=1000000000000->∃o,o=.ret (wt (size t))/\Ans CI (.fn 28 [] []) (aT t) o:=by
 intro n;induction n with
 |zero=>intro t h;have:=cG t;omega
 |succ n ih=>
  rintro⟨k,i,nm,ls,ks⟩ h hn;simp only[size]at h;have hl:=bE ks;refine eO (n:=ks.length+1) cy.1 cf28 (gI 28) (by simp[aT,AV.jp,cH]) (by rintro o rfl;simp[bI.free,AV.free]) (mS (abk K5 _ k i nm ls ks (by omega) (by omega) (by omega) (fun t ht h'=>?_)));obtain⟨a,ha,rfl⟩:=wag.1 ht;have hs:=ck (wO ha);obtain⟨o,rfl,hu⟩:=bB (cy.2 S28 (by simp[kR])) ks[a] (ih _ (by omega) (by omega));exact hu _ h' (by simp[aT,AV.ip,bL])
theorem sN:∀ks:List T,depths ks<=aW ks
 |[]=>by simp[depths,aW]
 |t::l=>by
  have h1:=uE t;have h2:=sN l;simp only[depths,aW];omega
theorem YS:∀n t,size t<=n->n<=1000000000000->∃o,o=.ret (wt (io t))/\Ans CI (.fn 29 [] []) (aT t) o:=by
 intro n;induction n with
 |zero=>intro t h;have:=cG t;omega
 |succ n ih=>
  rintro⟨k,i,nm,ls,ks⟩ h hn;simp only[size]at h;have hl:=bE ks;have hdp:=sN ks;refine eO (n:=ks.length+1) cy.1 cf29 (gI 29) (by simp[aT,AV.jp,cH]) (by rintro o rfl;simp[bI.free,AV.free]) (mS (ada K5 _ k i nm ls ks (by omega) (by omega) (by omega) (fun t ht h'=>?_)));obtain⟨a,ha,rfl⟩:=wag.1 ht;have hs:=ck (wO ha);obtain⟨o,rfl,hu⟩:=bB (cy.2 V29 (by simp[kR])) ks[a] (ih _ (by omega) (by omega));exact hu _ h' (by simp[aT,AV.ip,bL])
theorem Ph:∀n t,size t<=n->n<=1000000000000->∃o,o=.ret (wt (io t))/\Ans CI (.fn 246 [] []) (aT t) o:=by
 intro n;induction n with
 |zero=>intro t h;have:=cG t;omega
 |succ n ih=>
  rintro⟨k,i,nm,ls,ks⟩ h hn;simp only[size]at h;have hl:=bE ks;have hdp:=sN ks;refine jG (n:=ks.length+1) cy.1 cf246 (fg 246) (by simp[aT,AV.jp,cH]) (by rintro o rfl;simp[bI.free,AV.free]) (mS (ade K5 _ k i nm ls ks (by omega) (by omega) (by omega) (fun t ht h'=>?_)));obtain⟨a,ha,rfl⟩:=wag.1 ht;have hs:=ck (wO ha);obtain⟨o,rfl,hu⟩:=bB (cy.2 ae9 (by simp[kR])) ks[a] (ih _ (by omega) (by omega));exact hu _ h' (by simp[aT,AV.ip,bL])
theorem K5_KB:KB K5:=⟨fun h=>by
 obtain⟨o,rfl,hu⟩:=bB (cy.2 V123 (by simp[kR])) () Pl;exact hu _ h rfl⟩
theorem K5_KC:KC K5:=⟨fun k j h=>by
 obtain⟨o,rfl,hu⟩:=bB (cy.2 S72 (by simp[kR])) (k,j) (A72 (k,j));exact hu _ h (by simp[aII,AV.ip,AV.norm])⟩
theorem K5_KD:KD K5:=⟨fun t ht h=>by
 obtain⟨o,rfl,hu⟩:=bB (cy.2 S28 (by simp[kR])) t (YT _ t ht (Fv _));exact hu _ h (by simp[aT,AV.ip,bL])⟩
theorem K5_KE:KE K5:=⟨fun t ht h=>by
 obtain⟨o,rfl,hu⟩:=bB (cy.2 V29 (by simp[kR])) t (YS _ t ht (Fv _));exact hu _ h (by simp[aT,AV.ip,bL])⟩
theorem K5_KF:KF K5:=⟨fun t ht h=>by
 obtain⟨o,rfl,hu⟩:=bB (cy.2 ae9 (by simp[kR])) t (Ph _ t ht (Fv _));exact hu _ h (by simp[aT,AV.ip,bL])⟩
theorem K5_KP:KP K5:=⟨fun t hq h=>by
 obtain⟨o,rfl,hu⟩:=bB (cy.2 V87 (by simp[kR])) t (YO t hq);exact hu _ h (by simp[aT,AV.ip,bL]),fun k j h=>by
 obtain⟨o,rfl,hu⟩:=bB (cy.2 acF (by simp[kR])) (k,j) (Dg (k,j));exact hu _ h (by simp[aII,AV.ip,AV.norm])⟩
attribute [local go_sem] dB bJ bk bS bR ca cM
theorem zW (b:Nat)(h:AH)(vals:List LL):RdL b h (.ls (vals.map aK)) vals:=
 ⟨fun h=>by rw[dL,waa],fun i x e=>⟨.vptr (aK x),aK x,nA x.c x.v,fun h _=>⟨aN dj e .i64 h,gN true 2 rfl rfl⟩⟩,rfl,rfl⟩
structure GV (vals:List LL):Prop where
 len:vals.length<=20
 v:∀y∈vals,y.v.length<=8
 ok:∀y∈vals,VL y
theorem sE {r:LL×Int}{v:AV}(h:tQ r v):v.norm=.tup [aK r.1,wt r.2]:=by
 obtain⟨a,rfl,hl⟩:=h;simp[AV.norm,AV.ip,hl.norm]
theorem zI (x:LL)(e:Int):(AV.tup [aK x,wt e]).free=true:=by simp[AV.free,AV.jp,de]
theorem sH (x:LL×List LL):AV.jp (wY x)=true:=by simp[wY,AV.jp,AV.free,de,ig]
theorem Pk (l:LL)(vals:List LL)(hl:PL l)(g:GV vals):∃o,o=.ret (.tup [aK (dX l vals).1,wt (dX l vals).2])/\Ans CI (.fn 142 [] []) (wY (l,vals)) o:=by
 obtain⟨v,nx,_,e,hi⟩:=c142 rW Fp 0 (aK l) l (.ls (vals.map aK)) vals bg (nA l.c l.v) (zW _ _ vals) hl.2 (by have:=g.len;omega) (fun y hy=>by have:=g.v y hy;omega) hl.1 g.ok;exact⟨_,rfl,oS (BE MA _) (sH _) e (sE hi) (zI _ _)⟩
theorem Dh (l:LL)(vals:List LL)(hl:PL l)(g:GV vals):∃o,o=.ret (.tup [aK (dX l vals).1,wt (dX l vals).2])/\Ans CI (.fn 115 [] []) (wY (l,vals)) o:=by
 obtain⟨v,nx,_,e,hi⟩:=c115 rW Fp KZ_KS 0 (aK l) l (.ls (vals.map aK)) vals bg (nA l.c l.v) (zW _ _ vals) (by have:=hl.2;omega) (by have:=g.len;omega) (fun y hy=>by have:=g.v y hy;omega) hl.1 g.ok;rw[(YC hl.1 g.ok).1]at hi;exact⟨_,rfl,oS (BE MA _) (sH _) e (sE hi) (zI _ _)⟩
theorem Pj (l:LL)(vals:List LL)(hl:PL l)(g:GV vals):∃o,(∃(y:LL) (e:Int),o=.ret (.tup [aK y,wt e]))/\Ans CI (.fn 151 [] []) (wY (l,vals)) o:=by
 obtain⟨v,nx,_,e,r,hi⟩:=c151x rW (fun c a rc h=>zX (by rw[gf];decide) (by decide)) (fun c a rc h=>zX (by rw[gf];decide) (by decide)) Fp 0 (aK l) l (.ls (vals.map aK)) vals bg (nA l.c l.v) (zW _ _ vals) hl.2 (by have:=g.len;omega) (fun y hy=>by have:=g.v y hy;omega) hl.1 g.ok;exact⟨_,⟨_,_,rfl⟩,oS (BE MA _) (sH _) e (sE hi) (zI _ _)⟩
theorem mL (l:LL)(vals:List LL):AV.ip [aK l,.ls (vals.map aK)]=wY (l,vals):=by simp[wY,AV.ip,AV.norm,fY,fB]
theorem K5_KL {vals:List LL}(g:GV vals):KL K5 vals where
 r142:=fun l hl h=>by
  obtain⟨o,rfl,hu⟩:=bB (cy.2 V142 (by simp[kR])) (l,vals) (Pk l vals hl g);exact hu _ h (mL l vals)
 r115:=fun l hl h=>by
  obtain⟨o,rfl,hu⟩:=bB (cy.2 acG (by simp[kR])) (l,vals) (Dh l vals hl g);exact hu _ h (mL l vals)
 r151:=fun l hl=>by
  obtain⟨o,⟨y,e,rfl⟩,hu⟩:=bB (cy.2 V151 (by simp[kR])) (l,vals) (Pj l vals hl g);exact⟨y,e,fun h=>hu _ h (mL l vals)⟩
theorem K6_KT {vals:List LL}(g:GV vals):KT K6 vals where
 r115:=fun l hl h=>by
  obtain⟨o,rfl,hu⟩:=bB (zY.2 acG (by simp[FC])) (l,vals) (Dh l vals hl g);exact hu _ h (mL l vals)
 r128:=fun k j h=>by
  obtain⟨o,rfl,hu⟩:=bB (zY.2 acF (by simp[FC])) (k,j) (Dg (k,j));exact hu _ h (by simp[aII,AV.ip,AV.norm])
theorem YP (t:T)(vals:List LL)(hs:size t<=2000)(hq:Lq t)(g:GV vals):∃o,o=.ret (.tup [enc (fj vals t).1,wt (fj vals t).2])/\Ans CI (.fn 67 [] []) (ML (t,vals)) o:=by
 obtain⟨v,h',e,rfl,_⟩:=c67 Zh (K6_KT g) 3000 t bg (by omega) (by omega) hq;exact⟨_,rfl,oS (cT_ok zY.1 _) (by simp[ML,AV.jp,AV.free,cH,ig]) e (by simp[AV.norm,AV.ip,bL]) (by simp[AV.free,AV.jp,cH])⟩
theorem K5_KA {vals:List LL}(g:GV vals):KA K5 vals:=⟨fun t h hs hq=>by
 obtain⟨o,rfl,hu⟩:=bB (cy.2 V67 (by simp[kR])) (t,vals) (YP t vals hs hq g);exact hu _ h (by simp[ML,AV.ip,AV.norm,bL,fB])⟩
def KW:aG:=orC (dI (fx oe)) KZ
theorem aca:bM CI KW:=GP ny.1 MA
theorem KW_1 {f:AV}{a:List AV}{rc:RC}{h:AH}{r:bI×RC×AH}(e:dI (fx oe) f a rc h=some r):KW f a rc h=some r:=VF e
theorem Zt {f:FuncId}{c a:List AV}{rc:RC}{h:AH}{r:Option (bI×RC×AH)}(hf:f ∉ oe.map AG.cF.fid)(e:KZ (.fn f [] c) a rc h=r):KW (.fn f [] c) a rc h=r:=Fc (il hf) e
theorem Jv:jR KW:=by
 refine⟨fun f hf c a rc h=>?_,fun l a rc h=>Fc pX (rW.yld l a rc h)⟩;have hd:∀f∈acm,f ∉ oe.map AG.cF.fid:=by rw[dW];decide
 exact Zt (hd f hf) (rW.fn f hf c a rc h)
theorem KW_KV:KV KW:=⟨fun a x h ha hl=>Zt (by rw[dW];decide) (Fp.r135 a x h ha hl),fun a x h ha hl=>Zt (by rw[dW];decide) (Fp.r21 a x h ha hl)⟩
theorem acb (ms:List MV)(hf:∀m∈ms,UD m):∃b:Bool,(b=true->G48 ms)/\∀h,KW (.fn 48 [] []) [.ls (ms.map cD)] .no h=some (.ret (.bool b),.no,h):=by
 obtain⟨o,⟨b,rfl,hb⟩,hu⟩:=bB (ny.2 W48 (by simp[oe])) ms (YM ms hf);exact⟨b,hb,fun h=>KW_1 (hu _ h (by simp[aMs,AV.ip,AV.norm,mF]))⟩
theorem KW_18 (ms:List MV)(ctx ts:List T)(h2:ctx.length<1125899906842624)(h3:∀t∈ctx,Fit t)(h4:ts.length<1125899906842624)(h5:∀t∈ts,Fit t):∃b:Bool,∀a h,AV.ip a=a18 (ms,ctx,ts)->KW (.fn 18 [] []) a .no h=some (.ret (.bool b),.no,h):=by
 obtain⟨o,⟨b,rfl,_⟩,hu⟩:=bB (ny.2 W18 (by simp[oe])) (ms,ctx,ts) (Ju ms ctx ts h2 h3 h4 h5);exact⟨b,fun a h ha=>KW_1 (hu a h ha)⟩
theorem KW_KG:KG KW where
 r48:=fun ms hl hf=>by
  obtain⟨b,h1,h2⟩:=acb ms hf;exact⟨b,fun hb=>(h1 hb).good.len,h2⟩
 r20:=fun t n hf=>by
  obtain⟨b,h⟩:=us20 t n hf;exact⟨b,fun a h' ha=>Zt (by rw[dW];decide) (MB (h a h' ha))⟩
 r18:=fun ms ctx ts h1 h2 h3 h4 h5=>by
  obtain⟨b,h⟩:=KW_18 ms ctx ts h2 h3 h4 h5;exact⟨b,fun a h' ha=>h a h' ha⟩
 r49:=fun n ctx h1 h2=>by
  obtain⟨o,⟨b,rfl⟩,hu⟩:=bB (fL.2 Z49 (by simp[oT])) (n,ctx) (A49 ctx n h1 h2);exact⟨b,fun h=>Zt (by rw[dW];decide) (MB (hu _ h (by simp[aIT,AV.ip,AV.norm,cu])))⟩
theorem c12f {K:aG}(hK:jR K)(m0:Nat)(s:SV)(h48:∀h,K (.fn 48 [] []) [.ls (s.ms.map cD)] .no h=some (.ret (.bool false),.no,h))(h:AH):
  ∃h',cK K (m0+2) (.fn 12 [] []) [.agg [.ls (s.ms.map cD),.ls (s.qs.map gC),.ls (s.bs.map cQ),wt s.n]] .no h=some (.ret (.bool false),.no,h'):=by
 rw[eV hK _ 12];have key:∃v h',dZ EF (cK K (m0+1)) 30000 12 [.agg [.ls (s.ms.map cD),.ls (s.qs.map gC),.ls (s.bs.map cQ),wt s.n]] .no h=some (.ret v,.no,h')/\Gx (fun v=>v=.bool false) h v h':=by
  refine eU cf12 (fg _) ?_;unfold b12;obtain⟨ob,hob⟩:∃ob,ob=h.objs.put h.z (.box [.ls (s.ms.map cD),.ls (s.qs.map gC),.ls (s.bs.map cQ),wt s.n]):=⟨_,rfl⟩
  have g1:ob.get h.z=some (.box [.ls (s.ms.map cD),.ls (s.qs.map gC),.ls (s.bs.map cQ),wt s.n]):=by rw[hob,Tr.cB]
  have e1:=fun h=>dQ (h48 h) (m0+1)
  simp only[go_sem,simprocAttr];rw[<-hob];simp only[go_sem,simprocAttr,oV,g1,e1];exact ez (.inr rfl) (Fv _) (by show h.z<=h.z+1;omega) (by simp only[go_sem,simprocAttr,r12];rfl) (by rw[gP,eN])
 obtain⟨v,h',e,g⟩:=key;obtain⟨rfl,_⟩:=g;exact⟨h',e⟩
theorem YV (s:SV)(fs:Me s):∃o,MJ s.ms o/\Ans CI (.fn 12 [] []) (aSt s) o:=by
 have hfr:AV.jp (aSt s)=true:=by simp[aSt,AV.jp,IJ]
 obtain⟨b,hb,h48⟩:=acb s.ms fs.ms;cases b with
 |true=>
  obtain⟨v,nx,_,e,b2,rfl,_⟩:=c12 Jv KW_KV KW_KG 18 s fs bg;exact⟨_,⟨b2,rfl,fun _=>hb rfl⟩,oS (BE aca _) hfr e rfl rfl⟩
 |false=>
  obtain⟨h',e⟩:=c12f Jv 18 s h48 bg;exact⟨_,⟨false,rfl,fun h=>by cases h⟩,oS (BE aca _) hfr e rfl rfl⟩
theorem K5_12 (s:SV)(fs:Me s):∃b:Bool,(b=true->G48 s.ms)/\∀h,K5 (.fn 12 [] []) [od s] .no h=some (.ret (.bool b),.no,h):=by
 obtain⟨o,⟨b,rfl,hb⟩,hu⟩:=bB (cy.2 V12 (by simp[kR])) s (YV s fs);exact⟨b,hb,fun h=>hu _ h (by simp[aSt,AV.ip,II])⟩
theorem ace (ms:List MV)(ctx ts:List T)(h2:ctx.length<1125899906842624)(h3:∀t∈ctx,Fit t)(h4:ts.length<1125899906842624)(h5:∀t∈ts,Fit t):∃b:Bool,(b=true->ctx.length<=6/\∀t∈ts,size t<=60/\Ok PL ms.length t ctx.length)/\∀a h,AV.ip a=a18 (ms,ctx,ts)->K5 (.fn 18 [] []) a .no h=some (.ret (.bool b),.no,h):=by
 obtain⟨o,⟨b,rfl,hb⟩,hu⟩:=bB (cy.2 W18 (by simp[kR])) (ms,ctx,ts) (Ju ms ctx ts h2 h3 h4 h5);exact⟨b,hb,fun a h ha=>hu a h ha⟩
theorem K5_20 (t:T)(n:Int)(hf:Fit t):∃b:Bool,∀h,K5 (.fn 20 [] []) [enc t,wt n] .no h=some (.ret (.bool b),.no,h):=by
 obtain⟨o,⟨b,rfl⟩,hu⟩:=bB (cy.2 Z20 (by simp[kR])) (t,n) (A20 _ t n (Fv _) hf);exact⟨b,fun h=>hu _ h (by simp[aTI,AV.ip,AV.norm,bL])⟩
theorem YU (x:LL)(hl:x.v.length<1125899906842624):∃o,is21 x o/\Ans CI (.fn 21 [] []) (aL x) o:=by
 by_cases h:x.v.length<9000
 ·obtain⟨o,rfl,ha⟩:=afc x h;exact⟨_,⟨_,rfl,fun _=>rfl⟩,ha⟩
 ·obtain⟨o,⟨b,rfl⟩,ha⟩:=A21 x hl;exact⟨_,⟨b,rfl,fun q=>absurd q h⟩,ha⟩
theorem K5_21 (x:LL)(hl:x.v.length<1125899906842624):∃b:Bool,(x.v.length<9000->b=vl x)/\∀h,K5 (.fn 21 [] []) [aK x] .no h=some (.ret (.bool b),.no,h):=by
 obtain⟨o,⟨b,rfl,hb⟩,hu⟩:=bB (cy.2 V21 (by simp[kR])) x (YU x hl);exact⟨b,hb,fun h=>hu _ h (by simp[aL,AV.ip,fY])⟩
theorem K5_13 (h:AH):K5 (.fn 13 [] []) [] .no h=some (.ret (.bool true),.no,h):=by
 obtain⟨o,rfl,hu⟩:=bB (cy.2 Z13 (by simp[kR])) () A13;exact hu _ h rfl
theorem YQ (x:LL)(hl:x.v.length<1125899906842624):∃o,o=.ret (.bool true)/\Ans CI (.fn 58 [] []) (aLL x) o:=
 eO (n:=x.v.length+1) cy.1 cf58 (gI 58) (by simp[aLL,AV.jp,de]) (by rintro o rfl;simp[bI.free,AV.free]) (mS (run58 K5 _ x (by omega) (by omega)))
theorem YR (l:List LL)(hl:l.length<1125899906842624)(hx:∀x∈l,x.v.length<1125899906842624):∃o,o=.ret (.bool true)/\Ans CI (.fn 47 [] []) (yA l) o:=
 eO (n:=l.length+1) cy.1 cf47 (gI 47) (by simp[yA,AV.jp,AV.free,ig]) (by rintro o rfl;simp[bI.free,AV.free]) (mS (run47 K5 _ l (by omega) (by omega) (fun x hm h=>by
  obtain⟨o,rfl,hu⟩:=bB (cy.2 V58 (by simp[kR])) x (YQ x (hx x hm));exact hu _ h (by simp[aLL,AV.ip,fY]))))
inductive yB:T->Prop
 |mk {k i:Int} {nm:ByteArray} {ls:List LL} {ks:List T} (h4:ls.length<1125899906842624) (h5:∀x∈ls,x.v.length<1125899906842624)
   (h6:ks.length<1125899906842624) (h7:∀t∈ks,yB t):yB (.mk k i nm ls ks)
theorem YW:∀(n:Nat) (t:T),size t<=n->yB t->∃o,o=.ret (.bool true)/\Ans CI (.fn 11 [] []) (aTT t) o:=by
 intro n;induction n with
 |zero=>intro t h;have:=cG t;omega
 |succ n ih=>
  rintro⟨k,i,nm,ls,ks⟩ h hf;obtain⟨f4,f5,f6,f7⟩:=hf;simp only[size]at h;obtain⟨o,rfl,hu⟩:=bB (cy.2 V47 (by simp[kR])) ls (YR ls f4 f5);refine eO (n:=ks.length+1) cy.1 cf11 (gI 11) (by simp[aTT,AV.jp,cH]) (by rintro o rfl;simp[bI.free,AV.free]) (mS (run11 K5 _ k i nm ls ks (by omega) (by omega) (fun h=>hu _ h (by simp[yA,AV.ip,AV.norm,fB])) (fun t ht h'=>?_)));obtain⟨a,ha,rfl⟩:=wag.1 ht;have hs:=ck (wO ha);obtain⟨o,rfl,hu⟩:=bB (cy.2 V11 (by simp[kR])) ks[a] (ih ks[a] (by omega) (f7 _ ht));exact hu _ h' (by simp[aTT,AV.ip,bL])
theorem K5_11 (t:T)(ht:yB t)(h:AH):K5 (.fn 11 [] []) [enc t,enc t] .no h=some (.ret (.bool true),.no,h):=by
 obtain⟨o,rfl,hu⟩:=bB (cy.2 V11 (by simp[kR])) t (YW _ t (Fv _) ht);exact hu _ h (by simp[aTT,AV.ip,bL])
