/- SolverFinishes: newSum, add (no condition). -/
import Derived.Test.YtnacljdablhbgaaGreatDa
namespace Go.Proofs.YtnacljdablhbgaaGreat
open Go.AG
section
variable {call:aG}{n:Nat}{d:Option Nat}{lo hi:Nat}{fin:Bool}{l all:List (aX×DI)}{tm:Tm}{cx:AC}{h:AH}{nk:Nat}{hs:List AH}{rds:List AG.Rd}{k:List It}{Q:AEx->AF->AH->Prop}
theorem dB (az:List AX){g:Option (Nat×Bool)}: RD call n ((⟨d,(.builtin .max az),g⟩,⟨lo,hi,fin⟩)::l) all tm cx h nk hs rds k Q=dC call n .still (wants g tm) d (.builtin .max az) lo hi fin l all tm cx h nk hs rds k Q:=eD rfl (by intro e;cases e)
theorem bJ (t:Nat)(z:AV)(x i:AX)(ok:Bool){g:Option (Nat×Bool)}: RD call n ((⟨d,(.lookup t z x i ok),g⟩,⟨lo,hi,fin⟩)::l) all tm cx h nk hs rds k Q=dC call n .reads (wants g tm) d (.lookup t z x i ok) lo hi fin l all tm cx h nk hs rds k Q:=eD rfl (by intro e;cases e)
theorem bk (t:Nat)(z:AV)(x i:AX)(ok:Bool)(h:AH):birth (.lookup t z x i ok) h=h:=(rfl)
end
attribute [local go_sem] dB bJ bk
theorem OW (h:AH)(k:Nat)(n:Int):cP h [.nilm,wt n] [(0,1,.map k)]=.val (.agg [.map k,wt n]) h:=(rfl)
theorem Yi (call:aG)(n:Nat)(h:AH):
  ∃v h',dZ EF call n 164 [] .no h=some (.ret v,.no,h')/\v=.ptr (h.z+1) 0 0/\h'.z=h.z+2/\h'.low=h.low/\h'.get h.z=some (.map [])/\h'.get (h.z+1)=some (.box [.map h.z,wt 0])/\∀k,k<h.z->h'.get k=h.get k:=by
 refine nw cf164 (by rfl) ?_;unfold b164;have hh:h=⟨h.z,h.low,h.objs⟩:=rfl;rw[hh];have n1:¬(h.z=h.z+1):=by omega
 simp only[go_sem,simprocAttr,Rc,OW];refine⟨rfl,rfl,.inr rfl,_,by simp only[go_sem,simprocAttr,r164];rfl,rfl,rfl,rfl,?_,?_,fun k hk=>?_⟩
 ·simp only[go_sem,simprocAttr,n1]
 ·simp only[go_sem,simprocAttr]
 ·rw[cp,Tr.cA _ _ (by omega),Tr.cA _ _ (by omega)]
noncomputable def sl1 (h:AH)(sz:Nat)(x:AV):Option (AV×AH):=aq (yt x) fun n=>aq (lX (wt 1) n) fun l=>By x h sz l n
theorem Pz {V:AV}{es:List AV}{sz:Nat}(hV:V=.ls es∨V=.clip es)(hs:∀x∈es,x.cells.length=sz)(h:AH)(hne:es≠[]):sl1 h sz V=some (.ls (es.drop 1),h):=by
 have hl:1<=es.length:=by
  cases es with
  |nil=>exact absurd rfl hne
  |cons a l=>simp
 have hb:lX (wt 1) (len es)=some 1:=by
  show aq (some 1) (fun m=>cond (Nat.ble m (len es)) (some m) none)=_;rw[aF,bH,gj hl];rfl
 have hsz:fl sz es=true:=(xh sz es).2 hs;have key:aq (lX (wt 1) (len es)) (fun l=>cond (fl sz es) (some (AV.ls (tke (Nat.sub (len es) l) (drp l es)),h)) none)=some (.ls (es.drop 1),h):=by
  rw[hb,aF,hsz,cond_true,lz,fM,bH];congr 3;exact List.take_of_length_le (by simp)
 rcases hV with rfl|rfl
 ·exact key
 ·exact key
structure Cs (V:AV)(vs:List LV):Prop where
 len:∀h,lenOf V h 1=some vs.length
 ia:∀(i:Nat) y,vs[i]?=some y->∀h,cz V h 2 (wt (i:Int))=.val (.vptr (encV y)) h
 sl:∀h,vs≠[]->sl1 h 2 V=some (.ls ((vs.drop 1).map encV),h)
 cell:V.cells=[V]
 lies:V.lies=true
 bq:AV.beq V V=true
theorem Hx (vs:List LV):Cs (.ls (vs.map encV)) vs:=
 ⟨fun h=>by rw[dL,waa],fun i y e h=>aN ct e .i64 h,fun h hne=>by
  rw[Pz (.inl rfl) (fun x hx=>by obtain⟨y,_,rfl⟩:=List.mem_map.1 hx;rfl) h (by simpa using hne),List.map_drop],rfl,rfl,fI (by simp[AV.free,cL lT])⟩
structure Lv (a:AV)(x:LL):Prop where
 ex:∃V,a=.agg [wt x.c,V]/\V.norm=.ls (x.v.map encV)/\V.cells=[V]/\V.lies=true/\(∀m h b,frz m h b V=V)/\(∀b h,Rd encV 2 b h V x.v)/\∀(i:Nat) y,x.v[i]?=some y->∀h,cz V h 2 (wt (i:Int))=.val (.vptr (encV y)) h
 cs:∀V,a=.agg [wt x.c,V]->Cs V x.v/\∀h,gU h 1 V=.val (.ptr h.z 0 0) (h.new (.box [V]))
theorem Lv.norm {a:AV}{x:LL}(h:Lv a x):a.norm=aK x:=by
 obtain⟨V,rfl,hn,_⟩:=h.ex;simp[AV.norm,AV.ip,aK,hn]
structure sb (ks km:Nat)(c:Int)(L:Es)(h:AH):Prop where
 s:h.get ks=some (.box [.map km,wt c])
 m:h.get km=some (.map (mp L))
 ls:ks<h.z
 lm:km<h.z
 ne:ks≠km
def tu (L:Es)(vs:List LV)(n:Int):Es:=vs.foldl (fun L x=>fV L x.i (x.p+n)) L
def I165 (ks km:Nat)(c:Int)(V:AV)(vs:List LV)(nn:Int)(L:Es)(h0:AH)(j:Nat)(fr:AF)(h:AH):Prop:=∃tm m,m+j=vs.length/\fr=⟨tm,⟨[],.no,none,165⟩⟩/\
  sb ks km c (tu L (vs.take m) nn) h/\(∀k,k<h0.z->k≠ks->k≠km->h.get k=h0.get k)/\h0.z<h.z/\(∀b,b<=h0.z->b<=ks->b<=km->b<=h.low)/\h.low<=ks/\
  nth tm 0=.ptr ks 0 0/\nth tm 2=wt nn/\nth tm 21=V/\nth tm 22=wt (vs.length:Int)/\nth tm 23=wt (m:Int)
theorem fP {α:Type}{l:List α}{m:Nat}{x:α}(h:l[m]?=some x):l.take (m+1)=l.take m++[x]:=by
 rw[List.take_add_one,h];rfl
theorem Yh (call:aG)(n:Nat)(ks km:Nat)(c:Int)(L:Es)(cl:Int)(V:AV)(vs:List LV)(nn:Int)(h:AH)(hs:sb ks km c L h)(hV:Rd encV 2 h.z h V vs)(hVo:∀b h,Rd encV 2 b h V vs)
  (hn:vs.length<n) (hl:vs.length<30000) (b1:0<=cl/\cl<=1000) (b2:0<=nn/\nn<=1000) (b3:∀x∈vs,0<=x.p/\x.p<=1000)
  (h166:∀L i p h,h.get km=some (.map (mp L))->km<h.z->∃v h',call (.fn 166 [] []) [.map km,wt i,wt p] .no h=some (.ret v,.no,h')/\v=.tup []/\h'.get km=some (.map (mp (fV L i p)))/\h.z<=h'.z/\(∀k,k≠km->h'.get k=h.get k)/\(∀b,b<=h.low->b<=km->b<=h'.low)/\h'.low<=h.low) :
  ∃v h',dZ EF call n 165 [.ptr ks 0 0,.agg [wt cl,V],wt nn] .no h=some (.ret v,.no,h')/\v=.tup []/\sb ks km (max c (cl+nn)) (tu L vs nn) h'/\Ch ks km h h'/\h'.low<=h.low:=by
 refine eU cf165 (fg _) ?_;unfold b165;have hc:=hV.cell;have hli:=hV.lies;have hlen:=hV.len;obtain⟨g1,g2,l1,l2,ne⟩:=hs;have n1:¬(ks=h.z):=by omega
 have n2:¬(km=h.z):=by omega
 have n3:¬(h.z=ks):=by omega
 have ne':¬(km=ks):=fun e=>ne e.symm
 have g1:h.objs.get ks=some (.box [.map km,wt c]):=g1;have g2:h.objs.get km=some (.map (mp L)):=g2;have hw:IntKind.wrap .i64 (cl+nn)=cl+nn:=br _ (by omega) (by omega);simp only[go_sem,simprocAttr,QY,QZ,hlen,n1,n3,g1,hw];refine bD (I165 ks km (max c (cl+nn)) V vs nn L h) vs.length hn ⟨_,0,wac _,rfl,⟨?_,?_,?_,?_,ne⟩,?_,?_,?_,?_,?_,?_,?_,?_,?_⟩ ?_
 ·simp only[go_sem,simprocAttr]
 ·simp only[go_sem,simprocAttr,n2,ne',g2,tu,List.take_zero,List.foldl_nil]
 ·show ks<h.z+1;omega
 ·show km<h.z+1;omega
 ·intro k h1 h2 h3;rw[cp,Tr.cA _ _ h2,Tr.cA _ _ (by omega)];rfl
 ·show h.z<h.z+1;omega
 ·intro b h1 h2 h3;exact bo h2 h1
 ·exact zy _ _
 ·simp only[go_sem,simprocAttr]
 ·simp only[go_sem,simprocAttr]
 ·simp only[go_sem,simprocAttr]
 ·simp only[go_sem,simprocAttr]
 ·simp only[go_sem,simprocAttr]
 rintro j fr H ⟨tm,m,hm,rfl,hS,hk,hnx,hlow,hlo,t0,t2,t21,t22,t23⟩;unfold TZ;obtain⟨s1,s2,s3,s4,_⟩:=hS;obtain⟨nx,lo,ob⟩:=H;have s1:ob.get ks=some (.box [.map km,wt (max c (cl+nn))]):=s1;have s2:ob.get km=some (.map (mp (tu L (vs.take m) nn))):=s2;have s3:ks<nx:=s3;have s4:km<nx:=s4;have hnx:h.z<nx:=hnx;have hlo:lo<=ks:=hlo;simp only[go_sem,simprocAttr,Ra,t22,t23];refine bj (fun hlt=>?_) (fun hge=>?_)
 ·have hlt:m<vs.length:=by omega
  have hget:vs[m]?=some vs[m]:=wO hlt;obtain⟨p',hp'⟩:=(hVo nx ⟨nx,lo,ob⟩).get m _ hget;have ha:=(hp' ⟨nx,lo,ob⟩ (fun _ _=>rfl)).1;have hb:=(hp' ⟨nx,lo,ob⟩ (fun _ _=>rfl)).2;have hw2:=aM m (by omega);have hv:encV vs[m]=.agg [wt vs[m].i,wt vs[m].p]:=rfl;rw[hv]at hb;have hpl:=b3 vs[m] (List.getElem_mem hlt);have hw3:IntKind.wrap .i64 (vs[m].p+nn)=vs[m].p+nn:=br _ (by omega) (by omega);have n4:¬(ks=nx):=by omega
  have n5:¬(km=nx):=by omega
  obtain⟨v,h',e1,rfl,f1,f2,f3,f4,f5⟩:=h166 (tu L (vs.take m) nn) vs[m].i (vs[m].p+nn) ⟨nx+1,gz nx lo,(ob.put nx (.box [wt 0,wt 0])).put nx (.box [wt vs[m].i,wt vs[m].p])⟩
   (by simp only[go_sem,simprocAttr,n5,s2]) (by show km<nx+1;omega)
  simp only[go_sem,simprocAttr,Rb,t0,t2,t21,t23,ha,hb,n4,s1,hw3,e1,hw2];have f2:nx+1<=h'.z:=f2;refine⟨j-1,by omega,_,m+1,by omega,rfl,⟨?_,?_,by omega,by omega,ne⟩,?_,by omega,?_,?_,by and_intros<;>simp only[go_sem,simprocAttr,t0,t2,t21,t22]⟩
  ·rw[f3 ks ne];simp only[go_sem,simprocAttr,n4,s1]
  ·rw[f1,fP hget];simp only[tu,List.foldl_append,List.foldl_cons,List.foldl_nil]
  ·intro k h1 h2 h3;rw[f3 k h3,cp,Tr.cA _ _ (by omega),Tr.cA _ _ (by omega)];exact hk k h1 h2 h3
  ·intro b h1 h2 h3;exact f4 b (bo (by omega) (hlow b h1 h2 h3)) h3
  ·have:gz nx lo<=lo:=jY _ _;have f5:h'.low<=gz nx lo:=f5;omega
 ·have:m=vs.length:=by omega
  subst this;rw[List.take_length]at s2;simp only[go_sem,simprocAttr];refine Aa (.inl rfl) ?_ (by simp only[go_sem,simprocAttr,r165];rfl) ⟨rfl,⟨s1,s2,s3,s4,ne⟩,⟨by show h.z<=nx;omega,fun k h1 h2 h3=>hk k h1 h2 h3,fun x h1 h2 h3=>?_⟩,?_⟩
  ·show ¬h.z<=lo;omega
  ·exact bo (hlow x (by omega) h2 h3) h1
  ·exact jY _ _
attribute [local go_sem] dB bJ bk
theorem qY {sz:Nat}{x:AV}: ∀{out:List AV} {i:Nat},(∀y∈out,y.cells.length=sz)->out[i]?=some x->((flat out).drop (i*sz)).take sz=x.cells
 |y::l,0,h,e=>by
  have e:y=x:=by simpa using e
  subst e;rw[Nat.zero_mul,List.drop_zero,bO,<-h y (by simp),List.take_left' rfl]
 |y::l,i+1,h,e=>by
  have ih:=qY (out:=l) (i:=i) (fun z hz=>h z (by simp[hz])) (by simpa using e);have hy:=h y (by simp);rw[bO,show(i+1)*sz=y.cells.length+i*sz by rw[hy,Nat.succ_mul];omega,<-List.drop_drop,List.drop_left' rfl];exact ih
theorem qI {base:Nat}{h:AH}{v:AV}{vs:List LV}(o:Own base 2 true h v (vs.map encV)):Rd encV 2 h.z h v vs:=by
 obtain⟨o1,⟨rfl,e⟩|⟨k,g,rfl,hk,hlt,hbk⟩⟩:=o
 ·have:vs=[]:=by simpa using e
  subst this;exact⟨fun h=>rfl,fun i x e=>by simp at e,rfl,rfl,fun m h b _=>fH m b⟩
 ·refine⟨fun h=>by rw[uU,waa],fun i x e=>⟨.ptr k g (i*2),fun H hH=>⟨?_,?_⟩⟩,rfl,rfl,fun m H b hb=>?_⟩
  ·show okV (cond (Nat.beq 2 2) (aq (aq (some i) fun m=>cond (Nat.blt m (vs.map encV).length) (some m) none) fun n=>some (.ptr k g (Nat.mul (Nat.add 0 n) 2))) none) H=_;have hi:i<(vs.map encV).length:=by
    rw[waa];rcases Nat.lt_or_ge i vs.length with q|q
    ·exact q
    ·rw[List.getElem?_eq_none q]at e;cases e
   have hb:Nat.blt i (vs.map encV).length=true:=Nat.ble_eq_true_of_le hi;rw[aF,hb];show OpR.val (.ptr k g (Nat.mul (Nat.add 0 i) 2)) H=_;congr 2;show(0+i)*2=i*2;omega
  ·have ex:(vs.map encV)[i]?=some (encV x):=by rw[List.getElem?_map,e];rfl
   have hf:=qY (sz:=2) (fun y hy=>(o1 y hy).1) ex;have hi:i<(vs.map encV).length:=(wah.1 ex).1;have hl:=gY (fun y hy=>(o1 y hy).1);rw[jz,hH k hlt,hk,aF,po,tN _ _ _ (by rw[hl];omega),hf];rfl
  ·cases m with
   |zero=>rfl
   |succ m=>
    show cond (Nat.ble b k) _ _=_;have:Nat.ble b k=false:=by
     cases hb':Nat.ble b k with
     |false=>rfl
     |true=>exact absurd (eG hb') (by omega)
    rw[this];rfl
theorem YX (b:Nat)(h:AH):Rd encV 2 b h .nl []:=⟨fun h=>rfl,fun i x e=>by simp at e,rfl,rfl,fun m h b _=>fH m b⟩
theorem mE (vs:List LV):AV.ip (vs.map encV)=vs.map encV:=by
 induction vs with
 |nil=>rfl
 |cons x l ih=>rw[List.map_cons,AV.ip,ih];rfl
theorem nA (c:Int)(vs:List LV):Lv (.agg [wt c,.ls (vs.map encV)]) ⟨c,vs⟩:=⟨⟨_,rfl,by rw[AV.norm,mE],rfl,rfl,fun m h b=>zH m b _,fun b h=>Rd.ls ct (fun _=>rfl) vs,fun i y e h=>aN ct e .i64 h⟩,fun V e=>by cases e;exact⟨Hx vs,fun _=>rfl⟩⟩
theorem iR (c:Int):Lv (.agg [wt c,.nl]) ⟨c,[]⟩:=⟨⟨_,rfl,by simp[AV.norm],rfl,rfl,fun m h b=>fH m b,YX,fun i y e h=>by simp at e⟩,fun V e=>by cases e;exact⟨⟨fun _=>rfl,fun i y e=>by simp at e,fun h hne=>absurd rfl hne,rfl,rfl,by simp[AV.beq]⟩,fun _=>rfl⟩⟩
theorem vJ (m:Nat)(h:AH)(b:Nat)(x:LV):frz m h b (encV x)=encV x:=by
 cases m with
 |zero=>rfl
 |succ m=>unfold encV;rw[cw];simp only[List.map_cons,List.map_nil,bY]
theorem Yd (call:aG)(n:Nat)(V:AV)(_hc:V.cells=[V])(_hl:V.lies=true)(h:AH)(hb:gU ⟨h.z,h.low,h.objs⟩ 1 V=.val (.ptr h.z 0 0) (AH.new ⟨h.z,h.low,h.objs⟩ (.box [V]))):
  ∃v h',dZ EF call n 210 [V] .no h=some (.ret v,.no,h')/\v=.fn 254 [] [.ptr h.z 0 0]/\h'.z=h.z+1/\h'.low=h.low/\h'.get h.z=some (.box [V])/\∀k,k<h.z->h'.get k=h.get k:=by
 refine nw cf210 (by rfl) ?_;unfold b210;have hh:h=⟨h.z,h.low,h.objs⟩:=rfl;rw[hh];simp only[go_sem,simprocAttr,hb,Qq];refine⟨rfl,rfl,.inr rfl,_,by simp only[go_sem,simprocAttr,r210];rfl,rfl,rfl,rfl,?_,fun k hk=>?_⟩
 ·simp only[go_sem,simprocAttr]
 ·rw[cp,Tr.cA _ _ (by omega)]
theorem c210 {K:aG}(hK:jR K)(m:Nat)(km:Nat)(h:AH):∃h',cK K (m+1) (.fn 210 [] []) [.map km] .no h=some (.ret (.fn 254 [] [.ptr h.z 0 0]),.no,h')/\h'.z=h.z+1/\h'.low=h.low/\h'.get h.z=some (.box [.map km])/\∀k,k<h.z->h'.get k=h.get k:=by
 rw[eV hK _ 210];obtain⟨v,h',e,rfl,r⟩:=Yd (cK K m) 30000 (.map km) rfl rfl h rfl;exact⟨h',e,r⟩
def dg (L:Es):List Int:=FG (L.map (·.1))
def lvs (L:Es)(l:List Int):List LV:=l.map fun i=>⟨i,(look L i).getD 0⟩
def Uy (c:Int)(vs:List LV):LL×Int:=cond (big ⟨c,vs⟩) (⟨0,[]⟩,15) (⟨cond (Fz ⟨c,vs⟩) 0 c,vs⟩,0)
def tW (c:Int)(L:Es):LL×Int:=Uy c (lvs L (dg L))
def tQ (r:LL×Int)(v:AV):Prop:=∃a,v=.tup [a,wt r.2]/\Lv a r.1
def I167 (ks _km:Nat)(c:Int)(L:Es)(h0:AH)(j:Nat)(fr:AF)(h:AH):Prop:=∃tm m v,m+j=(dg L).length/\fr=⟨tm,⟨[],.no,none,167⟩⟩/\
  h0.z+2<=h.z/\h0.z<=h.low/\(∀k,k<h0.z->h.get k=h0.get k)/\h.get h0.z=some (.box [wt 0,.nl])/\h.get (h0.z+1)=some (.box [wt c,v])/\
  Own (h0.z+2) 2 true h v ((lvs L ((dg L).take m)).map encV)/\
  nth tm 0=.ptr ks 0 0/\nth tm 2=.ptr h0.z 0 0/\nth tm 4=.ptr (h0.z+1) 0 0/\nth tm 17=.ls ((dg L).map AG.dF)/\nth tm 18=wt ((dg L).length:Int)/\nth tm 19=wt (m:Int)
theorem bS (h:AH)(k:IntKind)(x y:Int):cP h [wt y,.nl] [(0,1,.int k x)]=.val (.agg [.int k x,.nl]) h:=(rfl)
theorem bR (h:AH)(k k':IntKind)(x y a b:Int):cP h [wt a,wt b] [(0,1,.int k x),(1,1,.int k' y)]=.val (.agg [.int k x,.int k' y]) h:=(rfl)
theorem CE:∀{L:Es} {i:Int},i∈L.map (·.1)->∃o,look L i=some o
 |[],i,h=>by simp at h
 |e::L,i,h=>by
  rw[look];by_cases hi:i=e.1
  ·exact⟨e.2,by rw[wae hi]⟩
  ·rw[wad hi];rw[List.map_cons,List.mem_cons]at h;exact CE (h.resolve_left hi)
theorem xQ {L:Es}{i:Int}(h:i∈dg L):∃o,look L i=some o:=CE ((List.mergeSort_perm _ _).mem_iff.1 h)
theorem c167 {K:aG}(hK:jR K)(m:Nat)(ks km:Nat)(c:Int)(L:Es)(h:AH)(hs:sb ks km c L h)(hl:L.length<30000)
  (h209:∀(H:AH) kb,H.get kb=some (.box [.map km])->H.get km=some (.map (mp L))->kb<H.z->cK K (m+6) (.fn 209 [] []) [.fn 254 [] [.ptr kb 0 0]] .no H=some (.ret (.ls ((dg L).map AG.dF)),.no,H)) :
  ∃v h',dZ EF (cK K (m+6)) 30000 167 [.ptr ks 0 0] .no h=some (.ret v,.no,h')/\Gx (tQ (tW c L)) h v h':=by
 obtain⟨g1,g2,l1,l2,ne⟩:=hs;have hlk:(dg L).length=L.length:=by unfold dg;rw[(Wp _).2,waa]
 refine eU cf167 (fg _) ?_;unfold b167;have g1':h.objs.get ks=some (.box [.map km,wt c]):=g1;have g2':h.objs.get km=some (.map (mp L)):=g2;have n1:¬(ks=h.z):=by omega
 have n2:¬(ks=h.z+1):=by omega
 have n3:¬(km=h.z):=by omega
 have n4:¬(km=h.z+1):=by omega
 have n5:¬(h.z=h.z+1):=by omega
 simp only[go_sem,simprocAttr,QT,n1,g1',bS,QU];obtain⟨ob,hob⟩:∃ob,ob=((h.objs.put h.z (.box [wt 0,.nl])).put (h.z+1) (.box [wt 0,.nl])).put (h.z+1) (.box [wt c,.nl]):=⟨_,rfl⟩
 rw[<-hob];have G1:ob.get ks=some (.box [.map km,wt c]):=by simp only[hob,go_sem,simprocAttr,n1,n2,g1']
 have G2:ob.get km=some (.map (mp L)):=by simp only[hob,go_sem,simprocAttr,n3,n4,g2']
 have G3:ob.get h.z=some (.box [wt 0,.nl]):=by simp only[hob,go_sem,simprocAttr,n5]
 have G4:ob.get (h.z+1)=some (.box [wt c,.nl]):=by simp only[hob,go_sem,simprocAttr]
 have G5:∀k,k<h.z->ob.get k=h.objs.get k:=fun k hk=>by rw[hob,Tr.cA _ _ (by omega),Tr.cA _ _ (by omega),Tr.cA _ _ (by omega)]
 obtain⟨H2,e1,q1,q2,q3,q4⟩:=c210 hK (m+5) km ⟨h.z+1+1,gz (h.z+1) h.z,ob⟩;have q1:H2.z=h.z+1+1+1:=q1;have q2:H2.low=gz (h.z+1) h.z:=q2;have q4:∀k,k<h.z+1+1->H2.get k=ob.get k:=q4
 have e2:=h209 H2 (h.z+1+1) q3 (by rw[q4 km (by omega)];exact G2) (by omega);have hlen:∀H,lenOf (.ls ((dg L).map AG.dF)) H 1=some (dg L).length:=fun H=>by rw[dL,waa]
 simp only[go_sem,simprocAttr,G1,e1,e2,hlen];refine bD (I167 ks km c L h) (dg L).length (by omega) ⟨_,0,.nl,wac _,rfl,by omega,by rw[q2];exact(by(repeat' (first|assumption|exact Fv _|apply bo))<;>omega),fun k hk=>by rw[q4 k (by omega)];exact G5 k hk,by rw[q4 _ (by omega)];exact G3,by rw[q4 _ (by omega)];exact G4,fD _ _ _ _,by and_intros<;>simp only[go_sem,simprocAttr]⟩ ?_;rintro j fr H ⟨tm,q,v,hq,rfl,hn,hlo,hk,k1,k2,ho,t0,t2,t4,t17,t18,t19⟩;obtain⟨nx,lo,ob2⟩:=H;have hn:h.z+2<=nx:=hn;have hlo:h.z<=lo:=hlo;have k1:ob2.get h.z=some (.box [wt 0,.nl]):=k1;have k2:ob2.get (h.z+1)=some (.box [wt c,v]):=k2;have hks:ob2.get ks=some (.box [.map km,wt c]):=(hk ks l1).trans g1;have hkm:ob2.get km=some (.map (mp L)):=(hk km l2).trans g2;unfold TY;simp only[go_sem,simprocAttr,QW,t18,t19];refine bj (fun hlt=>?_) (fun hge=>?_)
 ·have hlt:q<(dg L).length:=by omega
  have hget:(dg L)[q]?=some (dg L)[q]:=wO hlt;have ha:=fun h=>aN (f:=AG.dF) (sz:=1) (fun _=>rfl) hget .i64 h
  have hw2:=aM q (by omega);obtain⟨o,hlook⟩:=xQ (List.getElem_mem hlt);have hlu:=xO (h:=⟨nx,lo,ob2⟩) (km:=km) hkm (dg L)[q] false;rw[hlook]at hlu;have hei:AG.dF (dg L)[q]=wt (dg L)[q]:=rfl;obtain⟨v',h',a1,a2,a3,a4,a5,a6,a7,a8⟩:=cV (bytes:=16) (z:=[wt 0,wt 0]) ho (by show h.z+2<=nx;omega) rfl (x:=encV ⟨(dg L)[q],o⟩) rfl rfl rfl (by simp[lvs];omega) (by omega);have a1:dO ⟨nx,lo,ob2⟩ 2 true [wt 0,wt 0] 16 v (.clip [.agg [wt (dg L)[q],wt o]])=some (v',h'):=a1;have ev:(lvs L ((dg L).take (q+1))).map encV=(lvs L ((dg L).take q)).map encV++[encV ⟨(dg L)[q],o⟩]:=by
   rw[fP hget];unfold lvs;rw[List.map_append,List.map_append];simp only[List.map_cons,List.map_nil,hlook,Option.getD_some]
  rw[<-ev]at a2;have rd:=qI a2;have hvc:=rd.cell;have hvl:=rd.lies;obtain⟨nx',lo',ob3⟩:=h';have a3:nx<=nx':=a3;have a4:∀k,k<h.z+2->ob3.get k=ob2.get k:=a4
  have b4:ob3.get (h.z+1)=some (.box [wt c,v]):=(a4 _ (by omega)).trans k2;have alo:h.z<=lo':=a5 h.z (by omega) hlo;have hlu':gZ ⟨nx,lo,ob2⟩ 1 (wt 0) false (.map km) (wt (dg L)[q])=some (wt o):=hlu;simp only[go_sem,simprocAttr,QX,t0,t4,t17,t19,ha,hei,k2,hks,hlu',bR,a1,b4,hvc,hvl,hw2];refine⟨j-1,by omega,_,q+1,v',by omega,rfl,by show h.z+2<=nx';omega,(by(repeat' (first|assumption|exact Fv _|apply bo))<;>omega),fun k hk'=>?_,?_,?_,?_,by and_intros<;>simp only[go_sem,simprocAttr,t0,t2,t4,t17,t18]⟩
  ·rw[cp,Tr.cA _ _ (by omega)];exact(a4 k (by omega)).trans (hk k hk')
  ·simp only[go_sem,simprocAttr,n5];exact(a4 _ (by omega)).trans k1
  ·simp only[go_sem,simprocAttr]
  ·exact bp a2 (Fv _) fun k h1 _=>by rw[cp,Tr.cA _ _ (by omega)];rfl
 ·have:q=(dg L).length:=by omega
  subst this;rw[List.take_length]at ho;have rd:=qI ho;have hvc:=rd.cell;have hvl:=rd.lies;have hvlen:(lvs L (dg L)).length<30000:=by simp only[lvs,waa];omega
  obtain⟨v9,nx9,m1,m2,m3⟩:=c199 hK (m+1) v c (lvs L (dg L)) ⟨nx,lo,ob2⟩ rd hvlen;have m1:nx<=nx9:=m1;rcases m3 with⟨mb,rfl⟩|⟨mb,rfl⟩
  ·simp only[go_sem,simprocAttr,FV,t4,k2,m2,t2,k1];refine ez (.inr rfl) (by(repeat' (first|assumption|exact Fv _|apply bo))<;>omega) (by show h.z<=nx9;omega) (by simp only[go_sem,simprocAttr,aey,t2];rfl) ⟨.agg [wt 0,.nl],?_,?_⟩
   ·rw[jW,cZ];simp only[List.map_cons,List.map_nil,cw,bY,fH,tW,Uy,mb,cond_true]
   ·rw[show(tW c L).1=⟨0,[]⟩ by simp only[tW,Uy,mb,cond_true]];exact iR 0
  ·simp only[go_sem,simprocAttr,FV,t4,k2,m2,t2,k1];refine ez (.inr rfl) (by(repeat' (first|assumption|exact Fv _|apply bo))<;>omega) (by show h.z<=nx9;omega) (by simp only[go_sem,simprocAttr,aey,t2];rfl) ?_;rw[jW,cZ];simp only[List.map_cons,List.map_nil,cw,bY];have er:tW c L=(⟨cond (Fz ⟨c,lvs L (dg L)⟩) 0 c,lvs L (dg L)⟩,0):=by simp only[tW,Uy,mb,cond_false]
   rw[er];refine⟨_,rfl,?_⟩;have ho':∀x lo',Own (h.z+2) 2 true ⟨nx9,lo',ob2.put h.z x⟩ v ((lvs L (dg L)).map encV):=fun x lo'=>bp ho m1 fun k h1 _=>by rw[cp,Tr.cA _ _ (by omega)];rfl
   rcases own_frzB (m:=1) (fb:=h.z) (ho' _ _) (by omega) (fun e=>by cases e) (fun x hx=>by obtain⟨y,_,rfl⟩:=List.mem_map.1 hx;exact vJ _ _ _ _) with⟨_,e0,ef⟩|ef
   ·rw[ef];have e0:lvs L (dg L)=[]:=by simpa using e0
    rw[e0];exact iR _
   ·rw[ef];exact nA _ _
theorem cfE (f:Nat):EF.cf f=EI.cf f:=rfl
structure RdL (b:Nat)(h0:AH)(V:AV)(ls:List LL):Prop where
 len:∀h,lenOf V h 1=some ls.length
 get:∀(i:Nat) x,ls[i]?=some x->∃p a,Lv a x/\∀h:AH,(∀k,k<b->h.get k=h0.get k)->cz V h 2 (wt (i:Int))=.val p h/\dH p h true 2=some a
 cell:V.cells=[V]
 lies:V.lies=true
theorem RdL.mono {b b':Nat}{h0 h1:AH}{V:AV}{l:List LL}(r:RdL b h0 V l)(hb:b<=b')(hg:∀k,k<b->h1.get k=h0.get k):RdL b' h1 V l:=
 ⟨r.len,fun i x e=>by
  obtain⟨p,a,hl,hp⟩:=r.get i x e;exact⟨p,a,hl,fun h hk=>hp h fun k hk'=>(hk k (by omega)).trans (hg k hk')⟩,r.cell,r.lies⟩
structure KV (K:aG):Prop where
 r135:∀a x h,Lv a x->x.v.length<9000->K (.fn 135 [] []) [a] .no h=some (.ret (.bool (vl x)),.no,h)
 r21:∀a x h,Lv a x->x.v.length<9000->K (.fn 21 [] []) [a] .no h=some (.ret (.bool (vl x)),.no,h)
theorem c208 {K:aG}(hK:jR K)(hv:KV K)(m:Nat)(a:AV)(x:LL)(h:AH)(ha:Lv a x)(hl:x.v.length<9000):
  ∃nx,h.z<=nx/\cK K (m+1) (.fn 208 [] []) [a] .no h=some (.ret (.bool (!vl x)),.no,⟨nx,h.low,h.objs⟩):=by
 have e1:=fun h=>dQ (hv.r135 a x h ha hl) m
 obtain⟨V,rfl,hn,hc,hli,hfz,hr,hia⟩:=ha.ex;rw[eV hK _ 208];have key:∃v h',dZ EF (cK K m) 30000 208 [.agg [wt x.c,V]] .no h=some (.ret v,.no,h')/\Gx (fun v=>v=.bool (!vl x)) h v h':=by
  refine eU cf208 (fg _) ?_;unfold b208;simp only[go_sem,simprocAttr,Qr,e1];exact ez (.inr rfl) (Fv _) (by show h.z<=h.z+1;omega) (by simp only[go_sem,simprocAttr,r208];rfl) (by rw[gP,eN])
 obtain⟨v,h',e,g⟩:=key;obtain⟨nx,h1,rfl⟩:=iH g;obtain⟨rfl,_⟩:=g;exact⟨nx,h1,e⟩
def I68F (V:AV)(ls:List LL)(f:AV)(p:LL->Bool)(b:Nat)(ob:Tr eI)(j:Nat)(fr:AF)(h:AH):Prop:=∃tm m nx,m+j=ls.length/\fr=⟨tm,⟨[],.no,none,68⟩⟩/\h=⟨nx,b,ob⟩/\b<=nx/\
  nth tm 0=V/\nth tm 1=f/\nth tm 7=wt (ls.length:Int)/\nth tm 8=wt (m:Int)/\∀(i:Nat) x,i<m->ls[i]?=some x->p x=false
theorem XY (call:aG)(n:Nat)(V:AV)(ls:List LL)(f:AV)(p:LL->Bool)(h:AH)(hV:RdL h.z h V ls)(hn:ls.length<n)(hl:ls.length<9223372036854775807)
  (hf:∀(i:Nat) x a nx,ls[i]?=some x->Lv a x->h.z<=nx->∃nx',nx<=nx'/\call f [a] .no ⟨nx,h.z,h.objs⟩=some (.ret (.bool (p x)),.no,⟨nx',h.z,h.objs⟩)) :
  ∃v h',dZ EF call n 68 [V,f] .no h=some (.ret v,.no,h')/\Gx (fun v=>∃e:Int,v=wt e/\decide (0<=e)=ls.any p) h v h':=by
 refine eU ((cfE 68).trans aeR) (fg _) ?_;unfold b68;simp only[go_sem,simprocAttr,Mg,hV.len];refine bD (I68F V ls f p h.z h.objs) ls.length hn ⟨_,0,_,wac _,rfl,rfl,Fv _,by simp only[go_sem,simprocAttr],by simp only[go_sem,simprocAttr],by simp only[go_sem,simprocAttr],by simp only[go_sem,simprocAttr],fun i x hi=>absurd hi (by omega)⟩ ?_;rintro j fr H ⟨tm,m,nx,hm,rfl,rfl,hnx,t0,t1,t7,t8,hp⟩;unfold Mz;simp only[go_sem,simprocAttr,Mi,t7,t8];refine bj (fun hlt=>?_) (fun hge=>?_)
 ·have hlt:m<ls.length:=by omega
  have hget:ls[m]?=some ls[m]:=wO hlt;obtain⟨p',a,hla,hp'⟩:=hV.get m _ hget;have ha:=(hp' ⟨nx,h.z,h.objs⟩ (fun _ _=>rfl)).1;have hb:=(hp' ⟨nx,h.z,h.objs⟩ (fun _ _=>rfl)).2;have hw2:=aM m (by omega);obtain⟨nx',hle,e1⟩:=hf m _ a nx hget hla hnx;simp only[go_sem,simprocAttr,EP,ER,t0,t1,t8,ha,hb,e1];refine bX (fun hb=>?_) (fun hb=>?_)
  ·simp only[go_sem,simprocAttr];refine ez (.inr rfl) (Fv _) (by show h.z<=nx';omega) (by simp only[go_sem,simprocAttr,r68];rfl) ⟨(m:Int),by rw[gP,bY],?_⟩;rw[rA hget hb];simp
  ·simp only[go_sem,simprocAttr,hw2,t8];refine⟨j-1,by omega,_,m+1,nx',by omega,rfl,rfl,by omega,by simp only[go_sem,simprocAttr,t0],by simp only[go_sem,simprocAttr,t1],by simp only[go_sem,simprocAttr,t7],by simp only[go_sem,simprocAttr],fun i x hi hx=>?_⟩;by_cases hi':i<m
   ·exact hp i x hi' hx
   ·obtain rfl:i=m:=by omega
    rw[hget]at hx;cases hx;exact hb
 ·have:m=ls.length:=by omega
  subst this;simp only[go_sem,simprocAttr,Mh];refine ez (.inr rfl) (Fv _) hnx (by simp only[go_sem,simprocAttr,r68];rfl) ⟨-1,by rw[gP,bY],?_⟩;rw[oD (fun i x hi hx=>hp i x hi hx)];rfl
theorem Jk {α:Type}(p:α->Bool):∀l:List α,(!(l.any fun x=>!p x))=l.all p
 |[]=>rfl
 |a::l=>by
  have:=Jk p l;rw[List.any_cons,List.all_cons,Bool.not_or,this,Bool.not_not]
theorem c163 {K:aG}(hK:jR K)(hv:KV K)(m:Nat)(V:AV)(ls:List LL)(h:AH)(hV:RdL h.z h V ls)(hl:ls.length<30000)(hx:∀x∈ls,x.v.length<9000):
  ∃nx,h.z<=nx/\cK K (m+4) (.fn 163 [] []) [V] .no h=some (.ret (.bool (ls.all vl)),.no,⟨nx,h.low,h.objs⟩):=by
 rw[eV hK _ 163];have k68:∀nx lo,h.z<=nx->∃e:Int,∃nx',nx<=nx'/\cK K (m+2) (.fn 68 [] []) [V,.fn 208 [] []] .no ⟨nx,lo,h.objs⟩=some (.ret (wt e),.no,⟨nx',lo,h.objs⟩)/\decide (0<=e)=ls.any (fun x=>!vl x):=by
  intro nx lo hn;rw[eV hK _ 68];obtain⟨v,h',e,g⟩:=XY (cK K (m+1)) 30000 V ls (.fn 208 [] []) (fun x=>!vl x) ⟨nx,lo,h.objs⟩ (hV.mono hn (fun _ _=>rfl)) hl (by omega)
   (fun i x a nx0 hi ha hn0=>c208 hK hv m a x ⟨nx0,nx,h.objs⟩ ha (hx x (wS hi)))
  obtain⟨nx',h1,rfl⟩:=iH g;obtain⟨⟨e',rfl,he⟩,_⟩:=g;exact⟨e',nx',h1,e,he⟩
 have k25:∀nx lo,h.z<=nx->∃nx',nx<=nx'/\cK K (m+3) (.fn 25 [] []) [V,.fn 208 [] []] .no ⟨nx,lo,h.objs⟩=some (.ret (.bool (ls.any fun x=>!vl x)),.no,⟨nx',lo,h.objs⟩):=by
  intro nx lo hn;rw[eV hK _ 25];obtain⟨e,nx1,h1,e1,he⟩:=k68 nx nx hn;have key:∃v h',dZ EF (cK K (m+2)) 30000 25 [V,.fn 208 [] []] .no ⟨nx,lo,h.objs⟩=some (.ret v,.no,h')/\Gx (fun v=>v=.bool (ls.any fun x=>!vl x)) ⟨nx,lo,h.objs⟩ v h':=by
   refine eU ((cfE 25).trans aeS) (fg _) ?_;unfold b25;simp only[go_sem,simprocAttr,Mm,e1,he];exact ez (.inr rfl) (Fv _) h1 (by simp only[go_sem,simprocAttr,r25];rfl) (by rw[gP,eN])
  obtain⟨v,h',e,g⟩:=key;obtain⟨nx',h2,rfl⟩:=iH g;obtain⟨rfl,_⟩:=g;exact⟨nx',h2,e⟩
 obtain⟨nx1,h1,e1⟩:=k25 h.z h.z (Fv _);have hall:(!(ls.any fun x=>!vl x))=ls.all vl:=Jk vl ls;have key:∃v h',dZ EF (cK K (m+3)) 30000 163 [V] .no h=some (.ret v,.no,h')/\Gx (fun v=>v=.bool (ls.all vl)) h v h':=by
  refine eU cf163 (fg _) ?_;unfold b163;simp only[go_sem,simprocAttr,Re,e1];exact ez (.inr rfl) (Fv _) h1 (by simp only[go_sem,simprocAttr,r163];rfl) (by rw[gP,eN,hall])
 obtain⟨v,h',e,g⟩:=key;obtain⟨nx',h2,rfl⟩:=iH g;obtain⟨rfl,_⟩:=g;exact⟨nx',h2,e⟩
