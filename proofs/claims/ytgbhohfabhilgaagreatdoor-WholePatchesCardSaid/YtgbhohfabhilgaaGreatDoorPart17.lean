import Derived.Test.YtgbhohfabhilgaaGreatDoorPart16
set_option maxRecDepth 100000
set_option maxHeartbeats 8000000
set_option linter.unusedVariables false
set_option linter.unusedSimpArgs false
namespace Go.Proofs.YtgbhohfabhilgaaGreatDoor
section
open Go.RowKit
namespace M
structure dL where
 t:Nat
 f:Nat
 n:Nat
def vY(x:dL):List (Nat×Nat):=(List.range x.n).map λk=>(x.t,x.f+k)
def jv(l:List dL):List (Nat×Nat):=l.flatMap vY
theorem jc(x:dL):(vY x).length=x.n:=by simp[vY]
theorem nD(x:dL)(l:List dL):jv (x::l)=vY x++jv l:=rfl
theorem AZ(l l2:List dL):jv (l++l2)=jv l++jv l2:=by unfold jv;rw[ag_]
theorem Tt(x:dL)(u n:Nat)(h:u+n<=x.n):vY ⟨x.t,x.f+u,n⟩=((vY x).drop u).take n:=by
 apply aj9
 .rw[jc,agB,agp,jc];dsimp only;omega
 intro i h1 h2;simp only[vY,aiK,aj3,List.getElem_take,List.getElem_drop];congr 1;omega
structure Rd where
 em:List dL
 l:List dL
 u:Nat
 a:Nat
def kF(x:dL)(u a T:Nat):Nat:=min (x.n-u) (T-a)
def lK(x:dL)(u a T:Nat):List dL:=if 0<kF x u a T then[⟨x.t,x.f+u,kF x u a T⟩]else[]
def aY:List dL->Nat->Nat->Nat->Rd
 | [],u,a,_=>⟨[],[],u,a⟩
 |x::l,u,a,T=>if a<T then(if u+kF x u a T=x.n then(let r:=aY l 0 (a+kF x u a T) T;⟨lK x u a T++r.em,r.l,r.u,r.a⟩)else⟨lK x u a T,x::l,u+kF x u a T,a+kF x u a T⟩)else⟨[],x::l,u,a⟩
def Pz:List dL->Nat->Prop
 | [],u=>u=0
 |x::_,u=>u<=x.n
theorem aa7(x:dL)(u a T:Nat)(hu:u<=x.n):jv (lK x u a T)=((vY x).drop u).take (T-a):=by
 have hm:((vY x).drop u).take (T-a)=((vY x).drop u).take (kF x u a T):=by
  unfold kF;rcases Nat.le_total (x.n-u) (T-a)with h|h
  .rw[aio h,agI (by rw[agp,jc];exact h),agI (by rw[agp,jc];exact af7 _)]
  rw[akd h]
 rw[hm];unfold lK;have hle:kF x u a T<=x.n-u:=akf _ _;split
 .show vY ⟨x.t,x.f+u,kF x u a T⟩++[]=_;rw[agi,Tt x u _ (by omega)]
 rw[show kF x u a T=0 by omega];rfl
theorem WG(x:dL)(u a T:Nat):(lK x u a T).length<=1/\∀y∈lK x u a T,0<y.n:=by
 unfold lK;split
 .exact⟨by simp,λy hy=>by simp at hy;subst hy;assumption⟩
 exact⟨by simp,λy hy=>by simp at hy⟩
theorem nE:∀(l:List dL) (u a T:Nat),Pz l u->
    jv (aY l u a T).em=((jv l).drop u).take (T-a)/\(jv (aY l u a T).l).drop (aY l u a T).u=((jv l).drop u).drop (T-a)/\(aY l u a T).a=a+min (T-a) ((jv l).length-u)/\
    (∀y∈(aY l u a T).em,0<y.n)/\(aY l u a T).em.length+(aY l u a T).l.length<=l.length+1/\Pz (aY l u a T).l (aY l u a T).u
 | [],u,a,T,h=>by
  have h0:u=0:=h
  subst h0
  simp[aY,jv,Pz]
 |x::l,u,a,T,h=>by
  have hu:u<=x.n:=h
  have hle:kF x u a T<=x.n-u:=akf _ _
  have hle2:kF x u a T<=T-a:=Nat.min_le_right _ _
  have he:=aa7 x u a T hu
  obtain⟨l1,l2⟩:=WG x u a T
  have hdrop:(jv (x::l)).drop u=(vY x).drop u++jv l:=by rw[nD,ahj (by rw[jc];exact hu)]
  have hlen:(jv (x::l)).length=x.n+(jv l).length:=by rw[nD,af8,jc]
  have hdl:((vY x).drop u).length=x.n-u:=by rw[agp,jc]
  unfold aY
  by_cases ha:a<T
  .rw[af5 ha]
   by_cases hf:u+kF x u a T=x.n
   .rw[af5 hf]
    dsimp only
    have hn:kF x u a T=x.n-u:=by omega
    obtain⟨i1,i2,i3,i4,i5,i6⟩:=nE l 0 (a+kF x u a T) T (by cases l<;>simp[Pz])
    have hT:T-(a+kF x u a T)=T-a-(x.n-u):=by omega
    rw[hT]at i1 i2 i3
    rw[agj]at i1 i2
    refine⟨?_,?_,?_,?_,?_,i6⟩
    .rw[AZ,he,i1,hdrop,aiL,hdl]
    .have hz:((vY x).drop u).drop (T-a)=[]:=ag9 (by rw[hdl];omega)
     rw[i2,hdrop,ajD,hz,agH,hdl]
    .rw[i3,hlen];omega
    .intro y hy
     rcases ags.1 hy with hy|hy
     .exact l2 y hy
     .exact i4 y hy
    .rw[af8,agc];omega
   .rw[af4 hf]
    dsimp only
    have hn:kF x u a T=T-a:=by unfold kF at hf hle⊢;omega
    refine⟨?_,?_,?_,l2,by rw[agc];omega,show u+kF x u a T<=x.n by omega⟩
    .rw[he,hdrop,ahP (by rw[hdl];omega)]
    .rw[hn,ahn,akm]
    .rw[hlen];omega
  .rw[af4 ha]
   dsimp only
   have hT:T-a=0:=by omega
   rw[hT]
   refine⟨rfl,rfl,by omega,λy hy=>by simp at hy,by simp,hu⟩
def iA{α:Type}(ins:bH->List α)(t:List α):Nat->List bH->List α
 |f,[]=>t.drop f
 |f,c::L=>(t.drop f).take (c.pos.toNat-f)++(ins c++iA ins t (c.pos+c.n).toNat L)
theorem CP{α:Type}{ins:bH->List α}{E:List En}{t:List α}{y:Int}:∀(L:List bH) (last s:Int) (f:Nat),(∀c∈L,(ins c).length=(txt E c.id).length)->bC t.length last L=true->(f:Int)<=last+1->(f:Int)<=y->y<t.length->(ig E y s L).2.2=true->
    (f:Int)+s<=(ig E y s L).1/\(iA ins t f L)[((ig E y s L).1-(f+s)).toNat]?=t[y.toNat]?
 | [],last,s,f,_,_,_,hfy,hyt,_=>by
  show(f:Int)+s<=y+s/\(t.drop f)[(y+s-(f+s)).toNat]?=t[y.toNat]?
  refine⟨by omega,?_⟩
  rw[ahL]
  congr 1;omega
 |c::L,last,s,f,hi,h,hf,hfy,hyt,hk=>by
  obtain⟨g1,g2,g3,g4,g5,g6⟩:=gG h
  have hic:=hi c (by simp)
  rw[kW]at hk⊢
  show _/\((t.drop f).take (c.pos.toNat-f)++(ins c++iA ins t (c.pos+c.n).toNat L))[_]?=_
  by_cases h1:c.pos>y
  .rw[af5 h1]
   dsimp only
   refine⟨by omega,?_⟩
   rw[agV (by rw[agB,agp];omega),List.getElem?_take_of_lt (by omega),ahL]
   congr 1;omega
  .rw[af4 h1]at hk⊢
   by_cases h2:y<c.pos+c.n
   .rw[af5 h2]at hk;cases hk
   .rw[af4 h2]at hk⊢
    obtain⟨i1,i2⟩:=CP (ins:=ins) (E:=E) (t:=t) (y:=y) L (c.pos+c.n) (s+((txt E c.id).length-c.n)) (c.pos+c.n).toNat (λd hd=>hi d (by simp[hd])) g5 (by omega) (by omega) hyt hk
    have hlo:((c.pos+c.n).toNat:Int)=c.pos+c.n:=by omega
    rw[hlo]at i1 i2
    refine⟨by omega,?_⟩
    rw[agN (by rw[agB,agp];omega),agB,agp,agN (by omega),<-i2]
    congr 1;omega
theorem xO{α:Type}{ins:bH->List α}{E:List En}{t:List α}:∀(L:List bH) (last:Int) (f:Nat),(∀c∈L,(ins c).length=(txt E c.id).length)->bC t.length last L=true->(f:Int)<=last+1->f<=t.length->((iA ins t f L).length:Int)=t.length-f-fZ L+dN E L
 | [],last,f,_,_,_,h=>by
  show((t.drop f).length:Int)=_
  rw[agp]
  simp only[fZ,dN];omega
 |c::L,last,f,hi,h,hf,hft=>by
  obtain⟨g1,g2,g3,g4,g5,g6⟩:=gG h
  have hic:=hi c (by simp)
  have ih:=xO (ins:=ins) (E:=E) (t:=t) L (c.pos+c.n) (c.pos+c.n).toNat (λd hd=>hi d (by simp[hd])) g5 (by omega) (by omega)
  show(((t.drop f).take (c.pos.toNat-f)++(ins c++iA ins t (c.pos+c.n).toNat L)).length:Int)=_
  rw[af8,af8,agB,agp]
  have e1:fZ (c::L)=c.n+fZ L:=rfl
  have e2:dN E (c::L)=(txt E c.id).length+dN E L:=rfl
  rw[e1,e2]
  omega
def uM(len:Nat):Nat->List dL->Prop
 |_,[]=>True
 |dn,x::l=>0<x.n/\if x.t=0 then dn<=x.f/\x.f+x.n<=len/\uM len (x.f+x.n) l else uM len dn l
def LK(E:List En)(dn f k:Nat)(c:bH):Prop:=c.pos=dn/\c.n=((f-dn:Nat):Int)/\(txt E c.id).length=k/\c.id<=E.length/\(aF E c.id).even=true/\(c.id=0->k=0)
def Col(E:List En)(len:Nat):Nat->Nat->List dL->List bH->Prop
 |dn,k,[],M=>if dn<len\/0<k then ∃c,M=[c]/\LK E dn len k c else M=[]
 |dn,k,x::l,M=>if x.t=0 then(if dn<x.f\/0<k then ∃c M2,M=c::M2/\LK E dn x.f k c/\Col E len (x.f+x.n) 0 l M2 else Col E len (x.f+x.n) 0 l M)else Col E len dn (k+x.n) l M
theorem Col.zV{E:List En}{len:Nat}:∀{l:List dL} {dn k:Nat} {M:List bH},Col E len dn k l M->zZ E M
 | [],dn,k,M,h=>by
  unfold Col at h
  split at h
  .obtain⟨c,rfl,hc⟩:=h
   intro d hd;simp at hd;subst hd;exact⟨hc.2.2.2.1,hc.2.2.2.2.1⟩
  .subst h;intro d hd;simp at hd
 |x::l,dn,k,M,h=>by
  unfold Col at h
  split at h
  .split at h
   .obtain⟨c,M2,rfl,hc,h2⟩:=h
    intro d hd
    rcases agm.1 hd with rfl|hd
    .exact⟨hc.2.2.2.1,hc.2.2.2.2.1⟩
    .exact h2.zV d hd
   .exact h.zV
  .exact h.zV
theorem Col.form{E:List En}{len:Nat}(hl:(len:Int)<=dX):∀{l:List dL} {dn k:Nat} {M:List bH} {last:Int},Col E len dn k l M->uM len dn l->dn<=len->last<dn-> -1<=last->
    bC len last M=true/\(dN E M:Int)-fZ M+(len-dn)=k+(jv l).length
 | [],dn,k,M,last,h,_,ha,hla,hl1=>by
  unfold Col at h
  split at h
  .rename_i hc0
   obtain⟨c,rfl,hp,hn,hk,hi,he,hz⟩:=h
   refine⟨?_,?_⟩
   .show(eQ len last c&&true)=true
    rw[Bool.and_true]
    unfold eQ
    simp only[agy,ahV,ahQ,ajs]
    refine⟨⟨dJ.2 ⟨by omega,hl,by omega,by omega,by omega,by omega⟩,by omega⟩,?_⟩
    rcases agP k with g|g
    .left;omega
    .right;intro h0;have:=hz h0;omega
   .show(((txt E c.id).length+0:Nat):Int)-(c.n+0)+(len-dn)=k+0
    rw[hk,hn];omega
  .subst h
   refine⟨rfl,?_⟩
   show((0:Nat):Int)-0+(len-dn)=k+0
   omega
 |x::l,dn,k,M,last,h,ho,ha,hla,hl1=>by
  obtain⟨hx0,ho⟩:=ho
  have hex:(jv (x::l)).length=x.n+(jv l).length:=by rw[nD,af8,jc]
  unfold Col at h
  split at h
  .rename_i ht
   rw[af5 ht]at ho
   obtain⟨o1,o2,o3⟩:=ho
   split at h
   .rename_i hc0
    obtain⟨c,M2,rfl,⟨hp,hn,hk,hi,he,hz⟩,h2⟩:=h
    obtain⟨i1,i2⟩:=h2.form (last:=c.pos+c.n) hl o3 (by omega) (by omega) (by omega)
    refine⟨?_,?_⟩
    .show(eQ len last c&&bC len (c.pos+c.n) M2)=true
     rw[i1,Bool.and_true]
     unfold eQ
     simp only[agy,ahV,ahQ,ajs]
     refine⟨⟨dJ.2 ⟨by omega,hl,by omega,by omega,by omega,by omega⟩,by omega⟩,?_⟩
     rcases agP k with g|g
     .left;omega
     .right;intro h0;have:=hz h0;omega
    .show(((txt E c.id).length+dN E M2:Nat):Int)-(c.n+fZ M2)+(len-dn)=_
     rw[hk,hn,hex];omega
   .rename_i hc0
    obtain⟨i1,i2⟩:=h.form (last:=last) hl o3 (by omega) (by omega) hl1
    exact⟨i1,by rw[hex];omega⟩
  .rename_i ht
   rw[af4 ht]at ho
   obtain⟨i1,i2⟩:=h.form hl ho ha hla hl1
   exact⟨i1,by rw[hex];omega⟩
theorem Col.ahead{E:List En}{len:Nat}{y s:Int}:∀{l:List dL} {dn k:Nat} {M:List bH},Col E len dn k l M->uM len dn l->y<dn->ig E y s M=(y+s,y+s,true)
 | [],dn,k,M,h,_,hy=>by
  unfold Col at h
  split at h
  .obtain⟨c,rfl,hp,-⟩:=h
   rw[kW,af5 (by omega)]
  .subst h;rfl
 |x::l,dn,k,M,h,ho,hy=>by
  obtain⟨hx0,ho⟩:=ho
  unfold Col at h
  split at h
  .rename_i ht
   rw[af5 ht]at ho
   split at h
   .obtain⟨c,M2,rfl,⟨hp,-⟩,-⟩:=h
    rw[kW,af5 (by omega)]
   .exact h.ahead ho.2.2 (by omega)
  .rename_i ht
   rw[af4 ht]at ho
   exact h.ahead ho hy
theorem Col.map{E:List En}{len:Nat}{y:Nat}:∀{l:List dL} {dn k w:Nat} {M:List bH} {s:Int},Col E len dn k l M->uM len dn l->(jv l)[w]?=some (0,y)->dn<=y/\ig E y s M=(dn+s+k+w,dn+s+k+w,true)
 | [],dn,k,w,M,s,_,_,hw=>by simp[jv]at hw
 |x::l,dn,k,w,M,s,h,ho,hw=>by
  obtain⟨hx0,ho⟩:=ho
  rw[nD]at hw
  unfold Col at h
  by_cases hwn:w<x.n
  .rw[agV (by rw[jc];exact hwn)]at hw
   have hxy:x.t=0/\x.f+w=y:=by
    unfold vY at hw;rw[ahg,akL hwn]at hw;simpa using hw
   rw[af5 hxy.1]at h ho;obtain⟨o1,o2,o3⟩:=ho;refine⟨by omega,?_⟩;split at h
   .obtain⟨c,M2,rfl,⟨hp,hn,hk,-⟩,h2⟩:=h;rw[kW,af4 (by omega),af4 (by omega),h2.ahead o3 (by omega),hk,hn];simp only[agX,aht];omega
   .rw[h.ahead o3 (by omega)];simp only[agX,aht];omega
  .rw[agN (by rw[jc];omega),jc]at hw;split at h
   .rename_i ht;rw[af5 ht]at ho;obtain⟨o1,o2,o3⟩:=ho;split at h
    .obtain⟨c,M2,rfl,⟨hp,hn,hk,-⟩,h2⟩:=h;obtain⟨i1,i2⟩:=h2.map (s:=s+((txt E c.id).length-c.n)) o3 hw;refine⟨by omega,?_⟩;rw[kW,af4 (by omega),af4 (by omega),i2,hk,hn];simp only[agX,aht];omega
    .obtain⟨i1,i2⟩:=h.map (s:=s) o3 hw;refine⟨by omega,?_⟩;rw[i2];simp only[agX,aht];omega
   .rename_i ht;rw[af4 ht]at ho;obtain⟨i1,i2⟩:=h.map (s:=s) ho hw;refine⟨i1,?_⟩;rw[i2];simp only[agX,aht];omega
def kp(l:List (Nat×Nat)):List Nat:=l.filterMap λp=>if p.1=0 then some p.2 else none
theorem Gt(a b:List (Nat×Nat)):kp (a++b)=kp a++kp b:=by unfold kp;rw[List.filterMap_append]
theorem Tu(x:dL)(h:x.t=0):kp (vY x)=(List.range x.n).map λk=>x.f+k:=by
 unfold kp vY;rw[List.filterMap_map];have:((λp:Nat×Nat=>if p.1=0 then some p.2 else none) ∘λk=>(x.t,x.f+k))=λk=>some (x.f+k):=by funext k;simp[h]
 rw[this,<-List.filterMap_eq_map];rfl
theorem NC(x:dL)(h:x.t≠0):kp (vY x)=[]:=by
 unfold kp vY;rw[List.filterMap_map,List.filterMap_eq_nil_iff];intro a _;simp[h]
def fF(E:List En)(c:bH):List (Nat×Nat):=vY ⟨c.id,0,(txt E c.id).length⟩
theorem pQ(E:List En)(c:bH):(fF E c).length=(txt E c.id).length:=jc _
theorem WH(E:List En)(c:bH):kp (fF E c)=[]:=by
 by_cases h:c.id=0
 .unfold fF vY;rw[h,cZ];rfl
 exact NC _ h
theorem Gu{E:List En}{t:List (Nat×Nat)}{len:Int}:∀(L:List bH) (last:Int) (f:Nat),bC len last L=true->(f:Int)<=last+1->(kp (iA (fF E) t f L)).Sublist (kp (t.drop f))
 | [],_,f,_,_=>List.Sublist.refl _
 |c::L,last,f,h,hf=>by
  obtain⟨g1,g2,g3,g4,g5,g6⟩:=gG h
  show(kp ((t.drop f).take (c.pos.toNat-f)++(fF E c++iA (fF E) t (c.pos+c.n).toNat L))).Sublist _
  rw[Gt,Gt,WH,agH]
  have ih:=Gu (E:=E) (t:=t) L (c.pos+c.n) (c.pos+c.n).toNat g5 (by omega)
  have hd:t.drop (c.pos+c.n).toNat=((t.drop f).drop (c.pos.toNat-f)).drop c.n.toNat:=by
   rw[ahn,ahn];congr 1;omega
  have hs:(kp (t.drop (c.pos+c.n).toNat)).Sublist (kp ((t.drop f).drop (c.pos.toNat-f))):=by
   rw[hd];exact(List.drop_sublist _ _).filterMap _
  have e:kp (t.drop f)=kp ((t.drop f).take (c.pos.toNat-f))++kp ((t.drop f).drop (c.pos.toNat-f)):=by
   rw[<-Gt,ahr]
  rw[e];exact(List.Sublist.refl _).append (ih.trans hs)
theorem CQ{len:Nat}:∀(l:List dL) (dn:Nat),(∀y∈l,0<y.n)->(kp (jv l)).Pairwise (· < ·)->(∀a∈kp (jv l),dn<=a/\a<len)->uM len dn l
 | [],_,_,_,_=>trivial
 |x::l,dn,hn,hp,ha=>by
  have hx0:=hn x (by simp)
  rw[nD,Gt]at hp ha
  refine⟨hx0,?_⟩
  by_cases ht:x.t=0
  .rw[af5 ht]
   rw[Tu x ht]at hp ha
   obtain⟨p1,p2,p3⟩:=air.1 hp
   have m0:x.f∈(List.range x.n).map (λk=>x.f+k):=agz.2 ⟨0,ahN.2 hx0,by simp⟩
   have m1:x.f+(x.n-1)∈(List.range x.n).map (λk=>x.f+k):=agz.2 ⟨x.n-1,ahN.2 (by omega),rfl⟩
   have h0:=ha _ (ahd _ m0)
   have h1:=ha _ (ahd _ m1)
   refine⟨h0.1,by omega,CQ l _ (λy hy=>hn y (by simp[hy])) p2 (λa haa=>?_)⟩
   have:=p3 _ m1 a haa
   exact⟨by omega,(ha a (aiE _ haa)).2⟩
  .rw[af4 ht]
   rw[NC x ht,agH]at hp ha
   exact CQ l dn (λy hy=>hn y (by simp[hy])) hp ha
def gH(len:Nat):List (Nat×Nat):=vY ⟨0,0,len⟩
theorem jL(len:Nat):(gH len).length=len:=jc _
theorem Tv{len y:Nat}(h:y<len):(gH len)[y]?=some (0,y):=by
 unfold gH vY;rw[ahg,akL h];simp
theorem Tw(len:Nat):kp (gH len)=List.range len:=by
 unfold gH;rw[Tu _ rfl];simp
def nG(E:List En)(len:Nat)(p q:List bH):List (Nat×Nat):=iA (fF E) (iA (fF E) (gH len) 0 p) 0 q
theorem Jw{E:List En}{len:Nat}{n:Int}{p q:List bH}{l:List dL}(hp:bC len (-1) p=true)(hq:bC n (-1) q=true)(hl:jv l=nG E len p q)(hn:∀y∈l,0<y.n):uM len 0 l:=by
 have h1:=Gu (E:=E) (t:=gH len) p (-1) 0 hp (by omega);have h2:=Gu (E:=E) (t:=iA (fF E) (gH len) 0 p) q (-1) 0 hq (by omega);rw[agj]at h1 h2;have h3:(kp (jv l)).Sublist (List.range len):=by rw[hl,<-Tw];exact h2.trans h1
 exact CQ l 0 hn (List.pairwise_lt_range.sublist h3) (λa ha=>⟨agb _,ahN.1 (h3.subset ha)⟩)
theorem PD{E:List En}{len:Nat}{p q M:List bH}{l:List dL}{n nl:Int}(hp:gK E len p=(n,0))(hq:gK E n q=(nl,0))(hl:jv l=nG E len p q)(hn:∀y∈l,0<y.n)(hC:Col E len 0 0 l M):
    gK E len M=(nl,0)/\∀(x:Int) (r:Bool) (a b:Int),0<=x/\x<=len->Kw (z8 E 0 p) n len x r=(a,true)->Kw (z8 E 0 q) nl n a r=(b,true)->Kw (z8 E 0 M) nl len x r=(b,true):=by
 have hp0:(gK E len p).2=0:=by rw[hp]
 have hq0:(gK E n q).2=0:=by rw[hq]
 obtain⟨o1,o2,o3,o4,o5⟩:=qA hp0;obtain⟨u1,u2,u3,u4,u5⟩:=qA hq0;rw[hp]at o5;rw[hq]at u5;dsimp only at o5 u5;have Gv:=Jw o3 u3 hl hn;obtain⟨f1,f2⟩:=hC.form (last:= -1) (by unfold dX;omega) Gv (agb _) (by omega) (by omega);have hlp:=xO (ins:=fF E) (E:=E) (t:=gH len) p (-1) 0 (λc _=>pQ E c) (by rw[jL];exact o3) (by omega) (agb _);rw[jL]at hlp;have hnp:((iA (fF E) (gH len) 0 p).length:Int)=n:=by omega
 have hlq:=xO (ins:=fF E) (E:=E) (t:=iA (fF E) (gH len) 0 p) q (-1) 0 (λc _=>pQ E c) (by rw[hnp];exact u3) (by omega) (agb _);have hex:((jv l).length:Int)=nl:=by rw[hl];unfold nG;omega
 have hm:gK E len M=(nl,0):=by
  unfold gK wP;rw[af4 (show ¬¬((0:Int)<=(len:Int)/\(len:Int)<=dX) by unfold dX;omega),f1];simp only[ahv,ne_eq,not_true_eq_false,ahu];rw[af5 (by unfold dX;omega)];congr 1;omega
 refine⟨hm,?_⟩;have key:∀(y:Nat),y<len->(ig E y 0 p).2.2=true->(ig E (ig E y 0 p).1 0 q).2.2=true->ig E y 0 M=((ig E (ig E y 0 p).1 0 q).1,(ig E (ig E y 0 p).1 0 q).1,true):=by
  intro y hy k1 k2;obtain⟨i1,i2⟩:=CP (ins:=fF E) (E:=E) (t:=gH len) (y:=y) p (-1) 0 0 (λc _=>pQ E c) (by rw[jL];exact o3) (by omega) (by omega) (by rw[jL];omega) k1;obtain⟨c1,c2,c3⟩:=AY (E:=E) (y:=y) (len:=len) (by omega) p (-1) 0 o3;unfold plL at c2;rw[af5 k1]at c2;have hms:=jR E p 0;obtain⟨z,hz⟩:∃z:Nat,(ig E y 0 p).1=(z:Int):=⟨(ig E y 0 p).1.toNat,by omega⟩;rw[hz]at i1 i2 c2 k2⊢;obtain⟨j1,j2⟩:=CP (ins:=fF E) (E:=E) (t:=iA (fF E) (gH len) 0 p) (y:=z) q (-1) 0 0 (λc _=>pQ E c) (by rw[hnp];exact u3) (by omega) (by omega) (by rw[hnp];omega) k2;obtain⟨w,hw⟩:∃w:Nat,(ig E z 0 q).1=(w:Int):=⟨(ig E z 0 q).1.toNat,by omega⟩;rw[hw]at j1 j2⊢;have e1:((z:Int)-((0:Nat)+0:Int)).toNat=z:=by omega
  have e2:((w:Int)-((0:Nat)+0:Int)).toNat=w:=by omega
  rw[e1,aj6,Tv hy]at i2;rw[e2,aj6,i2]at j2;have hg:=(hC.map (y:=y) (w:=w) (s:=0) Gv (by rw[hl];exact j2)).2;rw[hg];simp only[agX,aht];omega
 intro x r a b hx ha hb;cases r with
 |true=>
  rw[Nu o3]at ha;rw[Nu f1];by_cases hxl:x=len
  .rw[af5 hxl]at ha⊢;simp only[agX]at ha;rw[Nu u3,af5 ha.1.symm]at hb;exact hb
  rw[af4 hxl]at ha⊢;simp only[agX]at ha;obtain⟨y,rfl⟩:∃y:Nat,x=(y:Int):=⟨x.toNat,by omega⟩;obtain⟨c1,c2,c3⟩:=AY (E:=E) (y:=y) (len:=len) (by omega) p (-1) 0 o3;have h3:=c3 ha.2;unfold plL at c2;rw[af5 ha.2]at c2;have hms:=jR E p 0;rw[Nu u3,af4 (by omega)]at hb;simp only[agX]at hb;rw[<-ha.1,<-h3]at hb;have k:=key y (by omega) ha.2 hb.2;have hlo:=(Gs (E:=E) (y:=y) p (-1) 0 0 o3 (by omega) (by omega)).1;obtain⟨d1,d2,d3⟩:=AY (E:=E) (y:=(ig E y 0 p).1) (len:=n) (by omega) q (-1) 0 u3;rw[k];dsimp only;rw[d3 hb.2,hb.1]
 |false=>
  rw[Nv o3]at ha;rw[Nv f1];by_cases hx0:x=0
  .rw[af5 hx0]at ha⊢;simp only[agX]at ha;rw[Nv u3,af5 ha.1.symm]at hb;exact hb
  rw[af4 hx0]at ha⊢;simp only[agX]at ha;obtain⟨y,hy⟩:∃y:Nat,x-1=(y:Int):=⟨(x-1).toNat,by omega⟩;rw[hy]at ha⊢;unfold plL at ha;rw[af5 ha.2]at ha;have hlo:=(Gs (E:=E) (y:=y) p (-1) 0 0 o3 (by omega) (by omega)).1;rw[Nv u3,af4 (by omega)]at hb;simp only[agX]at hb;rw[<-ha.1,show(ig E y 0 p).1+1-1=(ig E y 0 p).1 by omega]at hb;have k:=key y (by omega) ha.2 hb.2;rw[k];have hb1:=hb.1;unfold plL at hb1⊢;rw[af5 hb.2]at hb1;rw[af5 rfl,hb1]
end M
end
section
open Go.RowKit Go.Lib
namespace M
def ET(x:dL):List Value:=[.int .i64 (x.t:Int),.int .i64 (x.f:Int),.int .i64 (x.n:Int)]
theorem fJ(x:dL):(ET x).length=3:=rfl
theorem zn(x:dL):∀u∈ET x,u.oneCell'=true:=by simp[ET,Value.oneCell']
abbrev nO(B:Nat)(W:World)(v:Value)(l:List dL):Prop:=aP B W 155 3 ET v l
theorem CR:Elem Tryz.prog 156 155 3 24:=gP Tryz.underlying156 (z:=.agg #[.int .i64 0,.int .i64 0,.int .i64 0]) (by kernel_rfl) rfl (by decide) (by decide)
def ou(W:World)(v:Value)(l:List dL):Prop:=
 ∃a cap,v=.slice a l.length cap/\l.length<=cap/\cap<=maxLen/\∀(i:Nat) (h:i<l.length),∃b,a=some b/\
  W.cell? (b.add (i*3))=some (.int .i64 (l[i].t:Int))/\W.cell? ⟨(b.add (i*3)).block,(b.add (i*3)).off+1,none⟩=some (.int .i64 (l[i].f:Int))/\W.cell? ⟨(b.add (i*3)).block,(b.add (i*3)).off+2,none⟩=some (.int .i64 (l[i].n:Int))
theorem zo(b:Addr){n:Nat}(h:n≠0):b.add n=⟨b.block,b.off+n,none⟩:=by
 cases n with
 |zero=>exact absurd rfl h
 |succ n=>unfold Addr.add;simp
theorem vO(b:Addr):b.add 0=b:=by unfold Addr.add;simp
theorem PE(b:Addr)(i j:Nat):(b.add i).add j=b.add (j+i):=by
 by_cases h1:i=0
 .subst h1;rw[vO,ahC]
 by_cases h2:j=0
 .subst h2;rw[vO,ahi]
 rw[zo b h1,zo _ h2,zo b (by omega)];simp only[ahp,ajf,aht];omega
theorem nO.row{B:Nat}{W:World}{v:Value}{l:List dL}(h:nO B W v l):ou W v l:=by
 rcases h.shape with⟨rfl,rfl⟩|⟨g,cap,rfl,h1,h2⟩
 .exact⟨none,0,rfl,by simp,by unfold maxLen;omega,λi h=>by simp at h⟩
 refine⟨_,cap,rfl,h1,h2,λi hi=>⟨_,rfl,?_⟩⟩;have e0:=aP.cell fJ h hi (j:=0) (by omega);have e1:=aP.cell fJ h hi (j:=1) (by omega);have e2:=aP.cell fJ h hi (j:=2) (by omega);have ea:(⟨g,0,none⟩:Addr).add (i*3)=⟨g,i*3,none⟩:=by unfold Addr.add;split<;>simp_all
 rw[ea];exact⟨e0,e1,e2⟩
theorem WI(a0:Option Addr)(c:Nat){x:dL}{l:List dL}(hc:l.length+1<=c):
    ∃A' c',(∀w,(Instr.slice 156 (.slice a0 (l.length+1) c) (some (.int .i64 1)) none none).run Tryz.prog w=.ok (.slice A' l.length c') w)/\∀W,ou W (.slice a0 (l.length+1) c) (x::l)->ou W (.slice A' l.length c') l:=by
 have hs:∀w,(sizeOf (Tryz.prog.elem 156)).run Tryz.prog w=.ok 3 w:=λw=>by kernel_rfl
 have hr:∀w,(Instr.slice 156 (.slice a0 (l.length+1) c) (some (.int .i64 1)) none none).run Tryz.prog w=.ok (sliced a0 1 (l.length+1) c 3) w:=λw=>by
  have:=run_slice_l (P:=Tryz.prog) w 156 a0 (l.length+1) c (by kernel_rfl) .i64 1 (by omega) (by omega);rw[this,hs];simp[Result.andThen]
 refine⟨(if c=1 then a0 else a0.map (·.add 3)),c-1,(λw=>by rw[hr w];simp[sliced]),?_⟩;rintro W ⟨a,cap,hv,h1,h2,h4⟩;simp only[agn]at hv;obtain⟨rfl,-,rfl⟩:=hv;simp only[agc]at h1;refine⟨_,_,rfl,by omega,by omega,?_⟩;intro j hj;obtain⟨g,rfl,e0,e1,e2⟩:=h4 (j+1) (by simpa using hj);have hne:¬c=1:=by omega
 rw[af4 hne];have hx:(x::l)[j+1]'(by simpa using hj)=l[j]:=rfl;have hadd:(g.add 3).add (j*3)=g.add ((j+1)*3):=by rw[PE];congr 1;omega
 rw[hx]at e0 e1 e2;exact⟨_,rfl,by rw[hadd];exact e0,by rw[hadd];exact e1,by rw[hadd];exact e2⟩
def fU(W:World)(p:Nat)(v:Value)(u a:Nat):Prop:=W.heap[p]?=some (.cells #[v,.int .i64 (u:Int),.int .i64 (a:Int)] 208 (0,0))
theorem fU.cells{W:World}{p:Nat}{v:Value}{u a:Nat}(h:fU W p v u a):W.cell? ⟨p,0,none⟩=some v/\W.cell? ⟨p,1,none⟩=some (.int .i64 (u:Int))/\W.cell? ⟨p,2,none⟩=some (.int .i64 (a:Int))/\W.frozen? ⟨p,0,none⟩=false/\W.frozen? ⟨p,1,none⟩=false/\W.frozen? ⟨p,2,none⟩=false:=by
 unfold fU at h;simp[World.cell?,World.frozen?,h]
theorem fU.LM{W:World}{p:Nat}{v:Value}{u a:Nat}(h:fU W p v u a)(v':Value):fU (W.setCell ⟨p,0,none⟩ v') p v' u a:=by
 unfold fU at h⊢;rw[aC _ h];rfl
theorem fU.zq{W:World}{p:Nat}{v:Value}{u a:Nat}(h:fU W p v u a)(u':Nat):fU (W.setCell ⟨p,1,none⟩ (.int .i64 (u':Int))) p v u' a:=by
 unfold fU at h⊢;rw[aC _ h];rfl
theorem fU.LP{W:World}{p:Nat}{v:Value}{u a:Nat}(h:fU W p v u a)(a':Nat):fU (W.setCell ⟨p,2,none⟩ (.int .i64 (a':Int))) p v u a':=by
 unfold fU at h⊢;rw[aC _ h];rfl
def jh(W:World)(g:Nat)(x:dL):Prop:=W.heap[g]?=some (.cells #[.int .i64 (x.t:Int),.int .i64 (x.f:Int),.int .i64 (x.n:Int)] 155 (0,0))
theorem jh.cells{W:World}{g:Nat}{x:dL}(h:jh W g x):W.cell? ⟨g,0,none⟩=some (.int .i64 (x.t:Int))/\W.cell? ⟨g,1,none⟩=some (.int .i64 (x.f:Int))/\W.cell? ⟨g,2,none⟩=some (.int .i64 (x.n:Int)):=by
 unfold jh at h;simp[World.cell?,h]
theorem jh.free{W:World}{g:Nat}{x:dL}(h:jh W g x)(i:Nat):W.frozen? ⟨g,i,none⟩=false:=by
 unfold jh at h;simp[World.frozen?,h]
theorem jh.set{W:World}{g p i:Nat}{x:dL}(h:jh W g x)(hn:p≠g)(v:Value):jh (W.setCell ⟨p,i,none⟩ v) g x:=by
 unfold jh at h⊢;rw[agU _ _ _ _ (λe=>hn e.symm)];exact h
theorem Y0(w:World)(x:dL):∃wz w2,w.alloc (.cells #[.int .i64 0,.int .i64 0,.int .i64 0] 155)=wz/\
    ((wz.setCell ⟨w.heap.size,0,none⟩ (.int .i64 (x.t:Int))).setCell ⟨w.heap.size,1,none⟩ (.int .i64 (x.f:Int))).setCell ⟨w.heap.size,2,none⟩ (.int .i64 (x.n:Int))=w2/\jh w2 w.heap.size x/\Below w.heap.size w w2/\
    (wz.cell? ⟨w.heap.size,0,none⟩=some (.int .i64 0)/\wz.cell? ⟨w.heap.size,1,none⟩=some (.int .i64 0)/\wz.cell? ⟨w.heap.size,2,none⟩=some (.int .i64 0))/\(wz.frozen? ⟨w.heap.size,0,none⟩=false/\wz.frozen? ⟨w.heap.size,1,none⟩=false/\wz.frozen? ⟨w.heap.size,2,none⟩=false):=by
 have k0:jh (w.alloc (.cells #[.int .i64 0,.int .i64 0,.int .i64 0] 155)) w.heap.size ⟨0,0,0⟩:=aD _ _;have b0:Below w.heap.size w (w.alloc (.cells #[.int .i64 0,.int .i64 0,.int .i64 0] 155)):=(af6 _ _).alloc (af7 _) _;exact⟨_,_,rfl,rfl,aC _ (aC _ (aC _ k0)),((b0.setCell (p:=⟨w.heap.size,0,none⟩) (af7 _) _).setCell (p:=⟨w.heap.size,1,none⟩) (af7 _) _).setCell (p:=⟨w.heap.size,2,none⟩) (af7 _) _,k0.cells,k0.free 0,k0.free 1,k0.free 2⟩
def PcB(l:List dL):Prop:=∀x∈l,x.t<=4611686018427387904/\x.f+x.n<=4611686018427387904
def rdM(p T:Nat)(w:World):Nat:=2*(match w.cell? ⟨p,0,none⟩with|some (.slice _ n _)=>n|_=>0)+(match w.cell? ⟨p,2,none⟩with|some (.int _ a)=>if a<(T:Int)then 1 else 0|_=>0)
theorem kX{w:World}{p T:Nat}{s:Option Addr}{n c u a:Nat}(h:fU w p (.slice s n c) u a):rdM p T w=2*n+if(a:Int)<T then 1 else 0:=by
 obtain⟨c0,-,c2,-⟩:=h.cells;unfold rdM;rw[c0,c2]
abbrev zW:List TypeId:=[208,155]
end M
end
section
open Go.RowKit Go.Lib
namespace M
attribute [local go_sem] Oper.semAt_some
structure BX(p lo:Nat)(w w':World):Prop where
 os:w'.os=w.os
 tape:w'.tape=w.tape
 output:w'.output=w.output
 size:w.heap.size<=w'.heap.size
 block:∀k,k<lo->k≠p->w'.heap[k]?=w.heap[k]?
theorem BX.of{p lo:Nat}{A B:World}(h:Below lo A B):BX p lo A B:=⟨h.os,h.tape,h.output,h.size,λk hk _=>h.block k hk⟩
theorem BX.refl(p lo:Nat)(A:World):BX p lo A A:=.of (af6 _ _)
theorem BX.trans{p lo:Nat}{A B C:World}(h:BX p lo A B)(k:BX p lo B C):BX p lo A C:=
 ⟨k.os.trans h.os,k.tape.trans h.tape,k.output.trans h.output,af9 h.size k.size,λi hi hp=>(k.block i hi hp).trans (h.block i hi hp)⟩
theorem BX.set{p lo:Nat}{A B:World}(h:BX p lo A B)(i:Nat)(v:Value):BX p lo A (B.setCell ⟨p,i,none⟩ v):=
 h.trans ⟨rfl,rfl,rfl,by simp[World.setCell],λk _ hk=>agU _ _ _ _ hk⟩
theorem BX.mono{p lo lo':Nat}{A B:World}(h:BX p lo A B)(hl:lo'<=lo):BX p lo' A B:=⟨h.os,h.tape,h.output,h.size,λk hk hp=>h.block k (ahm hk hl) hp⟩
theorem BX.below{p lo:Nat}{A B:World}(h:BX p lo A B)(hp:lo<=p):Below lo A B:=⟨h.os,h.tape,h.output,h.size,λk hk=>h.block k hk (by omega)⟩
def Jy(lo2 lo p:Nat)(l:List dL)(u a:Nat)(UE:List dL)(T:Nat)(W:World)(e:Ending)(w':World):Prop:=
 ∃v' vt',e=.returned vt'/\fU w' p v' (aY l u a T).u (aY l u a T).a/\(∀w,BX p lo2 w' w->ou w v' (aY l u a T).l)/\nO lo w' vt' (UE++(aY l u a T).em)/\bS zW W w'/\BX p lo W w'
def Y1(lo2 lo p:Nat)(r0:Rd)(UE:List dL)(T:Nat)(W:World)(af4:Value)(wr:World):Prop:=
 ∃em l u a sa sc,nO lo wr af4 em/\fU wr p (.slice sa l.length sc) u a/\(∀w,BX p lo2 wr w->ou w (.slice sa l.length sc) l)/\Pz l u/\PcB l/\a<=9223372036854775807/\UE++r0.em=em++(aY l u a T).em/\r0.l=(aY l u a T).l/\r0.u=(aY l u a T).u/\r0.a=(aY l u a T).a/\bS zW W wr/\BX p lo W wr
theorem kY{x:dL}{l:List dL}{u a T:Nat}(ha:a<T)(hf:u+kF x u a T=x.n):(aY (x::l) u a T).em=lK x u a T++(aY l 0 (a+kF x u a T) T).em/\(aY (x::l) u a T).l=(aY l 0 (a+kF x u a T) T).l/\(aY (x::l) u a T).u=(aY l 0 (a+kF x u a T) T).u/\(aY (x::l) u a T).a=(aY l 0 (a+kF x u a T) T).a:=by
 conv=>lhs;rw[aY,af5 ha,af5 hf]
 conv=>rhs;lhs;lhs;rw[aY,af5 ha,af5 hf]
 conv=>rhs;rhs;lhs;lhs;rw[aY,af5 ha,af5 hf]
 conv=>rhs;rhs;rhs;lhs;rw[aY,af5 ha,af5 hf]
 exact⟨rfl,rfl,rfl,rfl⟩
theorem dV{x:dL}{l:List dL}{u a T:Nat}(ha:a<T)(hf:u+kF x u a T≠x.n)(hu:u<=x.n):a+kF x u a T=T/\aY (x::l) u a T=⟨lK x u a T,x::l,u+kF x u a T,a+kF x u a T⟩/\aY (x::l) (u+kF x u a T) (a+kF x u a T) T=⟨[],x::l,u+kF x u a T,a+kF x u a T⟩:=by
 have hT:a+kF x u a T=T:=by unfold kF at hf⊢;omega
 refine⟨hT,?_,?_⟩
 .rw[aY,af5 ha,af4 hf]
 rw[aY,af4 (by omega)]
theorem LQ{x:dL}{l:List dL}{u a T:Nat}(ha:¬a<T):aY (x::l) u a T=⟨[],x::l,u,a⟩:=by rw[aY,af4 ha]
theorem CS{lo2 lo p:Nat}{W:World}(hlo:lo<=W.heap.size)(hl2:lo2<=lo){v:Value}{l:List dL}{u a:Nat}(hR:fU W p v u a)(hrow:∀w,BX p lo2 W w->ou w v l)(hU:Pz l u)(hB:PcB l){vt:Value}{UE:List dL}(hem:nO lo W vt UE)(T:Nat)(hT:T<=9223372036854775807)(ha:a<=9223372036854775807)(hlen:UE.length+l.length<=10000):
    Calls Tryz.prog 115 #[.pointer (some ⟨p,0,none⟩),vt,.int .i64 (T:Nat)] W (Jy lo2 lo p l u a UE T W):=by
 have HF:∀f,Fence.wide.fn f:=λ_=>trivial;have hspec:=nE l u a T hU;obtain⟨r0,hr0⟩:=ay (aY l u a T);unfold Jy;rw[hr0]at hspec⊢;have UD:=ak hspec.2.2.2.2.1;have oG:=ak hlen;have eG:=ak hlo;have HL2:=ak hl2;have HI0:aA (Y1 lo2 lo p r0 UE T W vt W):=by
  obtain⟨sa,sc,rfl,-⟩:=hrow W (BX.refl _ _ _);exact ak ⟨UE,l,u,a,sa,sc,hem,hR,hrow,hU,hB,ha,by rw[hr0],by rw[hr0],by rw[hr0],by rw[hr0],bS.refl _ _,BX.refl _ _ _⟩
 clear hspec hr0 hR hrow hU hB hem ha hlen hlo hl2;go_enter Tryz.func115,Tryz.ntmps115;go_wp2_with fail
 go_loopw [1] (λaf4 wr=>Y1 lo2 lo p r0 UE T W af4 wr) (λ_ wr=>rdM p T wr)
 case atStart=>exact HI0.o
 obtain⟨em,l,u,a,sa,sc,hem,hR,hrow,hU,hB,ha,q1,q2,q3,q4,ho,hb⟩:=hrel;obtain⟨J9,J_,afz⟩:=hem.len;obtain⟨ton,aa8⟩:=ay (em.length);rw[aa8]at afz;subst afz;have HTO:=ak aa8;clear aa8;have dR:=ak (And.intro hem (And.intro hR (And.intro hrow (And.intro q1 (And.intro q2 (And.intro q3 (And.intro q4 (And.intro ho hb))))))));have HUB:=ak (And.intro hU hB);have hMS:=kX (T:=T) hR;have Np:=ak hMS;obtain⟨c0,c1,c2,f0,f1,f2⟩:=hR.cells;have hrw:=hrow wr (BX.refl _ _ _);clear hem hR hrow hU hB q1 q2 q3 q4 ho hb hMS;cases l with
 |nil=>
  have hz:¬((0:Nat):Int)>0:=by omega
  have hz2:(([]:List dL).length:Int)=0:=rfl;simp only[ahX]at c0;go_wp2_with fail
  go_ret;obtain⟨e1,e2,e3,e4,e5,e6,e7,e8,e9⟩:=dR.o;exact⟨_,_,rfl,by rw[e6,e7];exact e2,by rw[e5];exact e3,by rw[e4];simpa[aY]using e1,e8,e9⟩
 |cons x l=>
  have hl0:((l.length+1:Nat):Int)>0:=by omega
  simp only[agc]at c0;by_cases Gx:a<T;rotate_left
  .have hab:¬(a:Int)<(T:Int):=by omega
   go_wp2_with fail
   go_ret;obtain⟨e1,e2,e3,e4,e5,e6,e7,e8,e9⟩:=dR.o;rw[LQ Gx]at e4 e5 e6 e7;exact⟨_,_,rfl,by rw[e6,e7];exact e2,by rw[e5];exact e3,by rw[e4];simpa using e1,e8,e9⟩
  have hab:(a:Int)<(T:Int):=by omega
  obtain⟨sa',sc',he,hc1,hc2,hcc⟩:=hrw;simp only[agn]at he;obtain⟨rfl,-,rfl⟩:=he;obtain⟨b,rfl,m0,m1,m2⟩:=hcc 0 (by simp);simp only[aiS,vO,ajq]at m0 m1 m2;obtain⟨hu,hpb⟩:=HUB.o;have hux:u<=x.n:=hu;have hxb:=hpb x (by simp);have hUL:Pz l 0:=by cases l<;>simp[Pz]
  have hPL:PcB l:=λy hy=>hpb y (by simp[hy]);have ut:=ak (And.intro hUL (And.intro hPL hpb));obtain⟨A',c',hsl,hdr⟩:=WI (some b) sc (x:=x) (l:=l) (by simpa using hc1);have HDR:=ak hdr;obtain⟨wz,w2,hz,hs1,kp,bw,⟨p0,p1,p2⟩,g0,g1,g2⟩:=Y0 wr x;obtain⟨gc,hgc⟩:=ay (wr.heap.size);rw[hgc]at hs1 kp p0 p1 p2 g0 g1 g2;have hR2:fU w2 p (.slice (some b) (l.length+1) sc) u a:=au bw dR.o.2.1;have HB2:=ak bw;have HKP:=ak kp;obtain⟨d0,d1,d2,h0,h1,h2⟩:=hR2.cells;obtain⟨y0,y1,y2⟩:=kp.cells;have HR2:=ak hR2;have Jc:aA (p≠gc/\∀q,(Value.slice J9 ton J_).ownBlock=some q->q<gc):=ak ⟨λe=>by
   have h:=dR.o.2.1;have:=(aga.1 h).1;omega,λq hq=>by have:=aP.Fu dR.o.1 hq;omega⟩
  have hw1:IntKind.i64.wrap ((x.n:Int)-(u:Int))=((x.n-u:Nat):Int):=by rw[agd];omega
  have hw2:IntKind.i64.wrap ((T:Int)-(a:Int))=((T-a:Nat):Int):=by rw[agd];omega
  obtain⟨N,hN⟩:=ay (kF x u a T);have hmin:min ((x.n-u:Nat):Int) ((T-a:Nat):Int)=(N:Int):=by rw[<-hN];unfold kF;omega
  have hNa:a+N<=T:=by rw[<-hN];unfold kF;omega
  have hNu:u+N<=x.n:=by rw[<-hN];unfold kF;omega
  have HN:=ak hN;obtain⟨aN,haN⟩:=ay (a+N);obtain⟨uN,huN⟩:=ay (u+N);obtain⟨fu,hfu⟩:=ay (x.f+u);have hw3:IntKind.i64.wrap ((a:Int)+(N:Int))=(aN:Int):=by rw[agd];omega
  have hw4:IntKind.i64.wrap ((u:Int)+(N:Int))=(uN:Int):=by rw[agd];omega
  have eH:IntKind.i64.wrap ((x.f:Int)+(u:Int))=(fu:Int):=by rw[agd];omega
  have jr:=ak (And.intro haN (And.intro huN hfu));rw[haN]at hNa;rw[huN]at hNu;generalize x.n-u=nu at *;generalize T-a=ta at *;clear hcc bw kp hR2 hu hpb hux hUL hPL hdr hc1 hc2 hN hl0 hxb haN huN hfu;go_wp2_with fail
  clear hz hs1 p0 p1 p2 g0 g1 g2 m0 m1 m2 c0 c1 c2 f0 f1 f2;have HMN:=ak hmin;clear hmin;rcases ajC nu ta with hc|hc|hc
  case' _=>
   obtain rfl:N=nu:=by have:=HMN.o;omega
   have hci:(N:Int)<(ta:Int):=by omega
  rotate_left
  case' _=>
   obtain rfl:N=nu:=by have:=HMN.o;omega
   obtain rfl:N=ta:=hc;have hci:¬(N:Int)<(N:Int):=by omega
  rotate_left
  case' _=>
   obtain rfl:N=ta:=by have:=HMN.o;omega
   have hci:(N:Int)<(nu:Int):=by omega
  all_goals as_aux_lemma=>
   obtain⟨w3,CU⟩:=ay (w2.drew);have b3:Below w2.heap.size w2 w3:=by rw[<-CU];exact(af6 _ _).drew
   have HR3:=ak (show fU w3 p (.slice (some b) (l.length+1) sc) u a from au b3 HR2.o);have qH:=ak (show jh w3 gc x from au b3 HKP.o);have HB3:=ak (Below.after HB2.o b3);clear d0 d1 d2 h0 h1 h2 y0 y1 y2 b3;obtain⟨d0,d1,d2,h0,h1,h2⟩:=HR3.o.cells;obtain⟨y0,y1,y2⟩:=qH.o.cells;refine aU (λw=>w=w3) ?_;rw[CU];clear CU;have SW:w3=w3:=rfl;refine bJ 0 1 2 3 4 5 ?_;refine bJ 6 7 8 9 10 11 ?_;refine tk3 12 13 14 ?_;refine aO ?_;clear SW;by_cases hn0:0<N
   case' _=>
    have hn1:(N:Int)>0:=(by omega);go_wp2_with fail
    obtain⟨w4,CV⟩:=ay (w3.drew);have b4:Below w3.heap.size w3 w4:=(by rw[<-CV];exact(af6 _ _).drew);have EU:fU w4 p (.slice (some b) (l.length+1) sc) u a:=au b4 HR3.o;have hK4:jh w4 gc x:=au b4 qH.o;have cB:=ak (Below.after HB3.o b4);have nP:nO lo w4 (.slice J9 ton J_) em:=aP.below dR.o.1 cB.o;have uE:lo<=w4.heap.size:=af9 eG.o (af9 dR.o.2.2.2.2.2.2.2.2.size cB.o.size);have hlm:em.length<=20001:=by
     have h1:=dR.o.2.2.2.1;have h2:=agC List.length h1;rw[af8,af8]at h2;have:=UD.o;have:=oG.o;omega
    obtain⟨v5,w5,hrun,hS5,hg5,hb5,-⟩:=eB (P:=Tryz.prog) CR fJ 156 nP ⟨x.t,fu,N⟩ 1 (cs:=#[.int .i64 (x.t:Int),.int .i64 (fu:Int),.int .i64 (N:Int)]) rfl (zn _) (by omega) uE;have hal:Below w4.heap.size w4 (w4.alloc (.cells #[.int .i64 (x.t:Int),.int .i64 (fu:Int),.int .i64 (N:Int)] 155)):=(af6 _ _).alloc (af7 _) _;have ND:fU w5 p (.slice (some b) (l.length+1) sc) u a:=g_ nP hg5 EU (by decide);have CO:gc<w4.heap.size:=(aga.1 hK4).1;have Tx:jh w5 gc x:=by
     unfold jh;rw[hg5.block gc (by simp;omega) (λe=>absurd (Jc.o.2 _ e.symm) (ahh _)),ahM _ _ _ CO];exact hK4
    have Tz:aA (bS zW W w5):=ak ((dR.o.2.2.2.2.2.2.2.1.trans (bS.of cB.o)).trans (bS.own nP hal hg5 (by decide)));have CW:aA (BX p lo wr w5):=ak (BX.of ((cB.o.mono (af9 eG.o dR.o.2.2.2.2.2.2.2.2.size)).trans hb5));have Hf:aA (nO lo w5 v5 (em++lK x u a T)):=ak (by unfold lK;rw[HN.o,af5 hn0,jr.o.2.2];exact hS5);have nL:=ak ND;have uJ:=ak Tx;have S4:fU w4 p (.slice (some b) (l.length+1) sc) u a/\jh w4 gc x:=⟨EU,hK4⟩;have lU:=ak (show fU (w4.alloc (.cells #[.int .i64 (x.t:Int),.int .i64 (fu:Int),.int .i64 (N:Int)] 155)) p (.slice (some b) (l.length+1) sc) u a/\jh (w4.alloc (.cells #[.int .i64 (x.t:Int),.int .i64 (fu:Int),.int .i64 (N:Int)] 155)) gc x from⟨au hal EU,au hal hK4⟩);have S5:fU w5 p (.slice (some b) (l.length+1) sc) u a/\jh w5 gc x:=⟨ND,Tx⟩;have k0:∀w,(fU w p (.slice (some b) (l.length+1) sc) u a/\jh w gc x)->w.cell? ⟨p,1,none⟩=some (.int .i64 (u:Int)):=λw h=>h.1.cells.2.1;have k1:∀w,(fU w p (.slice (some b) (l.length+1) sc) u a/\jh w gc x)->w.cell? ⟨gc,0,none⟩=some (.int .i64 (x.t:Int)):=λw h=>h.2.cells.1;have k2:∀w,(fU w p (.slice (some b) (l.length+1) sc) u a/\jh w gc x)->w.cell? ⟨gc,1,none⟩=some (.int .i64 (x.f:Int)):=λw h=>h.2.cells.2.1;clear d0 d1 d2 h0 h1 h2 y0 y1 y2 b4 EU hK4 nP uE hlm hS5 hg5 hb5 hal ND CO Tx;refine aU (λw=>fU w p (.slice (some b) (l.length+1) sc) u a/\jh w gc x) ?_;rw[CV];clear CV;refine bJ 0 1 2 3 4 5 ?_;refine bJ 6 7 8 9 10 11 ?_;refine aT 12 λK hK=>?_;go_simp;refine hK _ _ lU.o ?_;clear hK K;refine aT 13 λK hK=>?_;simp[execOp,resolve,invoke,builtin,hrun,Result.andThen,Act.eval,Oper.uponIn];refine hK _ _ S5 ?_;clear hK K hrun;refine tk1 14 ?_;refine aO ?_;clear S4 S5 k0 k1 k2;obtain⟨d0,d1,d2,h0,h1,h2⟩:=nL.o.cells;obtain⟨y0,y1,y2⟩:=uJ.o.cells;obtain⟨w6,dH⟩:=ay (w5.setCell ⟨p,2,none⟩ (.int .i64 (aN:Int)))
   rotate_left
   case' _=>
    have hn1:¬(N:Int)>0:=(by omega);have Tz:aA (bS zW W w3):=ak (dR.o.2.2.2.2.2.2.2.1.trans (bS.of HB3.o));have CW:aA (BX p lo wr w3):=ak (BX.of (HB3.o.mono (af9 eG.o dR.o.2.2.2.2.2.2.2.2.size)));have Hf:aA (nO lo w3 (.slice J9 ton J_) (em++lK x u a T)):=ak (by unfold lK;rw[HN.o,af4 hn0,agi];exact aP.below dR.o.1 HB3.o);have nL:=HR3;have uJ:=qH;obtain⟨w6,dH⟩:=ay (w3.setCell ⟨p,2,none⟩ (.int .i64 (aN:Int)))
   rotate_left
   all_goals
    have sH:fU w6 p (.slice (some b) (l.length+1) sc) u aN:=(by rw[<-dH];exact nL.o.LP aN);have Jz:jh w6 gc x:=(by rw[<-dH];exact uJ.o.set Jc.o.1 _);obtain⟨d0',d1',AR,h0',h1',h2'⟩:=sH.cells;obtain⟨w7,hw7⟩:=ay (w6.setCell ⟨p,1,none⟩ (.int .i64 (uN:Int)));have JA:fU w7 p (.slice (some b) (l.length+1) sc) uN aN:=(by rw[<-hw7];exact sH.zq uN);have JB:jh w7 gc x:=(by rw[<-hw7];exact Jz.set Jc.o.1 _);have TA:aA (bS zW W w7):=ak (by rw[<-hw7,<-dH];exact(Tz.o.trans (bS.set (a:=⟨p,2,none⟩) nL.o (by decide) _)).trans (bS.set (a:=⟨p,1,none⟩) (by rw[dH];exact sH) (by decide) _));have sI:aA (BX p lo wr w7):=ak (by rw[<-hw7,<-dH];exact(CW.o.set 2 _).set 1 _)
   case' _=>
    have TB:aA (nO lo w7 v5 (em++lK x u a T)):=ak (by rw[<-hw7,<-dH];exact(Hf.o.setCell (a:=⟨p,2,none⟩) _ nL.o (by decide)).setCell (a:=⟨p,1,none⟩) _ (by rw[dH];exact sH) (by decide))
   rotate_left
   case' _=>
    have TB:aA (nO lo w7 (.slice J9 ton J_) (em++lK x u a T)):=ak (by rw[<-hw7,<-dH];exact(Hf.o.setCell (a:=⟨p,2,none⟩) _ nL.o (by decide)).setCell (a:=⟨p,1,none⟩) _ (by rw[dH];exact sH) (by decide))
   rotate_left
   all_goals
    have TD:=ak JA;have xH:=ak JB;clear sH Jz JA JB;go_wp2_with fail
    clear d0 d1 d2 h0 h1 h2 y0 y1 y2 d0' d1' AR h0' h1' h2' dH hw7;obtain⟨w8,nH⟩:=ay (w7.drew);have b8:Below w7.heap.size w7 w8:=(by rw[<-nH];exact(af6 _ _).drew);have ni:=ak (show fU w8 p (.slice (some b) (l.length+1) sc) uN aN from au b8 TD.o);have JC:aA (bS zW W w8):=ak (TA.o.trans (bS.of b8));have nI:aA (BX p lo wr w8):=ak (sI.o.trans (BX.of (b8.mono (af9 (af9 eG.o dR.o.2.2.2.2.2.2.2.2.size) sI.o.size))))
   case' _=>
    have JD:aA (nO lo w8 v5 (em++lK x u a T)):=ak (aP.below TB.o b8)
   rotate_left
   case' _=>
    have JD:aA (nO lo w8 (.slice J9 ton J_) (em++lK x u a T)):=ak (aP.below TB.o b8)
   rotate_left
   all_goals
    obtain⟨d0,d1,d2,h0,h1,h2⟩:=ni.o.cells;obtain⟨y0,y1,y2⟩:=(show jh w8 gc x from au b8 xH.o).cells;clear b8;refine aU (λw=>w=w8) ?_;rw[nH];clear nH;have SW:w8=w8:=rfl;refine bJ 0 1 2 3 4 5 ?_;refine tk1 6 ?_;refine aO ?_;clear SW
   .by_cases hf:uN=x.n
    .have NG:((uN:Int)==(x.n:Int))=true:=(by rw[hf];simp);obtain⟨w9,dI⟩:=ay (w8.setCell ⟨p,0,none⟩ (.slice A' l.length c'));have sJ:fU w9 p (.slice A' l.length c') uN aN:=(by rw[<-dI];exact ni.o.LM _);obtain⟨d0',d1',AR,h0',h1',h2'⟩:=sJ.cells;obtain⟨xP,iU⟩:=ay (w9.setCell ⟨p,1,none⟩ (.int .i64 0));have sK:fU xP p (.slice A' l.length c') 0 aN:=(by rw[<-iU];exact sJ.zq 0);have CX:aA (bS zW W xP):=ak (by rw[<-iU,<-dI];exact(JC.o.trans (bS.set (a:=⟨p,0,none⟩) ni.o (by decide) _)).trans (bS.set (a:=⟨p,1,none⟩) (by rw[dI];exact sJ) (by decide) _));have lM:aA (BX p lo wr xP):=ak (by rw[<-iU,<-dI];exact(nI.o.set 0 _).set 1 _);have CY:aA (nO lo xP v5 (em++lK x u a T)):=ak (by rw[<-iU,<-dI];exact(JD.o.setCell (a:=⟨p,0,none⟩) _ ni.o (by decide)).setCell (a:=⟨p,1,none⟩) _ (by rw[dI];exact sJ) (by decide));have sM:=ak sK;have lN:aA (u+kF x u a T=x.n):=ak (by rw[HN.o,jr.o.2.1];exact hf);clear sJ sK hf;go_wp2_with fail
     clear d0 d1 d2 h0 h1 h2 y0 y1 y2 d0' d1' AR h0' h1' h2' dI iU;go_roundw
     case rel=>
      obtain⟨e1,e2,e3,e4,e5,e6,e7,e8,e9⟩:=dR.o;obtain⟨z1,z2,z3,z4⟩:=kY (l:=l) Gx lN.o;rw[z1]at e4;rw[z2]at e5;rw[z3]at e6;rw[z4]at e7;rw[HN.o,jr.o.1]at e4 e5 e6 e7;exact⟨em++lK x u a T,l,0,aN,A',c',CY.o,sM.o,λw hw=>HDR.o w (e3 w ((lM.o.mono HL2.o).trans hw)),ut.o.1,ut.o.2.1,by omega,by rw[agf];exact e4,e5,e6,e7,CX.o,e9.trans lM.o⟩
     rw[Np.o,kX sM.o];simp only[agc];rw[af5 hab];split<;>omega
    have NG:((uN:Int)==(x.n:Int))=false:=agh.2 (by omega);have lN:aA (u+kF x u a T≠x.n):=ak (by rw[HN.o,jr.o.2.1];exact hf);clear hf;go_wp2_with fail
    clear d0 d1 d2 h0 h1 h2 y0 y1 y2;go_roundw
    case rel=>
     obtain⟨e1,e2,e3,e4,e5,e6,e7,e8,e9⟩:=dR.o;obtain⟨z1,z2,z3⟩:=dV (l:=l) Gx lN.o (by have:=jr.o;omega);rw[z2]at e4 e5 e6 e7;rw[HN.o,jr.o.1]at z1;rw[HN.o,jr.o.1,jr.o.2.1]at z3 e6 e7 e5 e4;exact⟨em++lK x u a T,x::l,uN,aN,some b,sc,JD.o,ni.o,λw hw=>e3 w ((nI.o.mono HL2.o).trans hw),show uN<=x.n by omega,ut.o.2.2,by omega,by rw[z3,agi];exact e4,by rw[z3];exact e5,by rw[z3];exact e6,by rw[z3];exact e7,JC.o,e9.trans nI.o⟩
    have z1:=(dV (l:=l) Gx lN.o (by have:=jr.o;omega)).1;rw[HN.o,jr.o.1]at z1;rw[Np.o,kX ni.o];simp only[agc];have:=jr.o;rw[af5 hab,af4 (by omega)];omega
   by_cases hf:uN=x.n
   .have NG:((uN:Int)==(x.n:Int))=true:=(by rw[hf];simp);obtain⟨w9,dI⟩:=ay (w8.setCell ⟨p,0,none⟩ (.slice A' l.length c'));have sJ:fU w9 p (.slice A' l.length c') uN aN:=(by rw[<-dI];exact ni.o.LM _);obtain⟨d0',d1',AR,h0',h1',h2'⟩:=sJ.cells;obtain⟨xP,iU⟩:=ay (w9.setCell ⟨p,1,none⟩ (.int .i64 0));have sK:fU xP p (.slice A' l.length c') 0 aN:=(by rw[<-iU];exact sJ.zq 0);have CX:aA (bS zW W xP):=ak (by rw[<-iU,<-dI];exact(JC.o.trans (bS.set (a:=⟨p,0,none⟩) ni.o (by decide) _)).trans (bS.set (a:=⟨p,1,none⟩) (by rw[dI];exact sJ) (by decide) _));have lM:aA (BX p lo wr xP):=ak (by rw[<-iU,<-dI];exact(nI.o.set 0 _).set 1 _);have CY:aA (nO lo xP (.slice J9 ton J_) (em++lK x u a T)):=ak (by rw[<-iU,<-dI];exact(JD.o.setCell (a:=⟨p,0,none⟩) _ ni.o (by decide)).setCell (a:=⟨p,1,none⟩) _ (by rw[dI];exact sJ) (by decide));have sM:=ak sK;have lN:aA (u+kF x u a T=x.n):=ak (by rw[HN.o,jr.o.2.1];exact hf);clear sJ sK hf;go_wp2_with fail
    clear d0 d1 d2 h0 h1 h2 y0 y1 y2 d0' d1' AR h0' h1' h2' dI iU;go_roundw
    case rel=>
     obtain⟨e1,e2,e3,e4,e5,e6,e7,e8,e9⟩:=dR.o;obtain⟨z1,z2,z3,z4⟩:=kY (l:=l) Gx lN.o;rw[z1]at e4;rw[z2]at e5;rw[z3]at e6;rw[z4]at e7;rw[HN.o,jr.o.1]at e4 e5 e6 e7;exact⟨em++lK x u a T,l,0,aN,A',c',CY.o,sM.o,λw hw=>HDR.o w (e3 w ((lM.o.mono HL2.o).trans hw)),ut.o.1,ut.o.2.1,by omega,by rw[agf];exact e4,e5,e6,e7,CX.o,e9.trans lM.o⟩
    rw[Np.o,kX sM.o];simp only[agc];rw[af5 hab];split<;>omega
   have NG:((uN:Int)==(x.n:Int))=false:=agh.2 (by omega);have lN:aA (u+kF x u a T≠x.n):=ak (by rw[HN.o,jr.o.2.1];exact hf);clear hf;go_wp2_with fail
   clear d0 d1 d2 h0 h1 h2 y0 y1 y2;go_roundw
   case rel=>
    obtain⟨e1,e2,e3,e4,e5,e6,e7,e8,e9⟩:=dR.o;obtain⟨z1,z2,z3⟩:=dV (l:=l) Gx lN.o (by have:=jr.o;omega);rw[z2]at e4 e5 e6 e7;rw[HN.o,jr.o.1]at z1;rw[HN.o,jr.o.1,jr.o.2.1]at z3 e6 e7 e5 e4;exact⟨em++lK x u a T,x::l,uN,aN,some b,sc,JD.o,ni.o,λw hw=>e3 w ((nI.o.mono HL2.o).trans hw),show uN<=x.n by omega,ut.o.2.2,by omega,by rw[z3,agi];exact e4,by rw[z3];exact e5,by rw[z3];exact e6,by rw[z3];exact e7,JC.o,e9.trans nI.o⟩
   have z1:=(dV (l:=l) Gx lN.o (by have:=jr.o;omega)).1;rw[HN.o,jr.o.1]at z1;rw[Np.o,kX ni.o];simp only[agc];have:=jr.o;rw[af5 hab,af4 (by omega)];omega
end M
end
end Go.Proofs.YtgbhohfabhilgaaGreatDoor
