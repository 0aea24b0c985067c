import Derived.Test.YtgbhohfabhilgaaGreatDoorBaseTop
set_option maxRecDepth 100000
set_option maxHeartbeats 8000000
set_option linter.unusedVariables false
set_option linter.unusedSimpArgs false
namespace Go.Proofs.YtgbhohfabhilgaaGreatDoor
open Go.RowKit
namespace M
variable{b:Bool}{len:Int}{L p p' q q':List bH}{c d:bH}
structure Grp where
 l:List bH
 r:List bH
 pos:Int
 en:Int
def Grp.swap(g:Grp):Grp:=⟨g.r,g.l,g.pos,g.en⟩
def oneG:Bool->bH->Grp
 |true,c=>⟨[c],[],c.pos,c.pos+c.n⟩
 |false,c=>⟨[],[c],c.pos,c.pos+c.n⟩
def Grp.add(g:Grp):Bool->bH->Grp
 |true,c=>⟨g.l++[c],g.r,g.pos,max g.en (c.pos+c.n)⟩
 |false,c=>⟨g.l,g.r++[c],g.pos,max g.en (c.pos+c.n)⟩
def nx:List bH->List bH->Option (Bool×bH×List bH×List bH)
 | [],[]=>none
 |c::p,[]=>some (true,c,p,[])
 | [],d::q=>some (false,d,[],q)
 |c::p,d::q=>if c.pos<=d.pos then some (true,c,p,d::q)else some (false,d,c::p,q)
def grow:Nat->Grp->List bH->List bH->List Grp
 |0,g,_,_=>[g]
 |n+1,g,p,q=>match nx p q with
  |none=>[g]
  |some (b,c,p',q')=>if g.en<c.pos then g::grow n (oneG b c) p' q' else grow n (g.add b c) p' q'
def aae(p q:List bH):List Grp:=match nx p q with
 |none=>[]
 |some (b,c,p',q')=>grow (p'.length+q'.length) (oneG b c) p' q'
theorem abC(h:nx p q=some (b,c,p',q')):p.length+q.length=p'.length+q'.length+1:=by
 rcases p with _|⟨a,p⟩<;>rcases q with _|⟨d,q⟩<;>simp only[nx,reduceCtorEq,agG,agX]at h
 .obtain⟨-,-,rfl,rfl⟩:=h;simp
 .obtain⟨-,-,rfl,rfl⟩:=h;simp
 .split at h
  .simp only[agG,agX]at h;obtain⟨-,-,rfl,rfl⟩:=h;simp;omega
  .simp only[agG,agX]at h;obtain⟨-,-,rfl,rfl⟩:=h;simp;omega
theorem acg(h:nx p q=none):p=[]/\q=[]:=by
 rcases p with _|⟨a,p⟩<;>rcases q with _|⟨d,q⟩<;>simp only[nx,reduceCtorEq]at h
 .exact⟨rfl,rfl⟩
 .split at h<;>cases h
theorem aaO(h:nx p q=some (b,c,p',q')):
    (b=true/\p=c::p'/\q'=q/\∀d∈q.head?,c.pos<=d.pos)\/(b=false/\q=c::q'/\p'=p/\∀d∈p.head?,c.pos<d.pos):=by
 rcases p with _|⟨a,p⟩<;>rcases q with _|⟨d,q⟩<;>simp only[nx,reduceCtorEq,agG,agX]at h
 .obtain⟨rfl,rfl,rfl,rfl⟩:=h;exact .inr ⟨rfl,rfl,rfl,by simp⟩
 .obtain⟨rfl,rfl,rfl,rfl⟩:=h;exact .inl ⟨rfl,rfl,rfl,by simp⟩
 .split at h
  .next g=>simp only[agG,agX]at h;obtain⟨rfl,rfl,rfl,rfl⟩:=h;exact .inl ⟨rfl,rfl,rfl,by simpa using g⟩
  .next g=>simp only[agG,agX]at h;obtain⟨rfl,rfl,rfl,rfl⟩:=h;exact .inr ⟨rfl,rfl,rfl,by simp;omega⟩
theorem abh{g:Grp}(h:nx p q=none)(n:Nat):grow n g p q=[g]:=by
 cases n with
 |zero=>rfl
 |succ n=>simp only[grow,h]
theorem aai{g:Grp}(h:nx p q=some (b,c,p',q'))(n:Nat):grow (n+1) g p q=if g.en<c.pos then g::grow n (oneG b c) p' q' else grow n (g.add b c) p' q':=by
 simp only[grow,h]
theorem aad{last:Int}(h:bC len last (c::L)=true):last<c.pos/\0<=c.pos/\0<=c.n/\c.pos+c.n<=len/\len<=dX/\(c.n=0->c.id≠0)/\bC len (c.pos+c.n) L=true:=by
 simp only[bC,eQ,agy,ahV,ahQ,ajs]at h
 obtain⟨⟨⟨h3,h4⟩,h6⟩,h5⟩:=h
 obtain⟨-,a0,a,b,e,f⟩:=dJ.1 h3
 exact⟨by omega,a,b,by omega,a0,λq=>h6.resolve_left (λk=>k q),h5⟩
theorem ach{last:Int}(h0:last<c.pos)(h1:0<=c.pos)(h2:0<=c.n)(h3:c.pos+c.n<=len)(h4:len<=dX)(h5:c.n=0->c.id≠0)(h6:bC len (c.pos+c.n) L=true):bC len last (c::L)=true:=by
 simp only[bC,eQ,agy,ahV,ahQ,ajs]
 refine⟨⟨⟨dJ.2 ⟨by omega,h4,h1,h2,by omega,by omega⟩,by omega⟩,?_⟩,h6⟩
 by_cases q:c.n=0
 .exact .inr (h5 q)
 .exact .inl q
theorem abk{last x:Int}(h:bC len last L=true)(hx:∀d∈L.head?,x<d.pos):bC len x L=true:=by
 cases L with
 |nil=>rfl
 |cons d L=>
  obtain⟨-,b,c,e,f,g,k⟩:=aad h
  exact ach (hx d rfl) b c e f g k
theorem aaV{len:Int}:∀(A:List bH) {B:List bH} {last:Int},bC len last (A++B)=true->bC len last A=true/\bC len (yE last A) B=true
 | [],_,_,h=>⟨rfl,h⟩
 |c::A,B,last,h=>by
  obtain⟨a,b,c',e,f,g,k⟩:=aad (L:=A++B) h
  obtain⟨k1,k2⟩:=aaV A k
  exact⟨ach a b c' e f g k1,k2⟩
theorem acU{len:Int}:∀{L:List bH} {last:Int},bC len last L=true->last<=yE last L
 | [],_,_=>ako _
 |c::L,last,h=>by
  obtain⟨a,b,c',e,f,g,k⟩:=aad h
  have:=acU k
  show last<=yE (c.pos+c.n) L
  omega
theorem acV{last:Int}(h:bC len last (c::p)=true)(e:c.pos=d.pos):nx p (d::q)=some (false,d,p,q):=by
 cases p with
 |nil=>rfl
 |cons a p=>
  obtain⟨-,-,b,-,-,-,k⟩:=aad h
  obtain⟨k1,-⟩:=aad k
  show(if a.pos<=d.pos then _ else _)=_
  rw[af4 (by omega)]
theorem ak2(b:Bool)(c:bH):(oneG b c).swap=oneG (!b) c:=by cases b<;>rfl
theorem ak3(g:Grp)(b:Bool)(c:bH):(g.add b c).swap=g.swap.add (!b) c:=by cases b<;>rfl
theorem abD(b:Bool)(c:bH):(oneG b c).en=c.pos+c.n/\(oneG b c).pos=c.pos:=by cases b<;>exact⟨rfl,rfl⟩
theorem acl(g:Grp)(b:Bool)(c:bH):(g.add b c).en=max g.en (c.pos+c.n)/\(g.add b c).pos=g.pos:=by cases b<;>exact⟨rfl,rfl⟩
theorem add_add(g:Grp)(c d:bH):(g.swap.add true d).add false c=((g.add true c).add false d).swap:=by
 show(⟨g.r++[d],g.l++[c],g.pos,max (max g.en (d.pos+d.n)) (c.pos+c.n)⟩:Grp)=⟨g.r++[d],g.l++[c],g.pos,max (max g.en (c.pos+c.n)) (d.pos+d.n)⟩
 congr 1
 omega
theorem one_add(e:c.pos=d.pos):(oneG true d).add false c=((oneG true c).add false d).swap:=by
 show(⟨[d],[c],d.pos,max (d.pos+d.n) (c.pos+c.n)⟩:Grp)=⟨[d],[c],c.pos,max (c.pos+c.n) (d.pos+d.n)⟩
 rw[Int.max_comm,e]
theorem alx(h:nx p q=some (b,c,p',q'))(hne:b=true->∀d∈q.head?,c.pos≠d.pos):nx q p=some (!b,c,q',p'):=by
 rcases p with _|⟨a,p⟩<;>rcases q with _|⟨d,q⟩<;>simp only[nx,reduceCtorEq,agG,agX]at h
 .obtain⟨rfl,rfl,rfl,rfl⟩:=h;rfl
 .obtain⟨rfl,rfl,rfl,rfl⟩:=h;rfl
 .split at h
  .next g=>
   simp only[agG,agX]at h;obtain⟨rfl,rfl,rfl,rfl⟩:=h
   have:=hne rfl d rfl
   show(if d.pos<=a.pos then _ else _)=_
   rw[af4 (by omega)];rfl
  .next g=>
   simp only[agG,agX]at h;obtain⟨rfl,rfl,rfl,rfl⟩:=h
   show(if d.pos<=a.pos then _ else _)=_
   rw[af5 (by omega)];rfl
theorem akP:∀(n:Nat) (g:Grp) (p q:List bH) (lp lq:Int),p.length+q.length<=n->bC len lp p=true->bC len lq q=true->grow n g.swap q p=(grow n g p q).map Grp.swap:=by
 intro n
 induction n using Nat.strongRecOn with
 |ind n ih=>
  intro g p q lp lq hn hp hq
  cases hx:nx p q with
  |none=>
   obtain⟨rfl,rfl⟩:=acg hx
   rw[abh rfl,abh rfl];rfl
  |some x=>
   obtain⟨b,c,p',q'⟩:=x
   have hl:=abC hx
   obtain⟨m,rfl⟩:∃m,n=m+1:=⟨n-1,by omega⟩
   by_cases htie:b=true/\∃d∈q.head?,c.pos=d.pos
   .obtain⟨rfl,d,hd,he⟩:=htie
    rcases aaO hx with⟨-,rfl,rfl,-⟩|⟨h,-⟩
    rotate_left
    .cases h
    obtain⟨q2,rfl⟩:∃q2,q'=d::q2:=by
     cases q' with
     |nil=>simp at hd
     |cons y q2=>simp at hd;subst hd;exact⟨q2,rfl⟩
    have h1:nx (d::q2) (c::p')=some (true,d,q2,c::p'):=by
     show(if d.pos<=c.pos then _ else _)=_
     rw[af5 (by omega)]
    simp only[agc]at hn
    obtain⟨k,rfl⟩:∃k,m=k+1:=⟨m-1,by omega⟩
    have cp:=aad hp
    have cq:=aad hq
    rw[aai hx,aai h1]
    have e1:g.swap.en=g.en:=rfl
    by_cases hg:g.en<c.pos
    .rw[af5 hg,af5 (by rw[e1];omega)]
     rw[aai (acV hp he),aai (acV hq he.symm),af4 (by rw[(abD _ _).1];omega),af4 (by rw[(abD _ _).1];omega),one_add he,ag8]
     rw[ih k (by omega) _ p' q2 _ _ (by omega) cp.2.2.2.2.2.2 cq.2.2.2.2.2.2]
    .rw[af4 hg,af4 (by rw[e1];omega)]
     rw[aai (acV hp he),aai (acV hq he.symm),af4 (by rw[(acl _ _ _).1];omega),af4 (by rw[(acl _ _ _).1];omega),add_add]
     rw[ih k (by omega) _ p' q2 _ _ (by omega) cp.2.2.2.2.2.2 cq.2.2.2.2.2.2]
   .have hne:b=true->∀d∈q.head?,c.pos≠d.pos:=λhb d hd he=>htie ⟨hb,d,hd,he⟩
    have h1:=alx hx hne
    have hf:∃a b,bC len a p'=true/\bC len b q'=true:=by
     rcases aaO hx with⟨-,rfl,rfl,-⟩|⟨-,rfl,rfl,-⟩
     .exact⟨_,_,(aad hp).2.2.2.2.2.2,hq⟩
     .exact⟨_,_,hp,(aad hq).2.2.2.2.2.2⟩
    obtain⟨a1,a2,f1,f2⟩:=hf
    rw[aai hx,aai h1]
    have e1:g.swap.en=g.en:=rfl
    rw[e1]
    by_cases hg:g.en<c.pos
    .rw[af5 hg,af5 hg,<-ak2,ih m (by omega) _ p' q' _ _ (by omega) f1 f2];rfl
    .rw[af4 hg,af4 hg,<-ak3,ih m (by omega) _ p' q' _ _ (by omega) f1 f2]
theorem ak4{lp lq:Int}(hp:bC len lp p=true)(hq:bC len lq q=true):aae q p=(aae p q).map Grp.swap:=by
 have key:∀(p q:List bH) (g:Grp),(∀c∈p.head?,g.en<c.pos)->(∀c∈q.head?,g.en<c.pos)->grow (p.length+q.length) g p q=g::aae p q:=by
  intro p q g h1 h2
  cases hx:nx p q with
  |none=>rw[abh hx];unfold aae;rw[hx]
  |some x=>
   obtain⟨b,c,p',q'⟩:=x
   rw[abC hx,aai hx]
   have:g.en<c.pos:=by
    rcases aaO hx with⟨-,rfl,-⟩|⟨-,rfl,-⟩
    .exact h1 c rfl
    .exact h2 c rfl
   rw[af5 this];unfold aae;rw[hx]
 have hd:∀(x:Int) {l:Int} {L:List bH},bC len l L=true->x<= -1->∀c∈L.head?,x<c.pos:=by
  intro x l L h hx c hc
  cases L with
  |nil=>simp at hc
  |cons a L=>simp at hc;subst hc;have:=(aad h).2.1;omega
 have e:=akP (len:=len) (p.length+q.length) ⟨[],[], -1, -1⟩ p q lp lq (af7 _) hp hq
 rw[key p q _ (hd _ hp (ako _)) (hd _ hq (ako _))]at e
 rw[akm,key q p _ (hd _ hq (ako _)) (hd _ hp (ako _)),ag8]at e
 injection e
structure GOk(len:Int)(g:Grp):Prop where
 lo:0<=g.pos
 le:g.pos<=g.en
 hi:g.en<=len
 fl:bC len (g.pos-1) g.l=true
 fr:bC len (g.pos-1) g.r=true
 el:yE (g.pos-1) g.l<=g.en
 er:yE (g.pos-1) g.r<=g.en
 ne:g.l≠[]\/g.r≠[]
def ChG(len:Int):Int->List Grp->Prop
 |_,[]=>True
 |last,g::G=>last<g.pos/\GOk len g/\ChG len g.en G
theorem afc(hp:bC len (c.pos-1) ((oneG b c).l++p)=true)(hq:bC len (c.pos-1) ((oneG b c).r++q)=true):GOk len (oneG b c):=by
 have h1:=aaV _ hp
 have h2:=aaV _ hq
 cases b with
 |true=>
  obtain⟨-,a1,a2,a3,-⟩:=aad (c:=c) (L:=[]) h1.1
  exact⟨a1,by show c.pos<=c.pos+c.n;omega,a3,h1.1,rfl,ako _,by show c.pos-1<=c.pos+c.n;omega,.inl (by simp[oneG])⟩
 |false=>
  obtain⟨-,a1,a2,a3,-⟩:=aad (c:=c) (L:=[]) h2.1
  exact⟨a1,by show c.pos<=c.pos+c.n;omega,a3,rfl,h2.1,by show c.pos-1<=c.pos+c.n;omega,ako _,.inr (by simp[oneG])⟩
theorem abU{g:Grp}(h:nx p q=some (b,c,p',q'))(hp:bC len (g.pos-1) (g.l++p)=true)(hq:bC len (g.pos-1) (g.r++q)=true):
    (bC len (c.pos-1) ((oneG b c).l++p')=true/\bC len (c.pos-1) ((oneG b c).r++q')=true)/\bC len (g.pos-1) ((g.add b c).l++p')=true/\bC len (g.pos-1) ((g.add b c).r++q')=true/\c.pos+c.n<=len:=by
 have h1:=aaV _ hp
 have h2:=aaV _ hq
 rcases aaO h with⟨rfl,rfl,rfl,hd⟩|⟨rfl,rfl,rfl,hd⟩
 .refine⟨⟨abk h1.2 (by intro d hd;obtain rfl:c=d:=(by simpa[oneG]using hd);omega),abk h2.2 (λd e=>by have:=hd d e;omega)⟩,?_,hq,(aad h1.2).2.2.2.1⟩
  show bC len (g.pos-1) ((g.l++[c])++p')=true
  rw[agf];exact hp
 .refine⟨⟨abk h1.2 (λd e=>by have:=hd d e;omega),abk h2.2 (by intro d hd;obtain rfl:c=d:=(by simpa[oneG]using hd);omega)⟩,hp,?_,(aad h2.2).2.2.2.1⟩
  show bC len (g.pos-1) ((g.r++[c])++q')=true
  rw[agf];exact hq
theorem alK{g:Grp}(h:nx p q=some (b,c,p',q'))(hp:bC len (g.pos-1) (g.l++p)=true)(hq:bC len (g.pos-1) (g.r++q)=true)(ho:GOk len g):GOk len (g.add b c):=by
 obtain⟨-,t1,t2,t3⟩:=abU h hp hq
 have f1:=(aaV _ t1).1
 have f2:=(aaV _ t2).1
 have a1:=ho.lo;have a2:=ho.le;have a3:=ho.hi;have a4:=ho.el;have a5:=ho.er
 cases b with
 |true=>exact⟨a1,by show g.pos<=max g.en (c.pos+c.n);omega,by show max g.en (c.pos+c.n)<=len;omega,f1,f2,by show yE (g.pos-1) (g.l++[c])<=max g.en (c.pos+c.n);rw[Ef];omega,by show yE (g.pos-1) g.r<=max g.en (c.pos+c.n);omega,.inl (by show g.l++[c]≠[];simp)⟩
 |false=>exact⟨a1,by show g.pos<=max g.en (c.pos+c.n);omega,by show max g.en (c.pos+c.n)<=len;omega,f1,f2,by show yE (g.pos-1) g.l<=max g.en (c.pos+c.n);omega,by show yE (g.pos-1) (g.r++[c])<=max g.en (c.pos+c.n);rw[Ef];omega,.inr (by show g.r++[c]≠[];simp)⟩
theorem acW{len:Int}:∀(n:Nat) (g:Grp) (p q:List bH) (last:Int),last<g.pos->GOk len g->bC len (g.pos-1) (g.l++p)=true->bC len (g.pos-1) (g.r++q)=true->ChG len last (grow n g p q)
 |0,g,p,q,last,h1,h2,_,_=>⟨h1,h2,trivial⟩
 |n+1,g,p,q,last,h1,h2,h3,h4=>by
  cases hx:nx p q with
  |none=>rw[abh hx];exact⟨h1,h2,trivial⟩
  |some x=>
   obtain⟨b,c,p',q'⟩:=x
   obtain⟨⟨t1,t2⟩,t3,t4,t5⟩:=abU hx h3 h4
   rw[aai hx]
   split
   .next g0=>exact⟨h1,h2,acW n _ p' q' _ (by rw[(abD b c).2];exact g0) (afc t1 t2) (by rw[(abD b c).2];exact t1) (by rw[(abD b c).2];exact t2)⟩
   .next g0=>exact acW n _ p' q' _ (by rw[(acl g b c).2];exact h1) (alK hx h3 h4 h2) (by rw[(acl g b c).2];exact t3) (by rw[(acl g b c).2];exact t4)
theorem abE:∀(n:Nat) (g:Grp) (p q:List bH),p.length+q.length<=n->((grow n g p q).map (·.l)).flatten=g.l++p/\((grow n g p q).map (·.r)).flatten=g.r++q
 |0,g,p,q,h=>by
  obtain rfl:p=[]:=ahw (by omega)
  obtain rfl:q=[]:=ahw (by omega)
  exact⟨by simp[grow],by simp[grow]⟩
 |n+1,g,p,q,h=>by
  cases hx:nx p q with
  |none=>obtain⟨rfl,rfl⟩:=acg hx;rw[abh rfl];exact⟨by simp,by simp⟩
  |some x=>
   obtain⟨b,c,p',q'⟩:=x
   have hl:=abC hx
   rw[aai hx]
   have e1:=abE n (oneG b c) p' q' (by omega)
   have e2:=abE n (g.add b c) p' q' (by omega)
   rcases aaO hx with⟨rfl,rfl,rfl,-⟩|⟨rfl,rfl,rfl,-⟩
   .split
    .rw[ag8,ag8,ahW,ahW,e1.1,e1.2];exact⟨rfl,rfl⟩
    .rw[e2.1,e2.2];exact⟨by show(g.l++[c])++p'=_;simp,rfl⟩
   .split
    .rw[ag8,ag8,ahW,ahW,e1.1,e1.2];exact⟨rfl,rfl⟩
    .rw[e2.1,e2.2];exact⟨rfl,by show(g.r++[c])++q'=_;simp⟩
theorem abM(hp:bC len (-1) p=true)(hq:bC len (-1) q=true):ChG len (-1) (aae p q):=by
 unfold aae
 cases hx:nx p q with
 |none=>trivial
 |some x=>
  obtain⟨b,c,p',q'⟩:=x
  obtain⟨⟨t1,t2⟩,-⟩:=abU (g:=⟨[],[],0,0⟩) hx hp hq
  have h0: -1<c.pos:=by
   rcases aaO hx with⟨-,rfl,-⟩|⟨-,rfl,-⟩
   .have:=(aad hp).1;omega
   .have:=(aad hq).1;omega
  exact acW _ _ p' q' _ (by rw[(abD b c).2];exact h0) (afc t1 t2) (by rw[(abD b c).2];exact t1) (by rw[(abD b c).2];exact t2)
theorem aaH(p q:List bH):((aae p q).map (·.l)).flatten=p/\((aae p q).map (·.r)).flatten=q:=by
 unfold aae
 cases hx:nx p q with
 |none=>obtain⟨rfl,rfl⟩:=acg hx;exact⟨rfl,rfl⟩
 |some x=>
  obtain⟨b,c,p',q'⟩:=x
  obtain⟨e1,e2⟩:=abE (p'.length+q'.length) (oneG b c) p' q' (af7 _)
  show((grow _ (oneG b c) p' q').map (·.l)).flatten=p/\_
  rw[e1,e2]
  rcases aaO hx with⟨rfl,rfl,rfl,-⟩|⟨rfl,rfl,rfl,-⟩<;>exact⟨rfl,rfl⟩
theorem akR{last:Int}:∀{p:List bH},bC len last p=true->aae p []=p.map (oneG true):=by
 have key:∀(p:List bH) (last:Int) (c:bH),c.pos+c.n<=last->bC len last p=true->grow (p.length+0) (oneG true c) p []=(c::p).map (oneG true):=by
  intro p
  induction p with
  |nil=>intros;rfl
  |cons d p ih=>
   intro last c hc h
   obtain⟨a1,-,-,-,-,-,a2⟩:=aad h
   show grow (p.length+0+1) _ _ _=_
   rw[aai (b:=true) (c:=d) (p':=p) (q':=[]) rfl,af5 (by rw[(abD _ _).1];omega)]
   exact agC (oneG true c:: ·) (ih _ d (ako _) a2)
 intro p h
 cases p with
 |nil=>rfl
 |cons c p=>exact key p _ c (ako _) (aad h).2.2.2.2.2.2
end M
end Go.Proofs.YtgbhohfabhilgaaGreatDoor
namespace Go.Proofs.YtgbhohfabhilgaaGreatDoor
open Go.RowKit
namespace M
variable{E E2:List En}{t:List Nat}{L:List bH}{c:bH}
theorem acn{len e:Int}(he:e<=dX):∀{L:List bH} {last:Int},bC len last L=true->yE last L<=e->bC e last L=true
 | [],_,_,_=>rfl
 |c::L,last,h,h2=>by
  obtain⟨a,b,c',d,f,g,k⟩:=aad h
  have h3:yE (c.pos+c.n) L<=e:=h2
  have:=acU k
  exact ach a b c' (by omega) he g (acn he k h3)
def sdT(E:List En)(t:List Nat)(g:Grp)(L:List bH):List Nat:=if L=[]then[]else cO E (t.take g.en.toNat) g.pos.toNat L
def cfl(E:List En)(t:List Nat)(g:Grp):Bool:=decide (g.l≠[])&&(decide (g.r≠[]) && !decide (sdT E t g g.l=sdT E t g g.r))
def mrT(E:List En)(t:List Nat)(g:Grp):List Nat:=if g.l≠[]then sdT E t g g.l else sdT E t g g.r
def aas(E:List En)(c:bH):Int×Int×List Nat:=(c.pos,c.n,txt E c.id)
def aaW(E:List En)(t:List Nat)(g:Grp):Int×Int×List Nat:=(g.pos,g.en-g.pos,mrT E t g)
theorem aly(E:List En)(t:List Nat)(g:Grp):sdT E t g []=[]:=by unfold sdT;rw[af5 rfl]
theorem al4(E:List En)(t:List Nat)(g:Grp)(L:List bH):sdT E t g.swap L=sdT E t g L:=rfl
theorem adl(E:List En)(t:List Nat)(g:Grp):cfl E t g.swap=cfl E t g:=by
 show(decide (g.r≠[])&&(decide (g.l≠[]) && !decide (sdT E t g g.r=sdT E t g g.l)))=(decide (g.l≠[])&&(decide (g.r≠[]) && !decide (sdT E t g g.l=sdT E t g g.r)))
 rw[show decide (sdT E t g g.r=sdT E t g g.l)=decide (sdT E t g g.l=sdT E t g g.r) from decide_eq_decide.2 ⟨Eq.symm,Eq.symm⟩]
 cases decide (g.l≠[])<;>cases decide (g.r≠[])<;>rfl
theorem ak5{g:Grp}(h:cfl E t g=false)(hn:g.l≠[]\/g.r≠[]):mrT E t g.swap=mrT E t g:=by
 show(if g.r≠[]then sdT E t g g.r else sdT E t g g.l)=if g.l≠[]then sdT E t g g.l else sdT E t g g.r
 by_cases h1:g.l=[]
 .have h2:=hn.resolve_left (λq=>q h1)
  simp[h1,h2]
 .by_cases h2:g.r=[]
  .simp[h1,h2]
  .unfold cfl at h
   rw[agw h1,agw h2]at h
   simp at h
   simp[h1,h2,h]
theorem aby{g:Grp}(hm:(t.length:Int)<=dX)(h:GOk t.length g)(hf:bC t.length (g.pos-1) L=true)(he:yE (g.pos-1) L<=g.en):((sdT E t g L).length:Int)<=g.en-g.pos+dN E L:=by
 have h1:=h.lo;have h2:=h.le;have h3:=h.hi
 unfold sdT
 split
 .simp;omega
 have hl:((t.take g.en.toNat).length:Int)=g.en:=by rw[agB];omega
 have hf2:=acn (by omega) hf he
 have:=pO (E:=E) (t:=t.take g.en.toNat) L (g.pos-1) g.pos.toNat (by rw[hl];exact hf2) (by omega) (by omega)
 rw[hl]at this
 have hb:=uX (len:=g.en) (by omega) L (g.pos-1) hf2 (by omega) (by omega)
 omega
theorem aci{g:Grp}(h:GOk t.length g)(h1:c.pos=g.pos)(h2:c.pos+c.n=g.en)(L:List bH)(hL:L=[c]):sdT E t g L=txt E c.id:=by
 subst hL
 have a1:=h.lo;have a2:=h.le;have a3:=h.hi
 unfold sdT
 rw[af4 (by simp)]
 show((t.take g.en.toNat).drop g.pos.toNat).take (c.pos.toNat-g.pos.toNat)++(txt E c.id++(t.take g.en.toNat).drop (c.pos+c.n).toNat)=_
 rw[h1,aiz,ah5,agH,<-h1,h2,List.drop_eq_nil_of_le (by rw[agB];omega),agi]
theorem afH{len:Int}{g:Grp}(hf:bC len (g.pos-1) (c::L)=true)(he:yE (g.pos-1) (c::L)<=g.en)(h:c.pos+c.n=g.en):L=[]:=by
 cases L with
 |nil=>rfl
 |cons d L=>
  obtain⟨-,-,-,-,-,-,k⟩:=aad hf
  obtain⟨a,-,b,-,-,-,k2⟩:=aad k
  have:=acU k2
  have h3:yE (d.pos+d.n) L<=g.en:=he
  omega
theorem acG{len:Int}{g:Grp}(hf:bC len (g.pos-1) L=true)(he:yE (g.pos-1) L<=g.en)(hne:L≠[])(h0:g.en=g.pos):∃c,L=[c]/\c.pos=g.pos/\c.n=0/\c.id≠0:=by
 cases L with
 |nil=>exact absurd rfl hne
 |cons c L=>
  obtain⟨a,-,b,-,-,f,k⟩:=aad hf
  have h1:=acU k
  have h2:yE (c.pos+c.n) L<=g.en:=he
  obtain rfl:=afH hf he (by omega)
  exact⟨c,rfl,by omega,by omega,f (by omega)⟩
theorem abz(hx:Ext E E2){g:Grp}(h:∀c∈L,c.id<=E.length):sdT E2 t g L=sdT E t g L:=by
 unfold sdT
 split
 .rfl
 .exact CJ hx _ L _ h
theorem adn{E E2:List En}{t:List Nat}:∀{L M:List bH} {f:Nat},L.map (aas E)=M.map (aas E2)->cO E t f L=cO E2 t f M
 | [],[],_,_=>rfl
 | [],_::_,_,h=>by simp at h
 |_::_,[],_,h=>by simp at h
 |a::L,b::M,f,h=>by
  rw[ag8,ag8]at h
  injection h with h1 h2
  unfold aas at h1
  injection h1 with e1 e2
  injection e2 with e2 e3
  show _++(txt E a.id++cO E t (a.pos+a.n).toNat L)=_++(txt E2 b.id++cO E2 t (b.pos+b.n).toNat M)
  rw[e1,e2,e3,adn h2]
def KnG(E:List En)(G:List Grp):Prop:=∀g∈G,(∀c∈g.l,c.id<=E.length)/\∀c∈g.r,c.id<=E.length
theorem alz{p q:List bH}(hp:∀c∈p,c.id<=E.length)(hq:∀c∈q,c.id<=E.length):KnG E (aae p q):=λg hg=>by
 obtain⟨h1,h2⟩:=aaH p q
 refine⟨λc hc=>hp c ?_,λc hc=>hq c ?_⟩
 .rw[<-h1];exact akb.2 ⟨g.l,agz.2 ⟨g,hg,rfl⟩,hc⟩
 .rw[<-h2];exact akb.2 ⟨g.r,agz.2 ⟨g,hg,rfl⟩,hc⟩
theorem aaR{len:Int}:∀{G:List Grp} {last:Int},ChG len last G->∀g∈G,GOk len g
 |g::G,_,⟨_,h,k⟩,x,hx=>by
  rcases agm.1 hx with rfl|hx
  .exact h
  .exact aaR k x hx
def ab_(E:List En)(t:List Nat):List Grp->Nat
 | []=>0
 |g::G=>(sdT E t g g.l).length+(sdT E t g g.r).length+ab_ E t G
def abK(E:List En):List Grp->Nat
 | []=>0
 |g::G=>dN E g.l+dN E g.r+abK E G
def abG:List Grp->Int
 | []=>0
 |g::G=>g.en-g.pos+abG G
theorem abR(E:List En):∀A B:List bH,dN E (A++B)=dN E A+dN E B
 | [],B=>by show dN E B=0+dN E B;omega
 |a::A,B=>by show _+dN E (A++B)=_+dN E A+dN E B;rw[abR E A B];omega
theorem acH(E:List En):∀G:List Grp,abK E G=dN E (G.map (·.l)).flatten+dN E (G.map (·.r)).flatten
 | []=>rfl
 |g::G=>by
  rw[ag8,ag8,ahW,ahW,abR,abR]
  show _+abK E G=_
  rw[acH E G];omega
theorem aco(E:List En)(p q:List bH):abK E (aae p q)=dN E p+dN E q:=by rw[acH,(aaH p q).1,(aaH p q).2]
theorem acY(p q:List bH):((aae p q).map (λg=>g.l.length+g.r.length)).sum=p.length+q.length:=by
 have h:∀G:List Grp,(G.map (λg=>g.l.length+g.r.length)).sum=(G.map (·.l)).flatten.length+(G.map (·.r)).flatten.length:=by
  intro G
  induction G with
  |nil=>rfl
  |cons g G ih=>
   simp only[ag8,List.sum_cons,ahW,af8,ih]
   omega
 rw[h,(aaH p q).1,(aaH p q).2]
theorem acj{len:Int}:∀{G:List Grp} {last:Int},ChG len last G->last<=len->0<=abG G/\abG G<=len-last
 | [],last,_,h=>by show(0:Int)<=0/\(0:Int)<=len-last;omega
 |g::G,last,⟨h1,h2,h3⟩,_=>by
  have:=acj h3 h2.hi
  have:=h2.le
  show 0<=g.en-g.pos+abG G/\g.en-g.pos+abG G<=len-last
  omega
theorem abV{E:List En}{t:List Nat}(hm:(t.length:Int)<=dX):∀{G:List Grp} {last:Int},ChG t.length last G->(ab_ E t G:Int)<=2*abG G+abK E G
 | [],_,_=>by show((0:Nat):Int)<=2*0+((0:Nat):Int);omega
 |g::G,last,⟨h1,h2,h3⟩=>by
  have:=abV (E:=E) hm h3
  have:=aby (E:=E) hm h2 h2.fl h2.el
  have:=aby (E:=E) hm h2 h2.fr h2.er
  show(((sdT E t g g.l).length+(sdT E t g g.r).length+ab_ E t G:Nat):Int)<=2*(g.en-g.pos+abG G)+((dN E g.l+dN E g.r+abK E G:Nat):Int)
  omega
theorem afI{g:Grp}(hm:(t.length:Int)<=dX)(h:GOk t.length g):((mrT E t g).length:Int)<=g.en-g.pos+(dN E g.l+dN E g.r:Nat):=by
 unfold mrT
 split
 .have:=aby (E:=E) hm h h.fl h.el;omega
 .have:=aby (E:=E) hm h h.fr h.er;omega
def aax(E:List En)(t:List Nat)(G:List Grp):List Grp:=G.filter λg=> !cfl E t g
def aaq(E:List En)(t:List Nat)(G:List Grp):List Grp:=G.filter (cfl E t)
theorem acp{len:Int}(f:Grp->Bool):∀{G:List Grp} {last:Int},ChG len last G->ChG len last (G.filter f)
 | [],_,_=>trivial
 |g::G,last,⟨h1,h2,h3⟩=>by
  have ih:=acp f h3
  rw[aiv]
  split
  .exact⟨h1,h2,ih⟩
  .have h4:=h2.le
   cases hG:G.filter f with
   |nil=>trivial
   |cons x X=>
    rw[hG]at ih
    exact⟨by have:=ih.1;omega,ih.2⟩
theorem acr(E:List En)(f:Grp->Bool):∀G:List Grp,abK E (G.filter f)<=abK E G
 | []=>af7 _
 |g::G=>by
  have:=acr E f G
  rw[aiv]
  split
  .show _+abK E (G.filter f)<=_+abK E G;omega
  .show abK E (G.filter f)<=dN E g.l+dN E g.r+abK E G;omega
theorem ado{E:List En}{t:List Nat}(hm:(t.length:Int)<=dX):∀{G:List Grp} {M:List bH} {last:Int},ChG t.length last G->M.map (aas E)=G.map (aaW E t)->(∀c∈M,c.id=0->txt E c.id=[])->(∀g∈G,g.en=g.pos->mrT E t g≠[])->bC t.length last M=true/\fZ M=abG G/\(dN E M:Int)<=abG G+abK E G
 | [],[],_,_,_,_,_=>⟨rfl,rfl,by show((0:Nat):Int)<=0+((0:Nat):Int);omega⟩
 | [],_::_,_,_,h,_,_=>by simp at h
 |_::_,[],_,_,h,_,_=>by simp at h
 |g::G,c::M,last,⟨h1,h2,h3⟩,h,hz,hn=>by
  rw[ag8,ag8]at h
  injection h with h4 h5
  unfold aas aaW at h4
  injection h4 with e1 e2
  injection e2 with e2 e3
  have ec:c.pos+c.n=g.en:=by omega
  obtain⟨k1,k2,k3⟩:=ado hm h3 h5 (λc hc=>hz c (by simp[hc])) (λg hg=>hn g (by simp[hg]))
  have a1:=h2.lo;have a2:=h2.le;have a3:=h2.hi
  have a4:=afI (E:=E) hm h2
  refine⟨ach (by omega) (by omega) (by omega) (by omega) hm (λq r=>hn g (by simp) (by omega) (by rw[<-e3];exact hz c (by simp) r)) (by rw[ec];exact k1),?_,?_⟩
  .show c.n+fZ M=g.en-g.pos+abG G;omega
  .show(((txt E c.id).length+dN E M:Nat):Int)<=g.en-g.pos+abG G+((dN E g.l+dN E g.r+abK E G:Nat):Int)
   rw[e3];omega
theorem alA{g:Grp}(h:GOk t.length g)(hne:∀c∈g.l++g.r,c.id≠0->txt E c.id≠[])(h0:g.en=g.pos):mrT E t g≠[]:=by
 unfold mrT
 split
 .next q=>
  obtain⟨c,hc,e1,e2,e3⟩:=acG h.fl h.el q h0
  rw[aci h e1 (by omega) _ hc]
  exact hne c (by simp[hc]) e3
 .next q=>
  obtain⟨c,hc,e1,e2,e3⟩:=acG h.fr h.er (h.ne.resolve_left q) h0
  rw[aci h e1 (by omega) _ hc]
  exact hne c (by simp[hc]) e3
theorem ac0(hx:Ext E E2){g:Grp}(h:(∀c∈g.l,c.id<=E.length)/\∀c∈g.r,c.id<=E.length):mrT E2 t g=mrT E t g/\cfl E2 t g=cfl E t g:=by
 unfold mrT cfl
 rw[abz hx h.1,abz hx h.2]
 exact⟨rfl,rfl⟩
theorem akS{last:Int}(h:bC t.length last [c]=true):cfl E t (oneG true c)=false/\aaW E t (oneG true c)=aas E c:=by
 refine⟨rfl,?_⟩
 obtain⟨a1,a2,a3,a4,a5,a6,-⟩:=aad h
 have hk:GOk t.length (oneG true c):=afc (p:=[]) (q:=[]) (abk h (by intro d hd;obtain rfl:c=d:=(by simpa[oneG]using hd);omega)) rfl
 have e:mrT E t (oneG true c)=txt E c.id:=by
  unfold mrT
  rw[af5 (by simp[oneG])]
  exact aci hk rfl rfl _ rfl
 unfold aaW aas
 rw[e]
 show(c.pos,c.pos+c.n-c.pos,_)=_
 rw[show c.pos+c.n-c.pos=c.n by omega]
theorem acI{E:List En}{t:List Nat}:∀{p:List bH} {last:Int},bC t.length last p=true->aax E t (p.map (oneG true))=p.map (oneG true)/\aaq E t (p.map (oneG true))=[]/\(p.map (oneG true)).map (aaW E t)=p.map (aas E)
 | [],_,_=>⟨rfl,rfl,rfl⟩
 |c::p,last,h=>by
  obtain⟨-,-,-,-,-,-,k⟩:=aad h
  obtain⟨i1,i2,i3⟩:=acI (E:=E) (t:=t) k
  obtain⟨j1,j2⟩:=akS (E:=E) (t:=t) (aaV [c] h).1
  refine⟨?_,?_,?_⟩
  .unfold aax at i1⊢;rw[ag8,aiv,af5 (by rw[j1];rfl),i1]
  .unfold aaq at i2⊢;rw[ag8,aiv,af4 (by rw[j1];simp),i2]
  .rw[ag8,ag8,ag8,i3,j2]
theorem ab2(E:List En)(t:List Nat)(G:List Grp):aax E t (G.map Grp.swap)=(aax E t G).map Grp.swap/\aaq E t (G.map Grp.swap)=(aaq E t G).map Grp.swap:=by
 unfold aax aaq
 rw[List.filter_map,List.filter_map]
 refine⟨?_,?_⟩
 .congr 1;exact List.filter_congr λg _=>by show(!cfl E t g.swap)=_;rw[adl]
 .congr 1;exact List.filter_congr λg _=>adl E t g
theorem ak6{G:List Grp}(h:∀g∈G,g.l≠[]\/g.r≠[]):(aax E t (G.map Grp.swap)).map (aaW E t)=(aax E t G).map (aaW E t):=by
 rw[(ab2 E t G).1,aiO]
 refine aiG λg hg=>?_
 unfold aax at hg
 obtain⟨h1,h2⟩:=ahB.1 hg
 show(g.pos,g.en-g.pos,mrT E t g.swap)=_
 rw[ak5 (by simpa using h2) (h g h1)];rfl
end M
end Go.Proofs.YtgbhohfabhilgaaGreatDoor
namespace Go.Proofs.YtgbhohfabhilgaaGreatDoor
open Go.RowKit Go.Lib
namespace M
variable{b lt rt:Nat}{X:Nat->Prop}{v vl vr:Value}{A C:World}
def GpC(W:World)(b:Nat)(vl vr:Value)(g:Grp)(lt rt:Nat)(cf:Bool):Prop:=
 W.heap[b]?=some (.cells #[vl,vr,.int .i64 g.pos,.int .i64 g.en,vI lt,vI rt,.bool cf] 170 (0,0))
theorem GpC.cells{W:World}{g:Grp}{cf:Bool}(h:GpC W b vl vr g lt rt cf):
    W.cell? ⟨b,0,none⟩=some vl/\W.cell? ⟨b,1,none⟩=some vr/\W.cell? ⟨b,2,none⟩=some (.int .i64 g.pos)/\W.cell? ⟨b,3,none⟩=some (.int .i64 g.en)/\W.cell? ⟨b,4,none⟩=some (vI lt)/\W.cell? ⟨b,5,none⟩=some (vI rt)/\W.cell? ⟨b,6,none⟩=some (.bool cf)/\∀i,W.frozen? ⟨b,i,none⟩=false:=by
 unfold GpC at h
 simp[World.cell?,World.frozen?,h]
def Kx(X:Nat->Prop)(A C:World):Prop:=∀t:TypeId,t∉Du->t≠155->∀k:Nat,¬X k->∀(cs:Array Value) (fz:Nat×Nat),A.heap[k]?=some (.cells cs t fz)->C.heap[k]?=some (.cells cs t fz)
theorem Kx.refl(X:Nat->Prop)(A:World):Kx X A A:=λ_ _ _ _ _ _ _ h=>h
theorem Kx.trans{D:World}(h:Kx X A C)(k:Kx X C D):Kx X A D:=λt a b i x cs fz e=>k t a b i x cs fz (h t a b i x cs fz e)
theorem Kx.of(h:Kd A C):Kx X A C:=λt a b i _ cs fz e=>h t a b i cs fz e
theorem Kx.kd(h:Kx (λ_=>False) A C):Kd A C:=λt a b i cs fz e=>h t a b i id cs fz e
theorem Kx.mono{Y:Nat->Prop}(h:Kx X A C)(hx:∀k,k<A.heap.size->X k->Y k):Kx Y A C:=λt a b i y cs fz e=>h t a b i (λq=>y (hx i (aga.1 e).1 q)) cs fz e
theorem Kx.sl{α:Type}(h:Kx X A C){lo:Nat}{e:TypeId}{size:Nat}{enc:α->List Value}{l:List α}(hs:aP lo A e size enc v l)(he:e∉Du)(he2:e≠155)(hX:∀b,v.ownBlock=some b->¬X b):aP lo C e size enc v l:=by
 refine⟨hs.1,?_⟩
 rcases hs.2 with hn|⟨g,cap,cur,hv,hg,hh,rest⟩
 .exact .inl hn
 .exact .inr ⟨g,cap,cur,hv,hg,h e he he2 g (hX g (by rw[hv];rfl)) _ _ hh,rest⟩
theorem Kx.gp(h:Kx X A C){g:Grp}{cf:Bool}(hg:GpC A b vl vr g lt rt cf)(hX:¬X b):GpC C b vl vr g lt rt cf:=h _ (by decide) (by decide) _ hX _ _ hg
theorem Kx.app{o:Obj}(hg:(A.alloc o).grownBy C v.ownBlock):Kx (λq=>v.ownBlock=some q) A C:=λt _ _ i x cs fz h=>
 iZ hg (by rw[<-h];exact((af6 A.heap.size A).alloc (af7 _) o).block i (aga.1 h).1) x
structure DkX(n0 B g pa mb kb k:Nat)(X:Nat->Prop)(E E':List En)(W w':World):Prop where
 dk:jO n0 w' B g pa mb kb E'
 ext:Ext E E'
 few:E'.length<=E.length+k
 Dx:Below n0 W w'
 kx:Kx X W w'
section
variable {n0 B g pa mb kb:Nat} {E:List En} {W:World} {X:Nat->Prop}
theorem DkX.trans{k1 k2:Nat}{E2 E3:List En}{w2 w3:World}(h:DkX n0 B g pa mb kb k1 X E E2 W w2)(k:DkX n0 B g pa mb kb k2 X E2 E3 w2 w3):DkX n0 B g pa mb kb (k1+k2) X E E3 W w3:=
 ⟨k.dk,h.ext.trans k.ext,by have:=h.few;have:=k.few;omega,h.Dx.trans k.Dx,h.kx.trans k.kx⟩
theorem DkX.of{k:Nat}{E2:List En}{w2:World}(h:mM n0 B g pa mb kb k E E2 W w2):DkX n0 B g pa mb kb k X E E2 W w2:=⟨h.dk,h.ext,h.few,h.Dx,.of h.kd⟩
theorem DkX.mono{k1 k2:Nat}{Y:Nat->Prop}{E2:List En}{w2:World}(h:DkX n0 B g pa mb kb k1 X E E2 W w2)(hk:k1<=k2)(hx:∀k,k<W.heap.size->X k->Y k):DkX n0 B g pa mb kb k2 Y E E2 W w2:=⟨h.dk,h.ext,af9 h.few (by omega),h.Dx,h.kx.mono hx⟩
theorem DkX.dks{k:Nat}{E2:List En}{w2:World}(h:DkX n0 B g pa mb kb k (λ_=>False) E E2 W w2):mM n0 B g pa mb kb k E E2 W w2:=⟨h.dk,h.ext,h.few,h.Dx,h.kx.kd⟩
end
theorem aah{α:Type}{A C:World}{lo k:Nat}{cs:Array Value}{t e:TypeId}{fz:Nat×Nat}{size:Nat}{enc:α->List Value}{v:Value}{l:List α}{o:Obj}(h:A.heap[k]?=some (.cells cs t fz))(hS:aP lo A e size enc v l)(hg:(A.alloc o).grownBy C v.ownBlock)(ht:t≠e):C.heap[k]?=some (.cells cs t fz):=
 iZ hg (by rw[<-h];exact((af6 A.heap.size A).alloc (af7 _) o).block k (aga.1 h).1) (λq=>by
  obtain⟨-,cur,e1⟩:=hS.blk q
  rw[h]at e1
  injection e1 with e1;injection e1 with _ e1 _;exact ht e1)
theorem aP.ap2{α β:Type}{n1 n2:Nat}{A C:World}{e e2:TypeId}{size Y4:Nat}{enc:α->List Value}{enc2:β->List Value}{v v2:Value}{l:List α}{l2:List β}{o:Obj}(h:aP n2 A e2 Y4 enc2 v2 l2)(hS:aP n1 A e size enc v l)(hg:(A.alloc o).grownBy C v.ownBlock)(ht:e2≠e):aP n2 C e2 Y4 enc2 v2 l2:=by
 refine⟨h.1,?_⟩
 rcases h.2 with hn|⟨g,cap,cur,hv,hg',hh,rest⟩
 .exact .inl hn
 .exact .inr ⟨g,cap,cur,hv,hg',aah hh hS hg ht,rest⟩
theorem Wv.xt{A B:List En}{ids:List Nat}{ts:List (List Nat)}(h:Wv A ids ts)(hx:Ext A B):Wv B ids ts:=⟨h.1,λj h1 h2=>(h.2 j h1 h2).ext hx⟩
section
variable {n0 B g pa mb kb k:Nat} {E E2:List En} {W:World} {X:Nat->Prop}
theorem DkX.blw{w2 w3:World}(h:DkX n0 B g pa mb kb k X E E2 W w2)(hb:Below w2.heap.size w2 w3):DkX n0 B g pa mb kb k X E E2 W w3:=
 ⟨h.dk.below hb,h.ext,h.few,h.Dx.trans (hb.mono h.dk.st.lt),h.kx.trans (.of (.of hb))⟩
theorem DkX.kt{k2:Nat}{E4:List En}{w w4:World}(h:DkX n0 B g pa mb kb k X E E2 W w)(s4:aW n0 w4 B 1048576 E4)(f4:iE E4)(x4:Ext E2 E4)(n4:E4.length<=E2.length+k2)(CL:Below n0 w w4)(zm:Kt B w w4):DkX n0 B g pa mb kb (k+k2) X E E4 W w4:=
 ⟨h.dk.kt' s4 f4 x4 zm CL,h.ext.trans x4,by have:=h.few;omega,h.Dx.trans CL,h.kx.trans (.of (.kt zm))⟩
theorem DkX.app{α:Type}{lo:Nat}{e:TypeId}{size:Nat}{enc:α->List Value}{v:Value}{l:List α}{cs:Array Value}{w w5:World}(h:DkX n0 B g pa mb kb k X E E2 W w)(hS:aP lo w e size enc v l)(hg:(w.alloc (.cells cs e)).grownBy w5 v.ownBlock)(hb:Below lo w w5)(he:e≠127/\e≠142/\e≠124/\e≠129/\e≠140/\e≠136)(hlo:n0<=lo)(hX:∀i,i<W.heap.size->v.ownBlock=some i->X i):DkX n0 B g pa mb kb k X E E2 W w5:=
 ⟨h.dk.app hS hg he hlo,h.ext,h.few,h.Dx.trans (hb.mono hlo),λt a b i x cs fz q=>Kx.app hg t a b i (λy=>x (hX i (aga.1 q).1 y)) cs fz (h.kx t a b i x cs fz q)⟩
end
theorem zZ.Ig{E:List En}{L:List bH}(h:zZ E L){c:bH}(hc:c∈L):fT E c.id (txt E c.id):=⟨(h c hc).1,rfl,(h c hc).2⟩
def adq(E:List En)(t:List Nat):Nat->List bH->List Nat
 |_,[]=>[]
 |f,c::L=>(t.drop f).take (c.pos.toNat-f)++(txt E c.id++adq E t (c.pos+c.n).toNat L)
theorem ac1{α:Type}(t:List α)(a f k:Nat)(h:f+k<=a):((t.take a).drop f).take k=(t.drop f).take k:=by
 rw[List.drop_take,akh,aio (by omega)]
theorem afN{E:List En}{t:List Nat}{e:Int}(ht:e<=t.length):∀(L:List bH) (last:Int) (f:Nat),bC e last L=true->(f:Int)<=last+1->(f:Int)<=e->adq E t f (L++[⟨e,0,0⟩])=cO E (t.take e.toNat) f L
 | [],last,f,_,_,hf=>by
  show(t.drop f).take (e.toNat-f)++(txt E 0++[])=(t.take e.toNat).drop f
  rw[cZ,agi,agi,List.drop_take]
 |c::L,last,f,h,h1,h2=>by
  obtain⟨a1,a2,a3,a4,a5,a6,a7⟩:=aad h
  show(t.drop f).take (c.pos.toNat-f)++(txt E c.id++adq E t (c.pos+c.n).toNat (L++[⟨e,0,0⟩]))=((t.take e.toNat).drop f).take (c.pos.toNat-f)++(txt E c.id++cO E (t.take e.toNat) (c.pos+c.n).toNat L)
  rw[afN ht L _ _ a7 (by omega) (by omega),ac1 _ _ _ _ (by omega)]
def SOk(E:List En)(len:Nat):Nat->List bH->Prop
 |_,[]=>True
 |f,c::L=>(f:Int)<=c.pos/\0<=c.n/\c.pos+c.n<=len/\fT E c.id (txt E c.id)/\SOk E len (c.pos+c.n).toNat L
theorem ak7{E:List En}{len:Nat}{e:Int}(he:e<=len):∀(L:List bH) (last:Int) (f:Nat),bC e last L=true->(f:Int)<=last+1->(f:Int)<=e->zZ E L->SOk E len f (L++[⟨e,0,0⟩])
 | [],_,f,_,_,h,_=>⟨h,ako _,by show e+0<=len;omega,⟨agb _,rfl,rfl⟩,trivial⟩
 |c::L,last,f,h,h1,h2,hT=>by
  obtain⟨a1,a2,a3,a4,a5,a6,a7⟩:=aad h
  exact⟨by omega,a3,by omega,hT.Ig (by simp),ak7 he L _ _ a7 (by omega) (by omega) (λd hd=>hT d (by simp[hd]))⟩
theorem Wv.snoc{E:List En}{ids:List Nat}{ts:List (List Nat)}{i:Nat}{t:List Nat}(h:Wv E ids ts)(hb:fT E i t):Wv E (ids++[i]) (ts++[t]):=by
 refine⟨by simp[h.1],λj h1 h2=>?_⟩
 by_cases hq:j<ids.length
 .rw[ajk hq,ajk (by rw[<-h.1];exact hq)];exact h.2 j hq _
 .have e:j=ids.length:=by simp at h1;omega
  subst e
  rw[ah_ (af7 _)]
  have e2:(ts++[t])[ids.length]'h2=t:=by
   rw[ah_ (by rw[h.1];exact af7 _)];simp
  rw[e2];simpa using hb
end M
end Go.Proofs.YtgbhohfabhilgaaGreatDoor
namespace Go.Proofs.YtgbhohfabhilgaaGreatDoor
open Go.RowKit Go.Lib
namespace M
attribute [local go_sem] Oper.semAt_some
theorem Kx.then{X Y:Nat->Prop}{A C D:World}(h:Kx X A C)(k:Kx Y C D)(hy:∀i,i<A.heap.size->Y i->X i):Kx X A D:=λt a b i x cs fz e=>k t a b i (λy=>x (hy i (aga.1 e).1 y)) cs fz (h t a b i x cs fz e)
theorem Kx.blw{X:Nat->Prop}{A C:World}(h:Below A.heap.size A C):Kx X A C:=.of (.of h)
def SdP(n0 B g pa mb kb k:Nat)(E:List En)(W:World)(v:Value)(t:List Nat)(e:Ending)(w':World):Prop:=
 ∃E' j,e=.returned (.tuple #[vI j,.nilIface])/\DkX n0 B g pa mb kb k (λq=>v.ownBlock=some q) E E' W w'/\fT E' j t
def SdI(n0 B g pa mb kb lo:Nat)(E:List En)(W:World)(v v2:Value)(t T:List Nat)(L2:List bH)(j f:Nat)(pv:Value)(wr:World):Prop:=
 ∃E1 ids ts,Ids W.heap.size wr pv ids/\Wv E1 ids ts/\ts.flatten++adq E t f (L2.drop j)=T/\SOk E t.length f (L2.drop j)/\ids.length<=2*j/\DkX n0 B g pa mb kb (j*1080) (λq=>v.ownBlock=some q) E E1 W wr/\mg lo wr v2 L2/\f<=t.length
theorem ak8{b:Nat}{w:World}{pv:Value}{ids:List Nat}(h:Ids b w pv ids){X:Nat->Prop}:∀i,i<b->(λq=>pv.ownBlock=some q) i->X i:=λi hi hq=>by
 have:=(aP.blk h hq).1
 omega
theorem adr{n0 B g pa mb kb:Nat}{E:List En}{W:World}(h:jO n0 W B g pa mb kb E){i:Nat}{t:List Nat}(hb:fT E i t){lo gb:Nat}{v vl vr:Value}{L:List bH}{gr:Grp}{lt rt:Nat}{cf:Bool}(hC:mg lo W v L)(hlo:n0<=lo)(hlo2:lo<=W.heap.size)(hG:GpC W gb vl vr gr lt rt cf)(hO:GOk t.length gr)(hf:bC t.length (gr.pos-1) L=true)(he:yE (gr.pos-1) L<=gr.en)(hT:zZ E L)(hL:L.length<=12)(ht:t.length<=600)(hsl:(sdT E t gr L).length<=900){k:Nat}(hk:2320*L.length=k)(hE:E.length+k<=1048575):
    Calls Tryz.prog 158 #[.pointer (some ⟨B,0,none⟩),.int .i64 i,.pointer (some ⟨gb,0,none⟩),v] W (SdP n0 B g pa mb kb k E W v (sdT E t gr L)):=by
 have HF:∀f,Fence.wide.fn f:=λ_=>trivial
 by_cases hnil:L=[]
 .subst hnil
  obtain⟨va,vc,rfl⟩:=hC.len
  have HR:aA (∀w,Below W.heap.size W w->SdP n0 B g pa mb kb k E W (.slice va 0 vc) (sdT E t gr []) (.returned (.tuple #[.int .i64 0,.nilIface])) w):=ak λw hw=>⟨E,0,rfl,(DkX.of (.of h hw)).mono (by omega) (λ_ _ q=>q),by rw[aly];exact⟨agb _,cZ _,rfl⟩⟩
  clear h hb hC hG hO hf he hT hsl
  go_enter Tryz.func158,Tryz.ntmps158
  go_wp2_with fail
  exact af_ (v:=.tuple #[.int .i64 0,.nilIface]) (by simp[results,Tryz.results158,go_sem]) rfl (HR.o _ (af6 _ _))
 obtain⟨c,L',rfl⟩:∃c L',L=c::L':=by
  cases L with
  |nil=>exact absurd rfl hnil
  |cons c L'=>exact⟨c,L',rfl⟩
 obtain⟨gL,cap,rfl,hc1,hc2,hc⟩:=hC.at (i:=0) (by simp)
 obtain⟨q0,q1,q2⟩:=hc W (af6 _ _) 0 (by simp)
 simp only[ajq,aiS,ahi]at q0 q1 q2
 obtain⟨ln,hln⟩:=ay (L'.length)
 simp only[agc,hln]at hc1 hL hk hC⊢
 have gl:¬((ln+1:Nat):Int)=0:=by omega
 have gl':(((ln+1:Nat):Int)==0)=false:=agh.2 gl
 obtain⟨wz,w1,hz,hs1,kc,bc,⟨p0,p1,p2⟩,f0,f1,f2⟩:=xg W c
 have hn0:=h.st.lt
 obtain⟨gc,hgc⟩:=ay (W.heap.size)
 have hw1s:gc<w1.heap.size:=by rw[hgc]at kc;exact(aga.1 kc).1
 obtain⟨a1,a2,a3,a4,a5,a6,a7⟩:=aad hf
 have o1:=hO.lo;have o2:=hO.le;have o3:=hO.hi
 have HG1:aA (∀w,Below w1.heap.size w1 w->GpC w gb vl vr gr lt rt cf):=ak λw hw=>au hw (au bc hG)
 have HKC:aA (∀w,Below w1.heap.size w1 w->IG w gc c):=ak λw hw=>au hw (by rw[<-hgc];exact kc)
 rw[hgc]at hs1 p0 p1 p2 f0 f1 f2
 have hw:IntKind.i64.wrap (c.pos+c.n)=c.pos+c.n:=by rw[agd];omega
 have HB1:=ak bc
 have HH:=ak h
 have HQ:=ak (And.intro hb (And.intro hC (And.intro hO (And.intro hf (And.intro he (And.intro hT hsl))))))
 clear h hb hC hG hO hf he hT hsl hc kc bc hnil
 go_enter Tryz.func158,Tryz.ntmps158
 go_upto_region 4 with(fail)
 clear hz hs1 p0 p1 p2 f0 f1 f2 q0 q1 q2 gl gl'
 go_cut [41] from 17 (λtv w=>tv=.bool (decide (c.pos=gr.pos/\c.pos+c.n=gr.en))/\Below w1.heap.size w1 w)
 case first=>
  have y0:∀w,Below w1.heap.size w1 w->w.cell? ⟨gc,0,none⟩=some (.int .i64 c.pos):=λw hw=>(HKC.o w hw).cells.1
  have y1:∀w,Below w1.heap.size w1 w->w.cell? ⟨gc,1,none⟩=some (.int .i64 c.n):=λw hw=>(HKC.o w hw).cells.2.1
  have z2:∀w,Below w1.heap.size w1 w->w.cell? ⟨gb,2,none⟩=some (.int .i64 gr.pos):=λw hw=>(HG1.o w hw).cells.2.2.1
  have z3:∀w,Below w1.heap.size w1 w->w.cell? ⟨gb,3,none⟩=some (.int .i64 gr.en):=λw hw=>(HG1.o w hw).cells.2.2.2.1
  refine dD (S:=Below w1.heap.size w1) ((af6 _ _).drew) λwq S0=>?_
  by_cases h1:c.pos=gr.pos
  .have h1':(c.pos==gr.pos)=true:=ahf.2 h1
   have H1:=ak h1
   clear h1
   by_cases h2:c.pos+c.n=gr.en
   .have h2':(c.pos+c.n==gr.en)=true:=ahf.2 h2
    have H2:=ak h2
    clear h2
    refine bJ 0 1 2 3 4 5 ?_
    refine bJ 6 7 8 9 10 11 ?_
    refine bJ 12 13 14 15 16 17 ?_
    refine tk1 18 ?_
    refine aO ?_
    go_wp2_with fail
    go_meet
    case rel=>exact⟨by rw[agw ⟨H1.o,H2.o⟩],S0⟩
   .have h2':(c.pos+c.n==gr.en)=false:=agh.2 h2
    have H2:=ak h2
    clear h2
    refine bJ 0 1 2 3 4 5 ?_
    refine bJ 6 7 8 9 10 11 ?_
    refine bJ 12 13 14 15 16 17 ?_
    refine tk1 18 ?_
    refine aO ?_
    go_wp2_with fail
    go_meet
    case rel=>exact⟨by rw[agD (λq=>H2.o q.2)],S0⟩
  .have h1':(c.pos==gr.pos)=false:=agh.2 h1
   have H1:=ak h1
   clear h1
   refine bJ 0 1 2 3 4 5 ?_
   refine tk2 6 7 ?_
   refine aJ.sk 8 ?_
   refine aJ.sk 9 ?_
   refine aJ.sk 10 ?_
   refine aJ.sk 11 ?_
   refine aJ.sk 12 ?_
   refine aJ.sk 13 ?_
   refine aJ.sk 14 ?_
   refine aJ.sk 15 ?_
   refine aJ.sk 16 ?_
   refine aJ.sk 17 ?_
   refine tk1 18 ?_
   refine aO ?_
   go_wp2_with fail
   go_meet
   case rel=>exact⟨by rw[agD (λq=>H1.o q.1)],S0⟩
 obtain⟨rfl,hS0⟩:=hcut
 by_cases h12:c.pos=gr.pos/\c.pos+c.n=gr.en
 .rw[agw h12]
  have y2:=(HKC.o wc hS0).cells.2.2
  have HR:aA (SdP n0 B g pa mb kb k E W (.slice (some ⟨gL,0,none⟩) (ln+1) cap) (sdT E t gr (c::L')) (.returned (.tuple #[.int .i64 c.id,.nilIface])) wc):=ak (by
   obtain⟨hb,hC,hO,hf,he,hT,hsl⟩:=HQ.o
   obtain rfl:=afH hf he h12.2
   refine⟨E,c.id,rfl,(DkX.of (.of HH.o (Below.after HB1.o hS0))).mono (by omega) (λ_ _ q=>q),?_⟩
   rw[aci hO h12.1 h12.2 _ rfl];exact hT.Ig (by simp))
  clear h12
  go_wp2_with fail
  exact af_ (v:=.tuple #[.int .i64 c.id,.nilIface]) (by simp[results,Tryz.results158,go_sem]) rfl HR.o
 rw[agD h12]
 have y2:=(HG1.o wc hS0).cells
 have z2:=y2.2.2.1
 have z3:=y2.2.2.2.1
 clear h12 y2
 have hCc:=HQ.o.2.1.below (Below.after HB1.o hS0)
 have UA:=ak hCc
 have al6:lo<=wc.heap.size:=af9 hlo2 (Below.after HB1.o hS0).size
 clear hCc
 go_wp2_with (first
  | (at_builtin;refine bP (v:=.slice (some ⟨gL,0,none⟩) (ln+1) cap) vg iV rfl _ _ rfl rfl UA.o ⟨gr.en,0,0⟩ rfl rfl ?c1 ?c2 al6 ?_))
 case c1=>simp[w_,Value.oneCell']
 case c2=>simp;omega
 intro v2 w2 hS2 hg2 hb2
 obtain⟨L2,hL2⟩:=ay ((c::L')++[(⟨gr.en,0,0⟩:bH)])
 obtain⟨T,hTT⟩:=ay (sdT E t gr (c::L'))
 have hl2:L2.length=ln+2:=by rw[<-hL2];simp[hln]
 have hI0:SdI n0 B g pa mb kb lo E W (.slice (some ⟨gL,0,none⟩) (ln+1) cap) v2 t T L2 0 gr.pos.toNat (.slice none 0 0) w2:=by
  obtain⟨hb,hC,hO,hf,he,hT,hsl⟩:=HQ.o
  have hf2:=acn (e:=gr.en) (by omega) hf he
  have hbw:=Below.after HB1.o hS0
  refine⟨E,[],[],aP.nil _ _ _ _ _,⟨rfl,λj h=>by simp at h⟩,?_,?_,agb _,⟨(HH.o.below hbw).app UA.o hg2 (by decide) hlo,Ext.refl _,by omega,(hbw.mono hn0).trans (hb2.mono hlo),(Kx.blw hbw).then (Kx.app hg2) (λ_ _ q=>q)⟩,by rw[<-hL2];exact hS2,by omega⟩
  .rw[agj,<-hL2,afN o3 _ (gr.pos-1) _ hf2 (by omega) (by omega),<-hTT]
   unfold sdT
   rw[af4 (by simp)];rfl
  .rw[agj,<-hL2]
   exact ak7 o3 _ (gr.pos-1) _ hf2 (by omega) (by omega) hT
 replace hS2:mg lo w2 v2 L2:=by rw[<-hL2];exact hS2
 obtain⟨ab,cb,hv2⟩:=hS2.len
 rw[hl2]at hv2
 subst hv2
 have hpn:gr.pos=((gr.pos.toNat:Nat):Int):=by omega
 obtain⟨ps,hps⟩:=ay (gr.pos.toNat)
 rw[hps]at hI0 hpn
 have HTE:=ak hTT
 have HI0:=ak hI0;have Qc:=ak hpn;have HL2:=ak hl2;have jU:=ak (And.intro hn0 (And.intro hk (And.intro hE (And.intro hL ht))))
 have HBI:=ak (And.intro HQ.o.1 (show T.length<=900 by rw[<-hTT];exact HQ.o.2.2.2.2.2.2))
 clear hS2 hg2 hb2 hI0 hl2 hL2 hTT hpn hps hn0 hw a1 a2 a3 a4 a5 a6 a7 o1 o2 o3 al6 z2 z3 HKC HG1 HQ UA hL hk ht hE hw1s hc1 hc2 HH hln hlo2 hgc
 go_wp2_with fail
 go_loopw [11,12,57] (λpv fv iv wr=>∃j f:Nat,iv=.int .i64 j/\fv=.int .i64 f/\j<=ln+2/\SdI n0 B g pa mb kb lo E W (.slice (some ⟨gL,0,none⟩) (ln+1) cap) (.slice ab (ln+2) cb) t T L2 j f pv wr) (λ_ _ iv _=>ln+2-(intOf iv).toNat)
 case atStart=>exact⟨0,ps,rfl,by rw[Qc.o],agb _,HI0.o⟩
 case round=>
  clear HI0 Qc
  obtain⟨j,f,rfl,rfl,hj,E1,ids,ts,hI,hB,hT,alL,hil,hX,hC2,hft⟩:=hrel
  obtain⟨pa',pc',hpv⟩:=hI.len
  obtain⟨m,hm⟩:=ay (ids.length)
  rw[hm]at hpv
  subst hpv
  by_cases hlt:j<ln+2
  .have hlt2:(j:Int)<((ln+2:Nat):Int):=by omega
   have hlt3:(0:Int)<=(j:Int):=by omega
   have hwj:IntKind.i64.wrap ((j:Int)+1)=((j+1:Nat):Int):=by rw[agd];have:=jU.o.2.2.2.1;omega
   have hjl:j<L2.length:=by rw[HL2.o];exact hlt
   rw[ahc hjl]at hT alL
   obtain⟨g2,cap2,hv,-,-,hc⟩:=hC2.at hjl
   simp only[agn]at hv
   obtain⟨rfl,-,rfl⟩:=hv
   obtain⟨q0,q1,q2⟩:=hc wr (af6 _ _) j hjl
   generalize L2[j]=c1 at *
   obtain⟨s1,s2,s3,s4,s5⟩:=alL
   obtain⟨wz1,w3,hz1,hs3,kc1,bc1,⟨p0,p1,p2⟩,f0,f1,f2⟩:=xg wr c1
   obtain⟨gc1,abW⟩:=ay (wr.heap.size)
   rw[abW]at hs3 p0 p1 p2 f0 f1 f2 kc1
   obtain⟨y0,y1,y2⟩:=kc1.cells
   obtain⟨f',hf'⟩:=ay ((c1.pos+c1.n).toNat)
   have hwp:IntKind.i64.wrap (c1.pos+c1.n)=(f':Int):=by rw[agd];have:=jU.o.2.2.2.2;omega
   obtain⟨d,hd⟩:=ay ((c1.pos-(f:Int)).toNat)
   have hws:IntKind.i64.wrap (c1.pos-(f:Int))=(d:Int):=by rw[agd];have:=jU.o.2.2.2.2;omega
   rw[hf']at s5
   have hT':ts.flatten++((t.drop f).take d++(txt E c1.id++adq E t f' (L2.drop (j+1))))=T:=by rw[<-hT,<-hf',<-hd];show _=_++((t.drop f).take (c1.pos.toNat-f)++_);rw[show(c1.pos-(f:Int)).toNat=c1.pos.toNat-f by omega]
   have HST:=ak (And.intro hI (And.intro hB (And.intro hT' (And.intro s5 (And.intro hil (And.intro hX (And.intro hC2 (And.intro s4 (And.intro bc1 (And.intro kc1 (And.intro hm hf')))))))))))
   have iI:=ak (And.intro hlt (And.intro abW (show f'<=t.length/\f+d<=t.length by omega)))
   clear hI hB hT hT' s1 s2 s3 s4 s5 hil hX hC2 bc1 kc1 hc hft hf' hlt hjl hm
   go_upto_if 64 with(fail)
   clear hz1 hs3 p0 p1 p2 f0 f1 f2 q0 q1 q2 hlt2 hlt3 abW
   go_cut [11] from 58 to 93 (λpv w=>∃E4 abL ts4,Ids W.heap.size w pv abL/\Wv E4 abL ts4/\ts4.flatten++(txt E c1.id++adq E t f' (L2.drop (j+1)))=T/\abL.length<=2*j+1/\DkX n0 B g pa mb kb ((j+1)*1080) (λq=>(Value.slice (some ⟨gL,0,none⟩) (ln+1) cap).ownBlock=some q) E E4 W w/\mg lo w (.slice (some ⟨g2,0,none⟩) (ln+2) cb) L2/\IG w gc1 c1)
   case first=>
    by_cases hgt:(f:Int)<c1.pos
    .have g1:c1.pos>(f:Int):=hgt
     have Vr:aA (Calls Tryz.prog 121 #[.pointer (some ⟨B,0,none⟩),.int .i64 i,.int .i64 (f:Nat),.int .i64 (d:Nat)] w3 (uH n0 B 1048576 (bZ 13) E1 w3 ((t.drop f).take d))):=ak (by
      obtain⟨hI,hB,hT',s5,hil,hX,hC2,s4,bc1,kc1,hm,hf'⟩:=HST.o
      obtain⟨n1,n2,n3,n4,n5⟩:=jU.o
      have hX3:=hX.blw bc1
      have hf3:=hX.few
      have hlt:=iI.o.1
      have hle:=iI.o.2.2
      exact IJ Zb hX3.dk.st hX3.dk.wf (HBI.o.1.ext hX3.ext) (by omega) (by omega) (by rw[GR];omega) (by rw[GR];omega))
     clear hgt hd
     go_wp2_with fail
     refine Vr.o.mono ?_
     rintro e w4 ⟨E4,i4,rfl,s4,f4,x4,n4,xW,CL,zm⟩
     obtain⟨hI,hB,hT',s5,hil,hX,hC2,s4',bc1,kc1,hm,hf'⟩:=HST.o
     have hX4:=(hX.blw bc1).kt s4 f4 x4 n4 CL zm
     have hI4:Ids W.heap.size w4 (.slice pa' m pc') ids:=aP.keep (hI.below bc1) (zm.lX (by decide) (by decide))
     have hC4:mg lo w4 (.slice (some ⟨g2,0,none⟩) (ln+2) cb) L2:=aP.keep (hC2.below bc1) (zm.lX (by decide) (by decide))
     have hK4:IG w4 gc1 c1:=zm.cells _ (by decide) (by decide) _ _ _ kc1
     have uE:W.heap.size<=w4.heap.size:=hX4.Dx.size
     have alM:ids.length+1<=2000:=by have:=jU.o.2.2.2.1;have:=iI.o.1;omega
     have Rv:=ak hX4;have HI4:=ak hI4;have HC4:=ak hC4;have uF:=ak hK4
     have cB:aA (Wv E4 (ids++[i4]) (ts++[(t.drop f).take d])):=ak ((hB.xt x4).snoc xW)
     clear s4 f4 x4 n4 xW CL zm hI hB hT' s5 hX hC2 s4' bc1 kc1 hf' hX4 hI4 hC4 hK4
     go_wp2_with (first
      | (at_builtin;refine bP (v:=.slice pa' m pc') elemId bX rfl _ _ rfl rfl HI4.o i4 rfl rfl ?c1 ?c2 uE ?_))
     case c1=>simp[gF,Value.oneCell']
     case c2=>omega
     intro v5 w5 hS5 hg5 hb5
     have HR:aA (∃E4 abL ts4,Ids W.heap.size w5 v5 abL/\Wv E4 abL ts4/\ts4.flatten++(txt E c1.id++adq E t f' (L2.drop (j+1)))=T/\abL.length<=2*j+1/\DkX n0 B g pa mb kb ((j+1)*1080) (λq=>(Value.slice (some ⟨gL,0,none⟩) (ln+1) cap).ownBlock=some q) E E4 W w5/\mg lo w5 (.slice (some ⟨g2,0,none⟩) (ln+2) cb) L2/\IG w5 gc1 c1):=ak
      ⟨E4,ids++[i4],ts++[(t.drop f).take d],hS5,cB.o,by rw[ais,agf];simpa using HST.o.2.2.1,by rw[af8];have:=HST.o.2.2.2.2.1;simp;omega,
       (Rv.o.app HI4.o hg5 hb5 (by decide) jU.o.1 (ak8 HI4.o)).mono (by rw[GR];omega) (λ_ _ q=>q),aP.ap2 HC4.o HI4.o hg5 (by decide),aah uF.o HI4.o hg5 (by decide)⟩
     clear hS5 hg5 hb5 hil alM hm
     go_wp2_with fail
     go_meet
     case rel=>exact HR.o
    .have g1:¬c1.pos>(f:Int):=by omega
     have HR:aA (∃E4 abL ts4,Ids W.heap.size w3 (.slice pa' m pc') abL/\Wv E4 abL ts4/\ts4.flatten++(txt E c1.id++adq E t f' (L2.drop (j+1)))=T/\abL.length<=2*j+1/\DkX n0 B g pa mb kb ((j+1)*1080) (λq=>(Value.slice (some ⟨gL,0,none⟩) (ln+1) cap).ownBlock=some q) E E4 W w3/\mg lo w3 (.slice (some ⟨g2,0,none⟩) (ln+2) cb) L2/\IG w3 gc1 c1):=ak (by
      obtain⟨hI,hB,hT',s5,hil,hX,hC2,s4,bc1,kc1,hm,hf'⟩:=HST.o
      refine⟨E1,ids,ts,hI.below bc1,hB,?_,by omega,(hX.blw bc1).mono (by omega) (λ_ _ q=>q),hC2.below bc1,kc1⟩
      rw[<-hT',show d=0 by omega,ah5,agH])
     clear hgt hd
     go_wp2_with fail
     go_meet
     case rel=>exact HR.o
   obtain⟨E4,abL,ts4,hI4,hB4,hT4,hl4,hX4,hC4,hK4⟩:=hcut
   obtain⟨pb,pd,hpv⟩:=hI4.len
   obtain⟨m4,hm4⟩:=ay (abL.length)
   rw[hm4]at hpv
   subst hpv
   obtain⟨-,-,y2⟩:=hK4.cells
   have uE:W.heap.size<=wc.heap.size:=hX4.Dx.size
   have alM:abL.length+1<=2000:=by have:=jU.o.2.2.2.1;have:=iI.o.1;omega
   have Rv:=ak hX4;have HI4:=ak hI4;have HC4:=ak hC4;have uF:=ak hK4;have HL4:=ak hl4
   have cB:aA (Wv E4 (abL++[c1.id]) (ts4++[txt E c1.id])):=ak (hB4.snoc (by
    obtain⟨h1,h2,h3⟩:=HST.o.2.2.2.2.2.2.2.1
    have:=h1
    exact fT.ext ⟨h1,h2,h3⟩ hX4.ext))
   have qG:=ak hT4
   clear hI4 hB4 hT4 hl4 hX4 hC4 hK4 hm4 y0 y1
   go_wp2_with (first
    | (at_builtin;refine bP (v:=.slice pb m4 pd) elemId bX rfl _ _ rfl rfl HI4.o c1.id rfl rfl ?c1 ?c2 uE ?_))
   case c1=>simp[gF,Value.oneCell']
   case c2=>omega
   intro v6 w6 G7 lu hb6
   obtain⟨y3,y4,-⟩:=IG.cells (show IG w6 gc1 c1 from aah uF.o HI4.o lu (by decide))
   have HN:aA (SdI n0 B g pa mb kb lo E W (.slice (some ⟨gL,0,none⟩) (ln+1) cap) (.slice (some ⟨g2,0,none⟩) (ln+2) cb) t T L2 (j+1) f' v6 w6):=ak
    ⟨E4,abL++[c1.id],ts4++[txt E c1.id],G7,cB.o,by rw[ais,agf];simpa using qG.o,HST.o.2.2.2.1,by rw[af8];have:=HL4.o;simp;omega,
     Rv.o.app HI4.o lu hb6 (by decide) jU.o.1 (ak8 HI4.o),aP.ap2 HC4.o HI4.o lu (by decide),iI.o.2.2.1⟩
   clear G7 lu hb6 alM y2
   go_wp2_with fail
   clear y3 y4
   go_roundw
   case rel=>exact⟨j+1,f',rfl,rfl,by have:=iI.o.1;omega,HN.o⟩
   case measure=>have:=iI.o.1;simp[intOf];omega
  .obtain rfl:j=ln+2:=by omega
   have hlt2:¬((ln+2:Nat):Int)<((ln+2:Nat):Int):=by omega
   obtain⟨n1,n2,n3,n4,n5⟩:=jU.o
   rw[List.drop_eq_nil_of_le (by rw[HL2.o];exact af7 _)]at hT
   replace hT:ts.flatten=T:=by rw[<-hT];exact(agi _).symm
   have hf3:=hX.few
   have UA:aA (Calls Tryz.prog 71 #[.pointer (some ⟨B,0,none⟩),.slice pa' m pc'] wr (uH n0 B 1048576 (ids.length*(3*13+1)) E1 wr ts.flatten)):=ak
    (CG Zb hX.dk.st hX.dk.wf hI hB (by rw[hT];exact HBI.o.2) (by omega) (by omega) (by omega))
   have HX:=ak hX
   clear alL hI hB hC2 hX
   go_wp2_with fail
   refine UA.o.mono ?_
   rintro e w4 ⟨E4,i4,rfl,s4,f4,x4,n4',xW,CL,zm⟩
   have HR:aA (SdP n0 B g pa mb kb k E W (.slice (some ⟨gL,0,none⟩) (ln+1) cap) T (.returned (.tuple #[.int .i64 (i4:Nat),.nilIface])) w4):=ak
    ⟨E4,i4,rfl,(HX.o.kt s4 f4 x4 n4' CL zm).mono (by omega) (λ_ _ q=>q),by rw[<-hT];exact xW⟩
   clear s4 f4 x4 n4' xW CL zm hT
   go_wp2_with fail
   exact af_ (v:=.tuple #[.int .i64 (i4:Nat),.nilIface]) (by simp[results,Tryz.results158,go_sem]) rfl (by rw[HTE.o];exact HR.o)
end M
end Go.Proofs.YtgbhohfabhilgaaGreatDoor
