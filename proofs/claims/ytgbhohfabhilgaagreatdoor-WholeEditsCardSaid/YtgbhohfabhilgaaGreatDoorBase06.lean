import Derived.Test.YtgbhohfabhilgaaGreatDoorBase03
import Derived.Test.YtgbhohfabhilgaaGreatDoorBase04
set_option maxRecDepth 100000
set_option maxHeartbeats 8000000
set_option linter.unusedVariables false
set_option linter.unusedSimpArgs false
namespace Go.Proofs.YtgbhohfabhilgaaGreatDoor
namespace M
variable{b:Bool}{t:List Nat}{m s u:List Sy}{h i k n:Nat}{l o r ra rb root x y z:Sy}
def aV:Sy->List Nat
 | .lt b=>[b]
 | .pr l r=>aV l++aV r
 | .pw x k=>(List.replicate k (aV x)).flatten
def dA(s:List Sy):List Nat:=s.flatMap aV
theorem bV(s t:List Sy):dA (s++t)=dA s++dA t:=by unfold dA;rw[ag_]
theorem jH(x:Sy)(t:List Sy):dA (x::t)=aV x++dA t:=rfl
theorem El(h:0<aQ y):dA (aZ y)=aV y:=by
 cases y with
 |lt b=>exact absurd h (ahh 0)
 |pr l r=>simp[dA,aZ,aV]
 |pw x k=>simp only[dA,aZ,aV,aiV]
theorem Q7(n:Nat)(s:List Sy):dA (jk (n+1) s)=dA s:=by
 induction s with
 |nil=>rfl
 |cons y s ih=>
  rw[gy,bV,ih,jH];by_cases h:aQ y=n+1
  .rw[af5 h,El (by omega)]
  rw[af4 h];simp[dA]
theorem Xo:∀(n:Nat) (t:List Nat),dA (S n t)=t
 |0,t=>by
  show dA (t.map .lt)=t
  induction t with
  |nil=>rfl
  |cons b t ih=>rw[ag8,jH,ih];rfl
 |n+1,t=>by rw[<-Q7 n,Xl];exact Xo n t
theorem gY:∀{y:Sy},jF y->0<(aV y).length
 | .lt b,_=>by show 0<[b].length;simp
 | .pr l r,h=>by
  have:=gY h.1
  show 0<(aV l++aV r).length
  rw[af8];omega
 | .pw x k,h=>by
  have:=gY h.1
  have hk:=h.2.2
  show 0<(List.replicate k (aV x)).flatten.length
  rw[aiF,aij,aiD]
  exact ajc (by omega) this
theorem yG(n:Nat):∀{y:Sy},jF y->0<(ex n y).length
 | .lt b,_=>by show 0<[Sy.lt b].length;simp
 | .pr l r,h=>by
  by_cases hl:aQ (.pr l r)<=n
  .rw[qh hl];simp
  .have:=yG n h.1
   unfold ex
   rw[af4 hl,af8];omega
 | .pw x k,h=>by
  by_cases hl:aQ (.pw x k)<=n
  .rw[qh hl];simp
  .have:=yG n h.1
   have hk:=h.2.2
   unfold ex
   rw[af4 hl,aiF,aij,aiD]
   exact ajc (by omega) this
theorem ZA(h:jF y)(hl:n<aQ y):2<=(ex n y).length:=by
 cases y with
 |lt b=>exact absurd hl (aiw _)
 |pr l r=>
  have h1:=yG n h.1;have h2:=yG n h.2.1;unfold ex;rw[af4 (by omega),af8];omega
 |pw x k=>
  have h1:=yG n h.1;have hk:=h.2.2;unfold ex;rw[af4 (by omega),aiF,aij,aiD];exact af9 hk (ajp k h1)
theorem ZB(h:Nb (n+246) x y)(hx:aQ x<=n)(hy:aQ y<=n):False:=by
 obtain⟨d,hd,hf⟩:=Me (jP x) (jP y) n;have:=h.no (n+1+d) (by omega) (by omega) (by omega);unfold yx at this;rw[af4 (by have:=sV hf;omega),hf]at this;cases this
theorem Mt(n:Nat):∀s:List Sy,Norm (n+246) s->3*s.length<=2*(s.flatMap (ex n)).length+1/\(∀x t,s=x::t->n<aQ x->3*s.length<=2*(s.flatMap (ex n)).length)
 | [],_=>⟨by simp,λx t h=>by cases h⟩
 |x::t,h=>by
  have ht:Norm (n+246) t:=by rw[<-ajt]at h;exact h.right
  obtain⟨i1,i2⟩:=Mt n t ht
  have ok:=h.ok x (by simp)
  rw[agW,af8,agc]
  by_cases hx:n<aQ x
  .have:=ZA ok hx
   exact⟨by omega,λy t' e _=>by omega⟩
  .have h1:=yG n ok
   refine⟨?_,λy t' e hy=>by injection e with e1 e2;subst e1;exact absurd hy hx⟩
   cases t with
   |nil=>simp;omega
   |cons y t'=>
    have hy:n<aQ y:=by
     apply ahk;intro hy;exact ZB (h.nb [] x y t' rfl) (by omega) (by omega)
    have:=i2 y t' rfl hy;omega
theorem shrink(n:Nat)(t:List Nat):3*(S (n+246) t).length<=2*(S n t).length+1:=by
 have:=(Mt n _ (uP (n+246) t)).1;rw[<-Kq 246 n rfl]at this;exact this
theorem oz(t:List Nat):(S 0 t).length=t.length:=by show(t.map Sy.lt).length=_;rw[agM]
theorem acu:∀(n:Nat) {t:List Nat},t≠[]->S n t≠[]
 |0,t,h=>by
  show t.map Sy.lt≠[]
  simpa using h
 |n+1,t,h=>UR _ (acu n h)
theorem Mw(n:Nat)(h:t≠[]):0<(S n t).length:=List.length_pos_iff.2 (acu n h)
theorem rG(n:Nat)(x:Sy):step n [x]=[x]:=by
 have hb:blk n x []=0:=ajK.1 (qg _ _ _);rw[bF,hb,jG];rfl
theorem Fy(n:Nat):∀s,(step n s).length<=s.length:=by
 intro s
 induction h:s.length using Nat.strongRecOn generalizing s with
 |_ l ih=>
  cases s with
  |nil=>rw[step_nil,<-h];exact af7 _
  |cons x t=>
   rw[bF,agc];rw[agc]at h;have:=ih (t.drop (blk n x t)).length (by rw[agp];omega) _ rfl;rw[agp]at this;omega
theorem ZC:∀{n m:Nat},n<=m->(S m t).length<=(S n t).length
 |n,m,h=>by
  induction h with
  |refl=>exact af7 _
  |step _ ih=>exact af9 (Fy _ _) ih
theorem Ky(h:S n t=[y]):∀{m:Nat},n<=m->S m t=[y]:=by
 intro m hm
 induction hm with
 |refl=>exact h
 |step _ ih=>show step _ (S _ t)=_;rw[ih,rG]
theorem MB(t:List Nat):∀j,(S (246*j) t).length<=1\/(S (246*j) t).length+j<=t.length
 |0=> .inr (by rw[Nat.mul_zero,oz];omega)
 |j+1=>by
  have h:=shrink (246*j) t
  have e:246*(j+1)=246*j+246:=by omega
  rw[e]
  rcases MB t j with q|q
  .left;omega
  .by_cases h1:(S (246*j+246) t).length<=1
   .exact .inl h1
   .right;omega
theorem acv(h:t≠[]):∃y,S (246*t.length) t=[y]:=by
 have hp:=Mw (246*t.length) h;have:(S (246*t.length) t).length=1:=by
  rcases MB t t.length with q|q<;>omega
 exact ajr.1 this
def sig(t:List Nat):Sy:=(S (246*t.length) t).headD (.lt 0)
theorem rH(h:t≠[]):S (246*t.length) t=[sig t]:=by
 obtain⟨y,hy⟩:=acv h;unfold sig;rw[hy];rfl
theorem Kz(h:S n t=[y]):sig t=y:=by
 have ht:t≠[]:=by
  rintro rfl;have:∀n,S n []=[]:=λn=>by
   induction n with
   |zero=>rfl
   |succ n ih=>show step _ _=_;rw[ih,step_nil]
  rw[this]at h;cases h
 have h1:=Ky h (m:=max n (246*t.length)) (by omega);have h2:=Ky (rH ht) (m:=max n (246*t.length)) (by omega);rw[h1]at h2;simpa using h2.symm
theorem eY(h:t≠[]):aV (sig t)=t:=by
 have:=Xo (246*t.length) t;rw[rH h]at this;simpa[dA]using this
theorem KD(h:t≠[]):jF (sig t):=(uP (246*t.length) t).ok _ (by rw[rH h];simp)
theorem BK(h:t≠[])(n:Nat):S n t=ex n (sig t):=by
 have h2:=Ky (rH h) (m:=max n (246*t.length)) (by omega);rw[Kq (N:=max n (246*t.length)) (max n (246*t.length)-n) n (by omega),h2];simp
theorem Q8(h:t≠[])(n:Nat):step (n+1) (ex n (sig t))=ex (n+1) (sig t):=by
 rw[<-BK h,<-BK h];rfl
theorem U_(h:t≠[])(hn:(S n t).length<=1):aQ (sig t)<=n:=by
 have hp:=Mw n h;obtain⟨y,hy⟩:=ajr.1 (show(S n t).length=1 by omega);rw[Kz hy];exact(uP n t).aQ y (by rw[hy];simp)
theorem Ih(t:List Nat)(h:t≠[]):∀j,3^j*((S (246*j) t).length-1)<=2^j*(t.length-1)
 |0=>by rw[Nat.mul_zero,oz,akn];omega
 |j+1=>by
  have h1:=shrink (246*j) t
  have ih:=Ih t h j
  have hp:=Mw (246*j) h
  have e:246*(j+1)=246*j+246:=by omega
  rw[e,aiR,aiR]
  have h2:3*((S (246*j+246) t).length-1)<=2*((S (246*j) t).length-1):=by omega
  calc 3^j*3*((S (246*j+246) t).length-1)=3^j*(3*((S (246*j+246) t).length-1)):=aiN _ _ _
   _<=3^j*(2*((S (246*j) t).length-1)):=ahK _ h2
   _=2*(3^j*((S (246*j) t).length-1)):=by rw[Nat.mul_left_comm]
   _<=2*(2^j*(t.length-1)):=ahK _ ih
   _=2^j*2*(t.length-1):=by rw[ahq (2^j) 2,aiN]
theorem wR(h:t≠[])(hl:t.length<=1152921504606846976):aQ (sig t)<=25338:=by
 refine U_ h (n:=246*103) ?_;have:=Ih t h 103;apply ahk;intro hn;have h3:(3:Nat)^103*1<=2^103*1152921504606846976:=by omega
 exact absurd h3 (by decide)
def Cut(n:Nat)(u:List Sy)(z:Sy):Prop:=step n (u++[z])=step n u++[z]
theorem Cut.nil(n:Nat)(z:Sy):Cut n [] z:=rG n z
theorem Cut.head(h:Cut n (x::u) z):blk n x (u++[z])<=u.length/\Cut n (u.drop (blk n x (u++[z]))) z:=by
 have hle:=qg n x (u++[z]);rw[af8,agk]at hle;have hk:blk n x (u++[z])<=u.length:=by
  apply ahk;intro hn;have e:blk n x (u++[z])=(u++[z]).length:=by rw[af8,agk];omega
  have h':step n (x::(u++[z]))=step n (x::u)++[z]:=h;rw[bF,e,ajE,step_nil]at h';have h2:=agC List.length h';rw[bF]at h2;simp at h2
 refine⟨hk,?_⟩;have h':step n (x::(u++[z]))=step n (x::u)++[z]:=h;rw[bF,bF,<-wL hk,agZ]at h';injection h' with _ h2;have hk':blk n x u<=u.length:=qg _ _ _;rw[ahj hk']at h2;rw[<-wL hk];exact h2
theorem Cut.MC(hk:blk n x (u++[z])<=u.length)(h:Cut n (u.drop (blk n x (u++[z]))) z):Cut n (x::u) z:=by
 show step n (x::(u++[z]))=step n (x::u)++[z];have e:=wL hk;rw[bF,bF,e,ahj hk,rA hk];rw[show step n (u.drop (blk n x (u++[z]))++[z])=_ from h];rfl
theorem Cut.app(h:Cut n u z)(X:List Sy):step n (u++z::X)=step n u++step n (z::X):=by
 induction hl:u.length using Nat.strongRecOn generalizing u with
 |_ l ih=>
  cases u with
  |nil=>rfl
  |cons x u=>
   obtain⟨hk,hc⟩:=h.head;rw[agc]at hl;have e1:blk n x (u++z::X)=blk n x (u++[z]):=by
    have:=UT (n:=n) (x:=x) (t1:=u++[z]) X (by rw[af8,agk];omega);rw[<-this];simp
   rw[agZ,bF,bF,e1,wL hk,rA hk,ahj hk,agZ];rw[ih _ (by rw[agp];omega) hc rfl]
theorem ME(x:Sy):∀t:List Sy,cnt x t=t.length->∀a∈t,a=x
 | [],_,a,ha=>by cases ha
 |y::t,h,a,ha=>by
  unfold cnt at h
  by_cases hy:y=x
  .rw[af5 hy,agc]at h
   rcases agm.1 ha with rfl|ha
   .exact hy
   .exact ME x t (by omega) a ha
  .rw[af4 hy]at h
   simp at h
theorem uY(h:yx n y z=false):Cut n (u++[y]) z:=by
 induction hl:u.length using Nat.strongRecOn generalizing u with
 |_ l ih=>
  have hbad:∀(x:Sy) (t:List Sy),x::t=u++[y]->blk n x (t++[z])<=t.length:=by
   intro x t e;apply ahk;intro hn;have hle:=qg n x (t++[z]);rw[af8,agk]at hle;have hm:∀a∈t++[z],yx n x a=true/\(n%2=1->a=x):=by
    by_cases ho:n%2=1
    .have hc:blk n x (t++[z])=cnt x (t++[z]):=(by unfold blk;rw[af5 ho]);have ha:=ME x (t++[z]) (by rw[af8,agk];omega);intro a hm;have:=ha a hm;exact⟨by unfold yx;rw[af5 ho,this];exact agw rfl,λ_=>this⟩
    have h1:=oV ho x (t++[z]);have ht:t=[]:=ahE.1 (by omega);subst ht;intro a hm;simp at hm;subst hm;exact⟨(nU (t:=[])).2 (by rw[agH]at hn;simp at hn;omega),λq=>absurd q ho⟩
   have hz:=(hm z (by simp)).1;have hy:y=x:=by
    cases t with
    |nil=>have:=agC List.getLast? e;simp at this;exact this.symm
    |cons b t=>
     by_cases ho:n%2=1
     .refine(hm y ?_).2 ho;have:(x::b::t).getLast?=some y:=(by rw[e];simp);rw[ajn]at this;rw[ags];left;exact ah1 this
     have h1:=oV ho x (b::t++[z]);rw[agc]at hn;omega
   rw[hy,hz]at h;cases h
  cases u with
  |nil=>
   have hk:=hbad y [] rfl;exact Cut.MC hk (by rw[List.drop_nil];exact Cut.nil n z)
  |cons x u=>
   have hk:=hbad x (u++[y]) rfl;refine Cut.MC (u:=u++[y]) hk ?_;rw[af8,agk]at hk;rw[agc]at hl;by_cases he:blk n x (u++[y]++[z])=u.length+1
   .rw[he,ag9 (by simp)];exact Cut.nil n z
   rw[ahj (by omega)];exact ih _ (by rw[agp];omega) rfl
theorem Q9(hn:n%2=0){a b:Sy}(h:Cut n u a)(hm:yx n a b=true)(z:Sy):Cut n (u++[a,b]) z:=by
 have e:∀t,blk n a (b::t)=1:=λt=>by
  have:=nU (t:=t).1 hm;have:=oV (n:=n) (by omega) a (b::t);omega
 show step n (u++[a,b]++[z])=step n (u++[a,b])++[z];rw[agf,show([a,b]++[z]:List Sy)=a::(b::[z]) from rfl,h.app,h.app,agf,bF,bF,e,e];simp only[agr,agj];show step n u++(node n a (b::[z]) 1::step n ([]++[z]))=_;rw[show(b::[z]:List Sy)=[b]++[z] from rfl,rA (by simp),agH,rG,step_nil];rfl
def f_(n:Nat):Bool:=decide (n%2=0/\2<=n/\(n/2-1)%123=122)
theorem sZ{x y z:Nat}(ht:f_ n=false)(h:fits n x y=true):fits n y z=false/\fits n z x=false:=by
 have h2:=sV h;have ht':¬(n/2-1)%123=122:=by
  have:=ai0 ht;exact λq=>this ⟨h2.2,h2.1,q⟩
 unfold fits at h⊢;rw[af4 (by omega),af4 (by omega),af4 ht']at h;rw[af4 (by omega),af4 (by omega),af4 ht',af4 (by omega),af4 (by omega),af4 ht'];have:=ahz h;exact⟨agD (by omega),agD (by omega)⟩
theorem Ii(h:cnt x (u++[z])=u.length):z≠x/\∀a∈u,a=x:=by
 induction u with
 |nil=>
  refine⟨λe=>?_,λa ha=>by cases ha⟩;subst e;simp[cnt]at h
 |cons y u ih=>
  rw[agZ]at h;unfold cnt at h;by_cases hy:y=x
  .rw[af5 hy,agc]at h;obtain⟨a,b⟩:=ih (by omega);refine⟨a,λc hc=>?_⟩;rcases agm.1 hc with rfl|hc
   .exact hy
   exact b c hc
  rw[af4 hy]at h;simp at h
theorem Cut.no(ht:f_ n=false)(h:Cut n (u++[y]) z):yx n y z=false:=by
 induction hl:u.length using Nat.strongRecOn generalizing u with
 |_ l ih=>
  cases hu:u++[y]with
  |nil=>simp at hu
  |cons x t=>
   rw[hu]at h;obtain⟨hk,hc⟩:=h.head;have hlen:t.length=u.length:=by have:=agC List.length hu;simp at this;omega
   by_cases he:blk n x (t++[z])=t.length
   .by_cases ho:n%2=1
    .have hcn:blk n x (t++[z])=cnt x (t++[z]):=(by unfold blk;rw[af5 ho]);obtain⟨hz,ha⟩:=Ii (hcn▸he);have hy:y=x:=by
      have hmem:y∈x::t:=(by rw[<-hu];simp);rcases agm.1 hmem with q|q
      .exact q
      exact ha y q
     unfold yx;rw[af5 ho,hy];exact agD (λq=>hz q.symm)
    cases t with
    |nil=>
     have hy:y=x:=by
      have:y∈[x]:=(by rw[<-hu];simp);simpa using this
     rw[hy];cases hm:yx n x z with
     |false=>rfl
     |true=>
      have:=nU (t:=[]).1 hm;rw[agH]at he;simp at he;omega
    |cons b t=>
     have h1:=oV ho x (b::t++[z]);rw[agc]at he;have ht0:t=[]:=ahE.1 (by omega);subst ht0;have hy:y=b:=by
      have:=agC List.getLast? hu;simp at this;exact this
     rw[hy];have hm:=nU (t:=[]++[z]).2 (by rw[<-agZ,he];simp);unfold yx at hm⊢;rw[af4 ho]at hm⊢;exact(sZ ht hm).1
   have hlt:blk n x (t++[z])<t.length:=by omega
   have hd:∃w,t.drop (blk n x (t++[z]))=w++[y]/\w.length<u.length:=by
    cases u with
    |nil=>simp at hlen;rw[hlen]at hlt;exact absurd hlt (aiw _)
    |cons a u=>
     rw[agZ]at hu;injection hu with _ h2;rw[agc]at hlen;refine⟨u.drop (blk n x (t++[z])),?_,by rw[agp,agc];omega⟩;rw[<-ahj (by omega),h2]
   obtain⟨w,hw,hwl⟩:=hd;rw[hw]at hc;exact ih _ (by omega) hc rfl
def kd(b:Bool)(y:Sy):List Sy:=if b then(aZ y).reverse else aZ y
def Ay(b:Bool)(n:Nat)(y:Sy):List Sy:=if b then(ex n y).reverse else ex n y
abbrev gI:=List (Sy×Nat)
def front(b:Bool)(n:Nat):gI->List Sy
 | []=>[]
 | (y,h)::p=>front b n p++((kd b y).take (h-1)).flatMap (Ay b n)
def dY(b:Bool)(root:Sy):gI->Sy->Prop
 | [],x=>x=root
 | (y,h)::p,x=>1<=h/\(kd b y)[h-1]?=some x/\dY b root p y
def Hi(n:Nat)(p:gI):Prop:=∀f∈p,n<aQ f.1
theorem jI(b:Bool)(y:Sy):(kd b y).length=(aZ y).length:=by unfold kd;cases b<;>simp
theorem qp:x∈kd b y↔x∈aZ y:=by unfold kd;cases b<;>simp
theorem Az(h:aQ y<=n):Ay b n y=[y]:=by unfold Ay;rw[qh h];cases b<;>rfl
theorem BL(h:n<aQ y):Ay b n y=(kd b y).flatMap (Ay b n):=by
 unfold Ay kd;rw[Aq h];cases b with
 |false=>rfl
 |true=>
  rw[ajZ];rfl
theorem wS(h:jF y)(hx:x∈aZ y):jF x:=by
 cases y with
 |lt b=>cases hx
 |pr l r=>
  simp[aZ]at hx;rcases hx with rfl|rfl
  .exact h.1
  exact h.2.1
 |pw a k=>
  simp[aZ]at hx;rw[hx.2];exact h.1
theorem dY.ok{b:Bool}{root:Sy}(hr:jF root):∀{p:gI} {x:Sy},dY b root p x->jF x/\∀f∈p,jF f.1
 | [],x,h=>by rw[show x=root from h];exact⟨hr,λf hf=>by cases hf⟩
 | (y,k)::p,x,h=>by
  obtain⟨h1,h2,h3⟩:=h
  obtain⟨a,c⟩:=dY.ok hr h3
  refine⟨wS a (qp.1 (agE h2)),λf hf=>?_⟩
  rcases agm.1 hf with rfl|hf
  .exact a
  .exact c f hf
theorem dY.ex{b:Bool}{n:Nat}{root:Sy}:∀{p:gI} {x:Sy},dY b root p x->Hi n p->∃tl,Ay b n root=front b n p++Ay b n x++tl
 | [],x,h,_=>⟨[],by rw[show x=root from h];simp[front]⟩
 | (y,k)::p,x,h,hi=>by
  obtain⟨h1,h2,h3⟩:=h
  obtain⟨tl,e⟩:=dY.ex h3 (λf hf=>hi f (agK _ hf))
  have hk:k-1<(kd b y).length:=(agA.1 h2).1
  have hd:kd b y=(kd b y).take (k-1)++x::(kd b y).drop (k-1+1):=by
   rw[<-(agA.1 h2).2];simp
  have hy:=hi (y,k) (by simp);refine⟨((kd b y).drop (k-1+1)).flatMap (Ay b n)++tl,?_⟩;rw[e,BL hy]
  conv=>lhs;rw[hd]
  rw[ag_,agW];show _=front b n p++_++_++_;simp only[agf]
def bD(b:Bool)(n:Nat)(p:gI)(x:Sy):gI×Sy:=
 if aQ x<=n then(p,x)else match x with
 | .lt c=>(p,.lt c)
 | .pr l r=>if b then bD b n ((.pr l r,2)::p) l else bD b n ((.pr l r,2)::p) r
 | .pw a k=>bD b n ((.pw a k,k)::p) a
theorem yH{p:gI}(h:aQ x<=n):bD b n p x=(p,x):=by
 cases x<;>(unfold bD;rw[af5 h])
def AA(b:Bool)(y:Sy)(h:Nat):Sy:=match y with
 | .lt c=> .lt c
 | .pr l r=>if h=2 then(if b then l else r)else if h=1/\b then r else l
 | .pw a _=>a
theorem uZ{p:gI}(h:n<aQ x):bD b n p x=bD b n ((x,(aZ x).length)::p) (AA b x (aZ x).length):=by
 cases x with
 |lt c=>exact absurd h (aiw _)
 |pr l r=>
  conv=>lhs;unfold bD
  rw[af4 (by omega)];show _=bD b n ((.pr l r,2)::p) (if(2:Nat)=2 then(if b then l else r)else if(2:Nat)=1/\b then r else l);rw[af5 rfl];cases b<;>rfl
 |pw a k=>
  conv=>lhs;unfold bD
  rw[af4 (by omega)];show _=bD b n ((.pw a k,(List.replicate k a).length)::p) a;rw[ahF]
theorem AB(h1:1<=h)(h2:h<=(aZ y).length):(kd b y)[h-1]?=some (AA b y h):=by
 cases y with
 |lt c=>simp[aZ]at h2;omega
 |pr l r=>
  have h2':h<=2:=h2;have:h=1\/h=2:=by omega
  rcases this with rfl|rfl<;>cases b<;>simp[kd,aZ,AA]
 |pw a k=>
  have h2':h<=k:=by simpa[aZ]using h2
  have:(kd b (.pw a k))=List.replicate k a:=by unfold kd aZ;cases b<;>simp
  rw[this,ajm,af5 (by omega)];rfl
theorem Ij(h:jF y)(hl:n<aQ y):2<=(aZ y).length:=by
 cases y with
 |lt c=>exact absurd hl (aiw _)
 |pr l r=>show 2<=2;omega
 |pw a k=>simp[aZ];exact h.2.2
theorem BM{p:gI}(hs:dY b root p x)(hi:Hi n p)(ok:jF x):
    dY b root (bD b n p x).1 (bD b n p x).2/\Hi n (bD b n p x).1/\aQ (bD b n p x).2<=n/\front b n (bD b n p x).1++[(bD b n p x).2]=front b n p++Ay b n x/\jF (bD b n p x).2:=by
 induction hl:aQ x using Nat.strongRecOn generalizing p x with
 |_ l ih=>
  by_cases h:aQ x<=n
  .rw[yH h,Az h];exact⟨hs,hi,h,rfl,ok⟩
  rw[uZ (by omega)];have h2:=Ij ok (show n<aQ x by omega);have hg:=AB (b:=b) (y:=x) (h:=(aZ x).length) (by omega) (af7 _);have hm:=qp.1 (agE hg);have hlk:=jQ hm;obtain⟨q1,q2,q3,q4,q5⟩:=ih (aQ (AA b x (aZ x).length)) (by omega) (p:=(x,(aZ x).length)::p) (x:=AA b x (aZ x).length) ⟨by omega,hg,hs⟩ (λf hf=>by
   rcases agm.1 hf with rfl|hf
   .show n<aQ x;omega
   exact hi f hf) (wS ok hm) rfl
  refine⟨q1,q2,q3,?_,q5⟩;rw[q4,BL (y:=x) (by omega)];show front b n p++((kd b x).take ((aZ x).length-1)).flatMap (Ay b n)++Ay b n (AA b x (aZ x).length)=_;rw[agf];congr 1;have hlen:(aZ x).length-1<(kd b x).length:=by rw[jI];omega
  have hd:kd b x=(kd b x).take ((aZ x).length-1)++[AA b x (aZ x).length]:=by
   have:=(agA.1 hg).2;rw[<-this,ajl hlen];rw[agI (by rw[jI];omega)]
  conv=>rhs;rw[hd]
  rw[ag_];simp
def bE(b:Bool)(n:Nat):Nat->gI->Option (gI×Sy)
 |_,[]=>none
 |t,(y,h)::p=>if t<h then some (bD b n ((y,h-t)::p) (AA b y (h-t)))else bE b n 1 p
theorem yI{b:Bool}{n:Nat}{root:Sy}(hr:jF root):∀{p:gI} {x:Sy},dY b root p x->Hi n p->
    match bE b n 1 p with
    |none=>front b n p=[]
    |some (p',x')=>dY b root p' x'/\Hi n p'/\aQ x'<=n/\front b n p'++[x']=front b n p/\jF x'
 | [],x,h,_=>rfl
 | (y,h)::p,x,hs,hi=>by
  have hs0:=hs
  obtain⟨h1,h2,h3⟩:=hs
  have hk:h-1<(kd b y).length:=(agA.1 h2).1
  have pV:Hi n p:=λf hf=>hi f (agK _ hf)
  have oky:=(dY.ok hr h3).1
  unfold bE
  by_cases h1':1<h
  .rw[af5 h1']
   have hg:=AB (b:=b) (y:=y) (h:=h-1) (by omega) (by rw[jI]at hk;omega)
   have hm:AA b y (h-1)∈aZ y:=qp.1 (agE hg)
   have:=BM (b:=b) (n:=n) (root:=root) (p:=(y,h-1)::p) (x:=AA b y (h-1)) ⟨by omega,hg,h3⟩ (λf hf=>by
    rcases agm.1 hf with rfl|hf
    .exact hi (y,h) (by simp)
    .exact pV f hf) (wS oky hm)
   refine⟨this.1,this.2.1,this.2.2.1,?_,this.2.2.2.2⟩
   rw[this.2.2.2.1]
   show front b n p++((kd b y).take (h-1-1)).flatMap (Ay b n)++Ay b n (AA b y (h-1))=front b n p++((kd b y).take (h-1)).flatMap (Ay b n)
   rw[agf]
   congr 1
   have hl2:h-1-1<(kd b y).length:=by omega
   have e:=ajl hl2
   rw[(agA.1 hg).2,show h-1-1+1=h-1 by omega]at e
   rw[<-e,ag_]
   simp
  .rw[af4 h1']
   have:=yI hr (p:=p) h3 pV
   have e:front b n ((y,h)::p)=front b n p:=by
    show front b n p++((kd b y).take (h-1)).flatMap (Ay b n)=_;rw[show h-1=0 by omega];simp
   rw[e];exact this
theorem Em{p:gI}:bE b n h ((y,h)::p)=bE b n 1 p:=by
 conv=>lhs;unfold bE
 rw[af4 (ahh h)]
abbrev Ed:=Option (gI×Sy)
def oC(b:Bool)(n:Nat):Ed->List Sy
 |none=>[]
 |some (p,x)=>front b n p++[x]
def gq(n:Nat)(e:Ed):List Sy:=oC false n e
def bK(n:Nat)(e:Ed):List Sy:=(oC true n e).reverse
def jB(y:Sy):Prop:=∃t:List Nat,t≠[]/\y=sig t
theorem jB.ok(h:jB y):jF y:=by obtain⟨t,ht,rfl⟩:=h;exact KD ht
theorem jB.norm(h:jB y)(n:Nat):Norm n (ex n y):=by obtain⟨t,ht,rfl⟩:=h;rw[<-BK ht];exact uP n t
theorem jB.step(h:jB y)(n:Nat):step (n+1) (ex n y)=ex (n+1) y:=by obtain⟨t,ht,rfl⟩:=h;exact Q8 ht n
def VE(b:Bool)(root:Sy)(n:Nat)(e:Ed):Prop:=∀p x,e=some (p,x)->dY b root p x/\Hi n p/\aQ x<=n
theorem VE.none:VE b root n none:=λ_ _ h=>by cases h
theorem dY.KE{b:Bool}{root:Sy}:∀{p:gI} {x:Sy},dY b root p x->Hi (aQ x) p/\∀y h q,p=(y,h)::q->Hi (aQ y) q
 | [],x,_=>⟨λf hf=>(by cases hf),λy h q e=>(by cases e)⟩
 | (y,h)::p,x,hs=>by
  obtain⟨h1,h2,h3⟩:=hs
  have hl:=jQ (qp.1 (agE h2))
  have:=(dY.KE h3).1
  refine⟨λf hf=>?_,λy' h' q e=>?_⟩
  .rcases agm.1 hf with rfl|hf
   .exact hl
   .exact aiQ hl (this f hf)
  .injection e with e1 e2
   injection e1 with e3 e4
   rw[<-e3,<-e2];exact this
def Al(n:Nat)(p:gI):Prop:=∀y h q,p=(y,h)::q->aQ y=n->h=(aZ y).length
def oD(n:Nat):Ed->Ed
 |none=>none
 |some ([],x)=>some ([],x)
 |some ((y,h)::p,x)=>if aQ y=n/\h=(aZ y).length then some (p,y)else some ((y,h)::p,x)
theorem jS(n:Nat)(y:Sy)(h:Nat)(p:gI)(x:Sy):oD n (some ((y,h)::p,x))=if aQ y=n/\h=(aZ y).length then some (p,y)else some ((y,h)::p,x):=rfl
theorem Q_{p:gI}(hs:dY b root p x)(hi:Hi n p)(hno:∀y h q,p=(y,h)::q->aQ y≠n+1):Hi (n+1) p:=by
 cases p with
 |nil=>intro f hf;cases hf
 |cons f p=>
  obtain⟨y,h⟩:=f;have h1:=hi (y,h) (by simp);have h2:=hno y h p rfl;have h3:=(hs.KE).2 y h p rfl;have h1':n<aQ y:=h1;intro g hg;rcases agm.1 hg with rfl|hg
  .show n+1<aQ y;omega
  have:=h3 g hg;omega
theorem yJ(b:Bool)(n:Nat):∀p:gI,(b=false->jk (n+1) (front b (n+1) p)=front b n p)/\(b=true->jk (n+1) (front b (n+1) p).reverse=(front b n p).reverse)
 | []=>⟨λ_=>rfl,λ_=>rfl⟩
 | (y,h)::p=>by
  obtain⟨i1,i2⟩:=yJ b n p
  refine⟨λe=>?_,λe=>?_⟩
  .show jk (n+1) (front b (n+1) p++_)=front b n p++_
   rw[iJ,i1 e,nW]
   congr 2
   funext z
   subst e
   exact yA n z
  .show jk (n+1) (front b (n+1) p++_).reverse=(front b n p++_).reverse
   rw[ahS,ahS,iJ,i2 e,ajZ,ajZ,nW]
   congr 2
   funext z
   subst e
   show jk (n+1) (ex (n+1) z).reverse.reverse=(ex n z).reverse.reverse
   rw[aif,aif,yA]
theorem rJ(hr:jB root){p:gI}(hs:dY false root p x)(hi:Hi (n+1) p)(hx:aQ x<=n+1):
    step (n+1) (front false n p++jk (n+1) [x])=front false (n+1) p++[x]/\step (n+1) (front false n p)=front false (n+1) p/\(∀z m,jk (n+1) [x]=z::m->Cut (n+1) (front false n p) z)/\Norm n (front false n p++jk (n+1) [x]):=by
 obtain⟨tl,e⟩:=hs.ex hi;rw[Az hx]at e;have e':ex (n+1) root=front false (n+1) p++[x]++tl:=e;have h1:=split (front false (n+1) p++[x]) tl (ex n root) (hr.norm n) (by rw[hr.step,e']);have h2:=split (front false (n+1) p) ([x]++tl) (ex n root) (hr.norm n) (by rw[hr.step,e'];simp);have e1:=(yJ false n p).1 rfl;have hN:=hr.norm n;rw[h1.1]at hN;rw[iJ,e1]at h1 hN;rw[e1]at h2;refine⟨h1.2.1,h2.2.1,λz m hz=>?_,hN.left⟩;have:=h2.2.2.2 z (m++jk (n+1) tl) (by rw[iJ,hz];rfl);unfold Cut;rw[h2.2.1];exact this
theorem tq(hr:jB root){p:gI}(hs:dY true root p x)(hi:Hi (n+1) p)(hx:aQ x<=n+1):
    step (n+1) (jk (n+1) [x]++(front true n p).reverse)=x::(front true (n+1) p).reverse/\step (n+1) (front true n p).reverse=(front true (n+1) p).reverse/\(∀z m,(front true n p).reverse=z::m->∃u,Cut (n+1) (u++jk (n+1) [x]) z)/\Norm n (jk (n+1) [x]++(front true n p).reverse):=by
 obtain⟨tl,e⟩:=hs.ex hi;rw[Az hx]at e;have e':ex (n+1) root=tl.reverse++(x::(front true (n+1) p).reverse):=by
  have:(ex (n+1) root).reverse=_:=e;rw[<-aif (ex (n+1) root),this];simp
 have h1:=split tl.reverse (x::(front true (n+1) p).reverse) (ex n root) (hr.norm n) (by rw[hr.step,e']);have h2:=split (tl.reverse++[x]) (front true (n+1) p).reverse (ex n root) (hr.norm n) (by rw[hr.step,e'];simp);have e1:=(yJ true n p).2 rfl;have hN:=hr.norm n;rw[h1.1]at hN;have ec:jk (n+1) (x::(front true (n+1) p).reverse)=jk (n+1) [x]++(front true n p).reverse:=by rw[<-ajt,iJ,e1]
 rw[ec]at h1 hN;rw[e1,iJ]at h2;refine⟨h1.2.2.1,h2.2.2.1,λz m hz=>⟨jk (n+1) tl.reverse,?_⟩,hN.right⟩;have:=h2.2.2.2 z m hz;unfold Cut;rw[h2.2.1];exact this
theorem Om(hh:h=(aZ y).length)(hx:(kd b y)[h-1]?=some x):kd b y=(kd b y).take (h-1)++[x]:=by
 have hlen:=(agA.1 hx).1;rw[<-(agA.1 hx).2,ajl hlen,agI (by rw[jI];rw[jI]at hlen;omega)]
theorem KG(h:aQ y=n+1)(l:List Sy)(hl:∀z∈l,z∈kd b y):l.flatMap (Ay b n)=l:=by
 induction l with
 |nil=>rfl
 |cons z l ih=>
  have:=jQ (qp.1 (hl z (by simp)));rw[agW,Az (by omega),ih (λw hw=>hl w (by simp[hw]))];rfl
theorem lG{p:gI}(hy:aQ y=n+1)(hh:h=(aZ y).length)(hx:(kd b y)[h-1]?=some x):front b n ((y,h)::p)++[x]=front b n p++kd b y:=by
 show front b n p++((kd b y).take (h-1)).flatMap (Ay b n)++[x]=_;rw[KG hy _ (λz hz=>ahJ hz),agf,<-Om hh hx]
theorem MF(hr:jB root){e:Ed}(hv:VE false root n e)(ha:∀p x,e=some (p,x)->Al (n+1) p):
    step (n+1) (gq n e)=gq (n+1) (oD (n+1) e)/\VE false root (n+1) (oD (n+1) e):=by
 cases e with
 |none=>exact⟨rfl,VE.none⟩
 |some q=>
  obtain⟨p,x⟩:=q;obtain⟨hs,hi,hx⟩:=hv p x rfl;have hal:=ha p x rfl;cases p with
  |nil=>
   have:=(rJ hr (n:=n) hs (λf hf=>by cases hf) (by omega)).1;rw[nV (by omega)]at this;exact⟨this,λp' x' e=>by cases e;exact⟨hs,(λf hf=>by cases hf),by omega⟩⟩
  |cons f p=>
   obtain⟨y,h⟩:=f;by_cases hy:aQ y=n+1
   .have hh:=hal y h p rfl hy;have pV:=(hs.KE).2 y h p rfl;rw[hy]at pV;have hs':=hs.2.2;have h1:=(rJ hr (n:=n) hs' pV (by omega)).1;have e1:jk (n+1) [y]=aZ y:=(by rw[gy,af5 hy];simp[jk]);rw[e1]at h1;have eu:oD (n+1) (some ((y,h)::p,x))=some (p,y):=(by rw[jS,af5 ⟨hy,hh⟩]);rw[eu];refine⟨?_,λp' x' e=>by cases e;exact⟨hs',pV,by omega⟩⟩;show step (n+1) (front false n ((y,h)::p)++[x])=_;rw[lG hy hh hs.2.1];exact h1
   have hi1:=Q_ hs hi (λy' h' q' e=>by injection e with e1 e2;injection e1 with e3 e4;rw[<-e3];exact hy);have:=(rJ hr (n:=n) hs hi1 (by omega)).1;rw[nV (by omega)]at this;have eu:oD (n+1) (some ((y,h)::p,x))=some ((y,h)::p,x):=by rw[jS,af4 (λq=>hy q.1)]
   rw[eu];exact⟨this,λp' x' e=>by cases e;exact⟨hs,hi1,by omega⟩⟩
theorem Ik(hr:jB root){e:Ed}(hv:VE true root n e)(ha:∀p x,e=some (p,x)->Al (n+1) p):
    step (n+1) (bK n e)=bK (n+1) (oD (n+1) e)/\VE true root (n+1) (oD (n+1) e):=by
 cases e with
 |none=>exact⟨rfl,VE.none⟩
 |some q=>
  obtain⟨p,x⟩:=q;obtain⟨hs,hi,hx⟩:=hv p x rfl;have hal:=ha p x rfl;have rv:∀m (p:gI) (x:Sy),bK m (some (p,x))=[x]++(front true m p).reverse:=λm p x=>by show(front true m p++[x]).reverse=_;simp
  cases p with
  |nil=>
   have:=(tq hr (n:=n) hs (λf hf=>by cases hf) (by omega)).1;rw[nV (by omega)]at this;exact⟨this,λp' x' e=>by cases e;exact⟨hs,(λf hf=>by cases hf),by omega⟩⟩
  |cons f p=>
   obtain⟨y,h⟩:=f;by_cases hy:aQ y=n+1
   .have hh:=hal y h p rfl hy;have pV:=(hs.KE).2 y h p rfl;rw[hy]at pV;have hs':=hs.2.2;have h1:=(tq hr (n:=n) hs' pV (by omega)).1;have e1:jk (n+1) [y]=aZ y:=(by rw[gy,af5 hy];simp[jk]);rw[e1]at h1;have eu:oD (n+1) (some ((y,h)::p,x))=some (p,y):=(by rw[jS,af5 ⟨hy,hh⟩]);rw[eu];refine⟨?_,λp' x' e=>by cases e;exact⟨hs',pV,by omega⟩⟩;show step (n+1) (front true n ((y,h)::p)++[x]).reverse=_;rw[lG hy hh hs.2.1,rv,ahS];have:(kd true y).reverse=aZ y:=(by show(aZ y).reverse.reverse=_;rw[aif]);rw[this];exact h1
   have hi1:=Q_ hs hi (λy' h' q' e=>by injection e with e1 e2;injection e1 with e3 e4;rw[<-e3];exact hy);have:=(tq hr (n:=n) hs hi1 (by omega)).1;rw[nV (by omega)]at this;have eu:oD (n+1) (some ((y,h)::p,x))=some ((y,h)::p,x):=by rw[jS,af4 (λq=>hy q.1)]
   rw[eu,rv,rv];exact⟨this,λp' x' e=>by cases e;exact⟨hs,hi1,by omega⟩⟩
theorem Ra{m:Nat}{p:gI}(h:Al m p):Al m (bD b n p x).1:=by
 induction hl:aQ x using Nat.strongRecOn generalizing p x with
 |_ l ih=>
  by_cases hx:aQ x<=n
  .rw[yH hx];exact h
  rw[uZ (by omega)];by_cases hk:AA b x (aZ x).length∈aZ x
  .exact ih _ (by rw[<-hl];exact jQ hk) (p:=(x,(aZ x).length)::p) (λy h q e _=>by injection e with e1 _;injection e1 with e3 e4;rw[<-e3,e4]) rfl
  cases x with
  |lt c=>exact absurd (agb n) hx
  |pr l r=>exfalso;apply hk;show(if(2:Nat)=2 then(if b then l else r)else if(2:Nat)=1/\b then r else l)∈[l,r];cases b<;>simp
  |pw a k=>
   have hk0:k=0:=by
    apply ahk;intro h0;apply hk;show a∈List.replicate k a;simp[h0]
   subst hk0;exact ih (aQ a) (by rw[<-hl];show aQ a<aQ a+1;omega) (p:=(.pw a 0,(aZ (.pw a 0)).length)::p) (x:=a) (λy h q e _=>by injection e with e1 _;injection e1 with e3 e4;rw[<-e3,e4]) rfl
theorem BN{b:Bool}{n m:Nat}(hm:n<=m):∀{p:gI},Hi m p->∀p' x',bE b n 1 p=some (p',x')->Al m p'
 | [],_,p',x',e=>by cases e
 | (y,h)::p,hi,p',x',e=>by
  unfold bE at e
  by_cases h1:1<h
  .rw[af5 h1]at e
   injection e with e
   have:Al m (bD b n ((y,h-1)::p) (AA b y (h-1))).1:=Ra (λy' h' q e he=>by
    injection e with e1 _
    injection e1 with e3 e4
    have:m<aQ y:=hi (y,h) (by simp)
    rw[<-e3]at he
    omega)
   rw[e]at this
   exact this
  .rw[af4 h1]at e
   exact BN hm (p:=p) (λf hf=>hi f (agK _ hf)) p' x' e
theorem rM(hr:jB root){p:gI}(hv:VE b root n (some (p,x))){t:Nat}
    (ht:((∀y h q,p=(y,h)::q->aQ y≠n+1)/\t=1)\/(∃y q,p=(y,t)::q/\aQ y=n+1/\(kd b y).take t=List.replicate t x)):
    VE b root n (bE b n t p)/\(∀p' x',bE b n t p=some (p',x')->Al (n+1) p')/\1<=t/\oC b n (some (p,x))=oC b n (bE b n t p)++List.replicate t x/\
     (b=false->Cut (n+1) (gq n (bE b n t p)) x)/\(b=true->∀z m,bK n (bE b n t p)=z::m->∃u,Cut (n+1) (u++[x]) z):=by
 obtain⟨hs,hi,hx⟩:=hv p x rfl;obtain⟨pp,zz,hd,hsp,pV,hlz,h1t,hseq,hL,hR⟩:∃(pp:gI) (zz:Sy),bE b n t p=bE b n 1 pp/\dY b root pp zz/\Hi (n+1) pp/\aQ zz<=n+1/\1<=t/\front b n p++[x]=front b n pp++List.replicate t x/\(b=false->∃m,jk (n+1) [zz]=x::m)/\(b=true->∃m,jk (n+1) [zz]=m++[x]):=by
  rcases ht with⟨h1,rfl⟩|⟨y,q,rfl,hy,htk⟩
  .refine⟨p,x,rfl,hs,Q_ hs hi h1,by omega,af7 1,rfl,λ_=>⟨[],nV (by omega)⟩,λ_=>⟨[],nV (by omega)⟩⟩
  have pV:=(hs.KE).2 y t q rfl;rw[hy]at pV;obtain⟨k1,k2,k3⟩:=hs;have hlen:=(agA.1 k2).1;have e1:jk (n+1) [y]=aZ y:=by rw[gy,af5 hy];simp[jk]
  have hhead:∃m,kd b y=x::m:=by
   cases hk:kd b y with
   |nil=>rw[hk]at hlen;simp at hlen
   |cons a m=>
    rw[hk]at htk;obtain⟨t',rfl⟩:∃t',t=t'+1:=⟨t-1,by omega⟩;rw[aiH,ag7]at htk;injection htk with q1 _;exact⟨m,by rw[q1]⟩
  refine⟨q,y,Em,k3,pV,by omega,k1,?_,λe=>?_,λe=>?_⟩
  .show front b n q++((kd b y).take (t-1)).flatMap (Ay b n)++[x]=_;rw[KG hy _ (λz hz=>ahJ hz),agf];congr 1;rw[<-htk];have:=ajl hlen;rw[(agA.1 k2).2,show t-1+1=t by omega]at this;exact this
  .obtain⟨m,hm⟩:=hhead;subst e;exact⟨m,by rw[e1];exact hm⟩
  obtain⟨m,hm⟩:=hhead;subst e;refine⟨m.reverse,?_⟩;rw[e1,<-aif (aZ y)];show(kd true y).reverse=_;rw[hm];simp
 rw[hd];have hd1:=yI (n:=n) hr.ok hsp (λf hf=>by have:=pV f hf;omega);have key:VE b root n (bE b n 1 pp)/\oC b n (bE b n 1 pp)=front b n pp:=by
  cases hq:bE b n 1 pp with
  |none=>rw[hq]at hd1;exact⟨VE.none,hd1.symm⟩
  |some r=>
   obtain⟨p',x'⟩:=r;rw[hq]at hd1;obtain⟨q1,q2,q3,q4,-⟩:=hd1;exact⟨λa c e=>by cases e;exact⟨q1,q2,q3⟩,q4⟩
 refine⟨key.1,BN (aiT n) pV,h1t,?_,λe=>?_,λe z m hz=>?_⟩
 .rw[key.2];exact hseq
 .subst e;obtain⟨m,hm⟩:=hL rfl;have:=(rJ hr (n:=n) hsp pV hlz).2.2.1 x m hm;unfold gq;rw[key.2];exact this
 subst e;obtain⟨m',hm⟩:=hR rfl;unfold bK at hz;rw[key.2]at hz;obtain⟨u,hu⟩:=(tq hr (n:=n) hsp pV hlz).2.2.1 z m hz;rw[hm,<-agf]at hu;exact⟨u++m',hu⟩
structure It where
 x:Sy
 nx:Option Sy
 times:Nat
def je(i:It):List Sy:=match i.nx with
 |none=>List.replicate i.times i.x
 |some y=>(List.replicate i.times [i.x,y]).flatten
def aH(l:List It):List Sy:=l.flatMap je
theorem cu:aH []=[]:=rfl
theorem bg(i:It)(l:List It):aH (i::l)=je i++aH l:=rfl
theorem bR(l m:List It):aH (l++m)=aH l++aH m:=by unfold aH;rw[ag_]
structure iD where
 L:Ed
 mid:List It
 R:Ed
def kJ(n:Nat)(s:iD):List Sy:=gq n s.L++aH s.mid++bK n s.R
def j5(s:iD):Option Sy:=match s.mid with
 | []=>s.R.map (·.2)
 |i::_=>some i.x
def jT(s:iD):Option Sy:=match s.mid.getLast? with
 |none=>s.L.map (·.2)
 |some i=>some i.x
def nM(l:List It):Prop:=∀i∈l,i.nx=none/\1<=i.times
theorem BO{t:Nat}(h:1<=t):∃m,List.replicate t x=x::m:=⟨List.replicate (t-1) x,by rw[<-ag7,show t-1+1=t by omega]⟩
theorem Il{t:Nat}(h:1<=t):List.replicate t x=List.replicate (t-1) x++[x]:=by rw[<-ahR,show t-1+1=t by omega]
theorem o_{p:gI}:bK n (some (p,x))=x::(front true n p).reverse:=by show(front true n p++[x]).reverse=_;simp
theorem Im{s:iD}(h:nM s.mid):(j5 s=none->aH s.mid++bK n s.R=[])/\∀z,j5 s=some z->∃m,aH s.mid++bK n s.R=z::m:=by
 unfold j5;cases hm:s.mid with
 |nil=>
  cases hR:s.R with
  |none=>exact⟨λ_=>rfl,λz e=>by cases e⟩
  |some q=>obtain⟨p,x⟩:=q;exact⟨λe=>(by cases e),λz e=>⟨(front true n p).reverse,by injection e with e;rw[<-e];exact o_⟩⟩
 |cons i l=>
  rw[hm]at h;obtain⟨h1,h2⟩:=h i (by simp);refine⟨λe=>(by cases e),λz e=>?_⟩;injection e with e;obtain⟨m,hm'⟩:=BO (x:=i.x) h2;refine⟨m++aH l++bK n s.R,?_⟩;rw[bg];unfold je;rw[h1,<-e];rw[hm'];simp
theorem Io{s:iD}(h:nM s.mid):(jT s=none->gq n s.L++aH s.mid=[])/\∀z,jT s=some z->∃m,gq n s.L++aH s.mid=m++[z]:=by
 unfold jT;rcases agR s.mid with hm|⟨l,i,hm⟩
 .rw[hm];cases hL:s.L with
  |none=>exact⟨λ_=>rfl,λz e=>by cases e⟩
  |some q=>obtain⟨p,x⟩:=q;exact⟨λe=>(by cases e),λz e=>⟨front false n p,by injection e with e;rw[<-e];show front false n p++[x]++[]=_;simp⟩⟩
 rw[agO]at hm;rw[hm]at h⊢;obtain⟨h1,h2⟩:=h i (by simp);rw[ahy];refine⟨λe=>(by cases e),λz e=>?_⟩;injection e with e;refine⟨gq n s.L++aH l++List.replicate (i.times-1) i.x,?_⟩;rw[bR,bg,cu];unfold je;rw[h1,<-e];rw[Il h2];simp
structure JW(ra rb:Sy)(n:Nat)(s:iD):Prop where
 left:VE false ra n s.L
 right:VE true rb n s.R
structure GL(ra rb:Sy)(n:Nat)(s:iD):Prop extends JW ra rb n s where
 al:∀p x,s.L=some (p,x)->Al (n+1) p
 cut:∀z m,aH s.mid++bK n s.R=z::m->Cut (n+1) (gq n s.L) z
structure GG(ra rb:Sy)(n:Nat)(s:iD):Prop extends GL ra rb n s where
 ar:∀p x,s.R=some (p,x)->Al (n+1) p
 acy:∀z m,bK n s.R=z::m->Cut (n+1) (gq n s.L++aH s.mid) z
theorem GG.step{ra rb:Sy}(ha:jB ra)(hb:jB rb){n:Nat}{s:iD}(h:GG ra rb n s){m':List It}(hm:aH m'=step (n+1) (aH s.mid)):
    kJ (n+1) ⟨oD (n+1) s.L,m',oD (n+1) s.R⟩=M.step (n+1) (kJ n s)/\JW ra rb (n+1) ⟨oD (n+1) s.L,m',oD (n+1) s.R⟩:=by
 obtain⟨l1,l2⟩:=MF ha h.left h.al;obtain⟨r1,r2⟩:=Ik hb h.right h.ar;refine⟨?_,l2,r2⟩;show gq (n+1) (oD (n+1) s.L)++aH m'++bK (n+1) (oD (n+1) s.R)=M.step (n+1) (gq n s.L++aH s.mid++bK n s.R);rw[<-l1,<-r1,hm];have e1:M.step (n+1) (gq n s.L++aH s.mid)=M.step (n+1) (gq n s.L)++M.step (n+1) (aH s.mid):=by
  cases hf:aH s.mid with
  |nil=>rw[step_nil,agi,agi]
  |cons z m=>exact(h.cut z (m++bK n s.R) (by rw[hf];rfl)).app m
 cases hR:bK n s.R with
 |nil=>rw[step_nil,agi,agi,e1]
 |cons z m=>rw[(h.acy z m hR).app m,e1]
def kD(n:Nat):gI->Nat×Bool
 | []=>(1,false)
 | (y,h)::_=>if aQ y=n then(h,decide (h<(aZ y).length))else(1,false)
def fC(n:Nat)(s:iD):iD:=match s.L with
 |none=>s
 |some (p,x)=>if(kD (n+1) p).2=true\/j5 s=some x then⟨bE false n (kD (n+1) p).1 p,⟨x,none,(kD (n+1) p).1⟩::s.mid,s.R⟩else s
def iN(n:Nat)(s:iD):iD:=match s.R with
 |none=>s
 |some (p,x)=>if(kD (n+1) p).2=true\/jT s=some x then⟨s.L,s.mid++[⟨x,none,(kD (n+1) p).1⟩],bE true n (kD (n+1) p).1 p⟩else s
def gD(n:Nat):gI->Nat
 | []=>0
 | (y,h)::_=>if aQ y=n then h else 0
def bI(n:Nat)(s:iD):iD:=match s.L with
 |none=>s
 |some (p,x)=>if gD (n+1) p=2 then s else if gD (n+1) p=0/\¬(∃z,j5 s=some z/\fits (n+1) (key x) (key z)=true)then s else⟨bE false n 1 p,⟨x,none,1⟩::s.mid,s.R⟩
def dU(n:Nat)(s:iD):iD:=match s.R with
 |none=>s
 |some (p,x)=>if gD (n+1) p=2 then s else if gD (n+1) p=0/\¬(∃z,jT s=some z/\fits (n+1) (key z) (key x)=true)then s else⟨s.L,s.mid++[⟨x,none,1⟩],bE true n 1 p⟩
theorem yK(hy:aQ y=n+1)(ho:(n+1)%2=1):∃a k,y=.pw a k:=by
 cases y with
 |lt c=>exact absurd hy (by show ¬0=n+1;omega)
 |pr l r=>have:=(Qt l r).2.2;omega
 |pw a k=>exact⟨a,k,rfl⟩
theorem KH(ok:jF y)(hy:aQ y=n+1)(ho:(n+1)%2=0):∃l r,y=.pr l r:=by
 cases y with
 |lt c=>exact absurd hy (by show ¬0=n+1;omega)
 |pr l r=>exact⟨l,r,rfl⟩
 |pw a k=>have:=ok.2.1;have e:aQ a+1=n+1:=hy;omega
theorem Fz(h:aQ (.pr l r)=n):fits n (key l) (key r)=true:=by
 have:=(mV (jP l) (jP r) (max (aQ l) (aQ r))).2.2.1;have e:after (max (aQ l) (aQ r)) (key l) (key r)=n:=h;rw[e]at this;exact this
theorem Va(h:n%2=1):f_ n=false:=by unfold f_;exact agD (by omega)
theorem MG(h:n%2=1)(hn:x≠y):yx n x y=false:=by unfold yx;rw[af5 h];exact agD hn
theorem lH(h:n%2=0)(x y:Sy):yx n x y=fits n (key x) (key y):=by unfold yx;rw[af4 (by omega)]
theorem nM.cons{i:It}{l:List It}(hi:i.nx=none/\1<=i.times)(h:nM l):nM (i::l):=λj hj=>by
 rcases agm.1 hj with rfl|hj
 .exact hi
 .exact h j hj
theorem nM.snoc{i:It}{l:List It}(hi:i.nx=none/\1<=i.times)(h:nM l):nM (l++[i]):=λj hj=>by
 rcases ags.1 hj with hj|hj
 .exact h j hj
 .rw[agl.1 hj];exact hi
theorem rO{t:Nat}:je ⟨x,none,t⟩=List.replicate t x:=rfl
theorem BP(hr:jB root)(ho:(n+1)%2=1){p:gI}(hs:dY b root p x):
    ((∀y h q,p=(y,h)::q->aQ y≠n+1)/\(kD (n+1) p).1=1)\/(∃y q,p=(y,(kD (n+1) p).1)::q/\aQ y=n+1/\(kd b y).take (kD (n+1) p).1=List.replicate (kD (n+1) p).1 x):=by
 cases p with
 |nil=>exact .inl ⟨λy h q e=>(by cases e),rfl⟩
 |cons f p=>
  obtain⟨y,h⟩:=f;by_cases hy:aQ y=n+1
  .right;have e:(kD (n+1) ((y,h)::p)).1=h:=by show(if aQ y=n+1 then(h,decide (h<(aZ y).length))else(1,false)).1=h;rw[af5 hy]
   rw[e];obtain⟨a,k,rfl⟩:=yK hy ho;obtain⟨k1,k2,-⟩:=hs;have ek:kd b (.pw a k)=List.replicate k a:=by unfold kd aZ;cases b<;>simp
   have hlen:=(agA.1 k2).1;rw[ek,ahF]at hlen;refine⟨.pw a k,p,rfl,hy,?_⟩;rw[ek]at k2⊢;rw[ajm,af5 hlen]at k2;injection k2 with k2;rw[akM,aio (by omega),k2]
  left;refine⟨λy' h' q e=>by injection e with e1 _;injection e1 with e3 _;rw[<-e3];exact hy,?_⟩;show(if aQ y=n+1 then(h,decide (h<(aZ y).length))else(1,false)).1=1;rw[af4 hy]
theorem Xp{p:gI}(hs:dY b root p x)(hc:(kD (n+1) p).2=false):Al (n+1) p:=by
 intro y h q e hy;subst e;have e2:(kD (n+1) ((y,h)::q)).2=decide (h<(aZ y).length):=by show(if aQ y=n+1 then(h,decide (h<(aZ y).length))else(1,false)).2=_;rw[af5 hy]
 rw[e2]at hc;have h1:=ai0 hc;obtain⟨k1,k2,-⟩:=hs;have hlen:=(agA.1 k2).1;rw[jI]at hlen;omega
theorem KI(ha:jB ra)(ho:(n+1)%2=1){s:iD}(h:JW ra rb n s)(hm:nM s.mid):
    GL ra rb n (fC n s)/\kJ n (fC n s)=kJ n s/\nM (fC n s).mid:=by
 obtain⟨L,mid,R⟩:=s;cases L with
 |none=>exact⟨⟨h,λp x e=>(by cases e),λz m _=>Cut.nil _ _⟩,rfl,hm⟩
 |some q=>
  obtain⟨p,x⟩:=q;obtain⟨hs,hi,hx⟩:=h.left p x rfl;obtain⟨g1,g2,g3,g4,g5,-⟩:=rM ha (h.left) (BP ha ho hs);show GL ra rb n (if _ then _ else _)/\_;by_cases hc:(kD (n+1) p).2=true\/j5 ⟨some (p,x),mid,R⟩=some x
  .have e:fC n ⟨some (p,x),mid,R⟩=⟨bE false n (kD (n+1) p).1 p,⟨x,none,(kD (n+1) p).1⟩::mid,R⟩:=by show(if _ then _ else _)=_;rw[af5 hc]
   rw[af5 hc,e];refine⟨⟨⟨g1,h.right⟩,g2,λz m hz=>?_⟩,?_,hm.cons ⟨rfl,g3⟩⟩
   .have hz':aH (⟨x,none,(kD (n+1) p).1⟩::mid)++bK n R=z::m:=hz;rw[bg,rO]at hz';obtain⟨m',hm'⟩:=BO (x:=x) g3;rw[hm']at hz';injection hz' with hz' _;rw[<-hz'];exact g5 rfl
   show gq n _++aH (_::mid)++bK n R=oC false n (some (p,x))++aH mid++bK n R;rw[g4,bg,rO];unfold gq;simp
  have e:fC n ⟨some (p,x),mid,R⟩=⟨some (p,x),mid,R⟩:=by show(if _ then _ else _)=_;rw[af4 hc]
  rw[af4 hc,e];have hc1:(kD (n+1) p).2=false:=by cases hq:(kD (n+1) p).2<;>simp_all
  refine⟨⟨h,λp' x' e=>?_,λz m hz=>?_⟩,rfl,hm⟩
  .injection e with e;injection e with e1 e2;rw[<-e1];exact Xp hs hc1
  have hf:=Im (n:=n) hm;cases hq:j5 ⟨some (p,x),mid,R⟩with
  |none=>rw[hf.1 hq]at hz;cases hz
  |some z'=>
   obtain⟨m',hm'⟩:=hf.2 z' hq;rw[hm']at hz;injection hz with hz _;rw[<-hz];exact uY (MG ho (λq=>hc (.inr (by rw[hq,q]))))
theorem GL.same{L:Ed}{mid mid':List It}{R R':Ed}(h:GL ra rb n ⟨L,mid,R⟩)(e:aH mid'++bK n R'=aH mid++bK n R)(hv:VE true rb n R'):GL ra rb n ⟨L,mid',R'⟩:=
 ⟨⟨h.left,hv⟩,h.al,λz m hz=>h.cut z m (by rw[<-e];exact hz)⟩
theorem MH(ht:f_ (n+1)=false){A:List Sy}{t:Nat}(h1:1<=t)(h:∃u,Cut (n+1) (u++[x]) z):Cut (n+1) (A++List.replicate t x) z:=by
 obtain⟨u,hu⟩:=h;rw[Il h1,<-agf];exact uY (hu.no ht)
theorem KJ(hb:jB rb)(ho:(n+1)%2=1){s:iD}(h:GL ra rb n s)(hm:nM s.mid):
    GG ra rb n (iN n s)/\kJ n (iN n s)=kJ n s/\nM (iN n s).mid:=by
 obtain⟨L,mid,R⟩:=s;cases R with
 |none=>exact⟨⟨h,λp x e=>(by cases e),λz m e=>(by cases e)⟩,rfl,hm⟩
 |some q=>
  obtain⟨p,x⟩:=q;obtain⟨hs,hi,hx⟩:=h.right p x rfl;obtain⟨g1,g2,g3,g4,-,g6⟩:=rM hb (h.right) (BP hb ho hs);have es:bK n (some (p,x))=List.replicate (kD (n+1) p).1 x++bK n (bE true n (kD (n+1) p).1 p):=by
   unfold bK;rw[g4,ahS,List.reverse_replicate]
  by_cases hc:(kD (n+1) p).2=true\/jT ⟨L,mid,some (p,x)⟩=some x
  .have e:iN n ⟨L,mid,some (p,x)⟩=⟨L,mid++[⟨x,none,(kD (n+1) p).1⟩],bE true n (kD (n+1) p).1 p⟩:=by show(if _ then _ else _)=_;rw[af5 hc]
   rw[e];have ef:aH (mid++[⟨x,none,(kD (n+1) p).1⟩])=aH mid++List.replicate (kD (n+1) p).1 x:=by rw[bR,bg,rO,cu,agi]
   refine⟨⟨h.same ?_ g1,g2,λz m hz=>?_⟩,?_,hm.snoc ⟨rfl,g3⟩⟩
   .rw[ef,es,agf]
   .show Cut (n+1) (gq n L++aH _) z;rw[ef,<-agf];exact MH (Va ho) g3 (g6 rfl z m hz)
   show gq n L++aH _++bK n _=gq n L++aH mid++bK n (some (p,x));rw[ef,es];simp
  have e:iN n ⟨L,mid,some (p,x)⟩=⟨L,mid,some (p,x)⟩:=by show(if _ then _ else _)=_;rw[af4 hc]
  rw[e];have hc1:(kD (n+1) p).2=false:=by cases hq:(kD (n+1) p).2<;>simp_all
  refine⟨⟨h,λp' x' e=>?_,λz m hz=>?_⟩,rfl,hm⟩
  .injection e with e;injection e with e1 e2;rw[<-e1];exact Xp hs hc1
  have hz':bK n (some (p,x))=z::m:=hz;rw[o_]at hz';injection hz' with hz' _;have hf:=Io (n:=n) hm;cases hq:jT ⟨L,mid,some (p,x)⟩with
  |none=>
   have:gq n L++aH mid=[]:=hf.1 hq;rw[this];exact Cut.nil _ _
  |some y=>
   obtain⟨m',hm'⟩:=hf.2 y hq;have ZE:=hm';rw[ZE,<-hz'];exact uY (MG ho (λq=>hc (.inr (by rw[hq,q]))))
theorem tu{q:gI}:gD n ((y,h)::q)=if aQ y=n then h else 0:=rfl
theorem qw(hr:jB root)(ho:(n+1)%2=0){p:gI}(hs:dY b root p x):
    (gD (n+1) p=0/\(∀y h q,p=(y,h)::q->aQ y≠n+1))\/(∃l r q,p=(.pr l r,gD (n+1) p)::q/\aQ (.pr l r)=n+1/\(gD (n+1) p=1\/gD (n+1) p=2)):=by
 cases p with
 |nil=>exact .inl ⟨rfl,λy h q e=>(by cases e)⟩
 |cons f p=>
  obtain⟨y,h⟩:=f;by_cases hy:aQ y=n+1
  .right;have ok:=(hs.ok hr.ok).2 (y,h) (by simp);obtain⟨l,r,rfl⟩:=KH ok hy ho;rw[tu,af5 hy];obtain⟨k1,k2,-⟩:=hs;have hlen:=(agA.1 k2).1;rw[jI]at hlen;have:(aZ (.pr l r)).length=2:=rfl;exact⟨l,r,p,rfl,hy,by omega⟩
  left;rw[tu,af4 hy];exact⟨rfl,λy' h' q e=>by injection e with e1 _;injection e1 with e3 _;rw[<-e3];exact hy⟩
theorem yL{p:gI}(h:(∀y h q,p=(y,h)::q->aQ y≠n+1)\/∃l r q,p=(.pr l r,2)::q):Al (n+1) p:=by
 intro y k q e hy;rcases h with h|⟨l,r,q',rfl⟩
 .exact absurd hy (h y k q e)
 injection e with e1 _;injection e1 with e3 e4;rw[<-e3,<-e4];rfl
theorem rP(hr:jB root)(ho:(n+1)%2=0){p:gI}(hv:VE b root n (some (p,x)))(h2:gD (n+1) p≠2):
    VE b root n (bE b n 1 p)/\(∀p' x',bE b n 1 p=some (p',x')->Al (n+1) p')/\oC b n (some (p,x))=oC b n (bE b n 1 p)++[x]/\
     (b=false->Cut (n+1) (gq n (bE b n 1 p)) x)/\(b=true->∀z m,bK n (bE b n 1 p)=z::m->∃u,Cut (n+1) (u++[x]) z):=by
 obtain⟨hs,hi,hx⟩:=hv p x rfl;have:((∀y h q,p=(y,h)::q->aQ y≠n+1)/\(1:Nat)=1)\/(∃y q,p=(y,1)::q/\aQ y=n+1/\(kd b y).take 1=List.replicate 1 x):=by
  rcases qw hr ho hs with⟨-,h⟩|⟨l,r,q,e,hl,h⟩
  .exact .inl ⟨h,rfl⟩
  have h1:gD (n+1) p=1:=by omega
  rw[h1]at e;refine .inr ⟨.pr l r,q,e,hl,?_⟩;rw[e]at hs;obtain⟨-,k2,-⟩:=hs;have hk2:=k2;cases hk:kd b (.pr l r)with
  |nil=>rw[hk]at hk2;cases hk2
  |cons a m=>rw[hk]at hk2;simp at hk2;simp[hk2]
 obtain⟨g1,g2,-,g4,g5,g6⟩:=rM hr hv this;exact⟨g1,g2,g4,g5,g6⟩
theorem nZ(ha:jB ra)(ho:(n+1)%2=0){s:iD}(h:JW ra rb n s)(hm:nM s.mid):
    GL ra rb n (bI n s)/\kJ n (bI n s)=kJ n s/\nM (bI n s).mid:=by
 obtain⟨L,mid,R⟩:=s;cases L with
 |none=>exact⟨⟨h,λp x e=>(by cases e),λz m _=>Cut.nil _ _⟩,rfl,hm⟩
 |some q=>
  obtain⟨p,x⟩:=q;obtain⟨hs,hi,hx⟩:=h.left p x rfl;have hg:=qw ha ho hs;by_cases h2:gD (n+1) p=2
  .have e:bI n ⟨some (p,x),mid,R⟩=⟨some (p,x),mid,R⟩:=by show(if _ then _ else _)=_;rw[af5 h2]
   rw[e];rcases hg with⟨h0,-⟩|⟨l,r,q,ep,hl,-⟩
   .omega
   rw[h2]at ep;subst ep;refine⟨⟨h,λp' x' e=>?_,λz m hz=>?_⟩,rfl,hm⟩
   .injection e with e;injection e with e1 e2;rw[<-e1];exact yL (.inr ⟨l,r,q,rfl⟩)
   show Cut (n+1) (front false n ((.pr l r,2)::q)++[x]) z;rw[lG (h:=2) hl rfl hs.2.1];have pV:=(hs.KE).2 _ _ q rfl;rw[hl]at pV;have hd:=(rJ ha (n:=n) hs.2.2 pV (by omega)).2.2.1 l [r] (by rw[gy,af5 hl];rfl);exact Q9 ho hd (by rw[lH ho];exact Fz hl) z
  by_cases hc:gD (n+1) p=0/\¬(∃z,j5 ⟨some (p,x),mid,R⟩=some z/\fits (n+1) (key x) (key z)=true)
  .have e:bI n ⟨some (p,x),mid,R⟩=⟨some (p,x),mid,R⟩:=by show(if _ then _ else(if _ then _ else _))=_;rw[af4 h2,af5 hc]
   rw[e];have hno:∀y h q,p=(y,h)::q->aQ y≠n+1:=by
    rcases hg with⟨-,h⟩|⟨l,r,q,e,hl,h⟩
    .exact h
    omega
   refine⟨⟨h,λp' x' e=>?_,λz m hz=>?_⟩,rfl,hm⟩
   .injection e with e;injection e with e1 e2;rw[<-e1];exact yL (.inl hno)
   have hf:=Im (n:=n) hm;cases hq:j5 ⟨some (p,x),mid,R⟩with
   |none=>rw[hf.1 hq]at hz;cases hz
   |some z'=>
    obtain⟨m',hm'⟩:=hf.2 z' hq;rw[hm']at hz;injection hz with hz _;rw[<-hz];refine uY ?_;rw[lH ho];cases pW:fits (n+1) (key x) (key z')with
    |false=>rfl
    |true=>exact absurd ⟨z',hq,pW⟩ hc.2
  have e:bI n ⟨some (p,x),mid,R⟩=⟨bE false n 1 p,⟨x,none,1⟩::mid,R⟩:=by show(if _ then _ else(if _ then _ else _))=_;rw[af4 h2,af4 hc]
  rw[e];obtain⟨g1,g2,g4,g5,-⟩:=rP ha ho h.left h2;refine⟨⟨⟨g1,h.right⟩,g2,λz m hz=>?_⟩,?_,hm.cons ⟨rfl,af7 1⟩⟩
  .have hz':x::(aH mid++bK n R)=z::m:=hz;injection hz' with hz' _;rw[<-hz'];exact g5 rfl
  show gq n _++aH (_::mid)++bK n R=oC false n (some (p,x))++aH mid++bK n R;rw[g4,bg,rO];unfold gq;simp
theorem Ip(hb:jB rb)(ho:(n+1)%2=0)(ht:f_ (n+1)=false){s:iD}(h:GL ra rb n s)(hm:nM s.mid):
    GG ra rb n (dU n s)/\kJ n (dU n s)=kJ n s/\nM (dU n s).mid:=by
 obtain⟨L,mid,R⟩:=s;cases R with
 |none=>exact⟨⟨h,λp x e=>(by cases e),λz m e=>(by cases e)⟩,rfl,hm⟩
 |some q=>
  obtain⟨p,x⟩:=q;obtain⟨hs,hi,hx⟩:=h.right p x rfl;have hg:=qw hb ho hs;have hcut:(∀y,jT ⟨L,mid,some (p,x)⟩=some y->fits (n+1) (key y) (key x)=false)->∀z m,bK n (some (p,x))=z::m->Cut (n+1) (gq n L++aH mid) z:=by
   intro hno z m hz;rw[o_]at hz;injection hz with hz _;have hf:=Io (n:=n) hm;cases hq:jT ⟨L,mid,some (p,x)⟩with
   |none=>
    have:gq n L++aH mid=[]:=hf.1 hq;rw[this];exact Cut.nil _ _
   |some y=>
    obtain⟨m',hm'⟩:=hf.2 y hq;have ZE:=hm';rw[ZE,<-hz];exact uY (by rw[lH ho];exact hno y hq)
  by_cases h2:gD (n+1) p=2
  .have e:dU n ⟨L,mid,some (p,x)⟩=⟨L,mid,some (p,x)⟩:=by show(if _ then _ else _)=_;rw[af5 h2]
   rw[e];rcases hg with⟨h0,-⟩|⟨l,r,q,ep,hl,-⟩
   .omega
   rw[h2]at ep;subst ep;refine⟨⟨h,λp' x' e=>?_,λz m hz=>?_⟩,rfl,hm⟩
   .injection e with e;injection e with e1 e2;rw[<-e1];exact yL (.inr ⟨l,r,q,rfl⟩)
   refine hcut (λy _=>?_) z m hz;have hxl:l=x:=by
    have:=hs.2.1;simp[kd,aZ]at this;exact this
   rw[<-hxl];exact(sZ ht (Fz hl)).2
  by_cases hc:gD (n+1) p=0/\¬(∃z,jT ⟨L,mid,some (p,x)⟩=some z/\fits (n+1) (key z) (key x)=true)
  .have e:dU n ⟨L,mid,some (p,x)⟩=⟨L,mid,some (p,x)⟩:=by show(if _ then _ else(if _ then _ else _))=_;rw[af4 h2,af5 hc]
   rw[e];have hno:∀y h q,p=(y,h)::q->aQ y≠n+1:=by
    rcases hg with⟨-,h⟩|⟨l,r,q,e,hl,h⟩
    .exact h
    omega
   refine⟨⟨h,λp' x' e=>?_,λz m hz=>?_⟩,rfl,hm⟩
   .injection e with e;injection e with e1 e2;rw[<-e1];exact yL (.inl hno)
   refine hcut (λy hy=>?_) z m hz;cases pW:fits (n+1) (key y) (key x)with
   |false=>rfl
   |true=>exact absurd ⟨y,hy,pW⟩ hc.2
  have e:dU n ⟨L,mid,some (p,x)⟩=⟨L,mid++[⟨x,none,1⟩],bE true n 1 p⟩:=by show(if _ then _ else(if _ then _ else _))=_;rw[af4 h2,af4 hc]
  rw[e];obtain⟨g1,g2,g4,-,g6⟩:=rP hb ho h.right h2;have es:bK n (some (p,x))=[x]++bK n (bE true n 1 p):=by
   unfold bK;rw[g4,ahS];rfl
  have ef:aH (mid++[⟨x,none,1⟩])=aH mid++[x]:=by rw[bR,bg,rO,cu,agi];rfl
  refine⟨⟨h.same ?_ g1,g2,λz m hz=>?_⟩,?_,hm.snoc ⟨rfl,af7 1⟩⟩
  .rw[ef,es,agf]
  .show Cut (n+1) (gq n L++aH _) z;rw[ef,<-agf];exact MH (t:=1) ht (af7 1) (g6 rfl z m hz)
  show gq n L++aH _++bK n _=gq n L++aH mid++bK n (some (p,x));rw[ef,es];simp
theorem wT(ht:f_ n=true)(x y:Nat):fits n x y=decide (x=y):=by
 obtain⟨h1,h2,h3⟩:=ahz ht;unfold fits;rw[af4 (by omega),af4 (by omega),af5 h3]
theorem fK(ht:f_ n=true):n%2=0:=by
 exact(ahz ht).1
theorem Vb(hb:jB rb)(ho:(n+1)%2=0){q:gI}(hv:VE true rb n (some ((.pr l r,2)::q,x)))(hl:aQ (.pr l r)=n+1):
    VE true rb n (bE true n (kD (n+2) q).1 q)/\(∀p' x',bE true n (kD (n+2) q).1 q=some (p',x')->Al (n+1) p')/\1<=(kD (n+2) q).1/\
     bK n (some ((.pr l r,2)::q,x))=(List.replicate (kD (n+2) q).1 [l,r]).flatten++bK n (bE true n (kD (n+2) q).1 q)/\x=l:=by
 obtain⟨hs,hi,hx⟩:=hv _ x rfl;have pV:=(hs.KE).2 _ _ q rfl;rw[hl]at pV;have hw:=lG (b:=true) (n:=n) (p:=q) (h:=2) hl rfl hs.2.1;have hkd:kd true (.pr l r)=[r,l]:=rfl;rw[hkd]at hw;have hex:Ay true n (.pr l r)=[r,l]:=by
  rw[BL (by omega)];exact KG hl _ (λz hz=>hz)
 obtain⟨pp,hd,zz,hsp,acz,h1t,hfr⟩:∃pp,bE true n (kD (n+2) q).1 q=bE true n 1 pp/\∃zz,dY true rb pp zz/\Hi (n+1) pp/\1<=(kD (n+2) q).1/\front true n q++[r,l]=front true n pp++(List.replicate (kD (n+2) q).1 [r,l]).flatten:=by
  rcases BP (b:=true) hb (n:=n+1) (by omega) hs.2.2 with⟨hno,h1⟩|⟨y,q',e,hy,htk⟩
  .exact⟨q,by rw[h1],.pr l r,hs.2.2,pV,aiq h1.symm,by rw[h1];simp⟩
  obtain⟨t,ht⟩:=ay ((kD (n+2) q).1);have e':q=(y,t)::q':=by rw[<-ht];exact e
  have htk':(kd true y).take t=List.replicate t (.pr l r):=by rw[<-ht];exact htk
  rw[ht];subst e';have hs2:=hs.2.2;have h1t:1<=t:=hs2.1;refine⟨q',Em,y,hs2.2.2,λf hf=>pV f (agK _ hf),h1t,?_⟩;show front true n q'++((kd true y).take (t-1)).flatMap (Ay true n)++[r,l]=_;have:(kd true y).take (t-1)=List.replicate (t-1) (.pr l r):=by
   have:=agC (List.take (t-1)) htk';rw[akh,aio (by omega),akM,aio (by omega)]at this;exact this
  rw[this,aiV,hex,agf];congr 1
  conv=>rhs;rw[show t=(t-1)+1 by omega,ahR,ais]
  simp
 rw[hd];have hd1:=yI (n:=n) hb.ok hsp (λf hf=>by have:=acz f hf;omega);have key:VE true rb n (bE true n 1 pp)/\oC true n (bE true n 1 pp)=front true n pp:=by
  cases hq:bE true n 1 pp with
  |none=>rw[hq]at hd1;exact⟨VE.none,hd1.symm⟩
  |some r=>
   obtain⟨p',x'⟩:=r;rw[hq]at hd1;obtain⟨q1,q2,q3,q4,-⟩:=hd1;exact⟨λa c e=>by cases e;exact⟨q1,q2,q3⟩,q4⟩
 refine⟨key.1,BN (aiT n) acz,h1t,?_,?_⟩
 .unfold bK;rw[key.2];show(front true n ((.pr l r,2)::q)++[x]).reverse=_;rw[hw,hfr,ahS];congr 1;generalize(kD (n+2) q).1=t
  induction t with
  |zero=>rfl
  |succ t ih=>
   rw[ahR,ais,ahS,ih,ag7];simp
 have:=hs.2.1;simp[kd,aZ]at this;exact this.symm
theorem BQ{i:It}(h:1<=i.times):∃m,je i=m++[i.nx.getD i.x]:=by
 obtain⟨x,nx,t⟩:=i;obtain⟨t,rfl⟩:∃k,t=k+1:=⟨t-1,by have:1<=t:=h;omega⟩;cases nx with
 |none=>exact⟨List.replicate t x,by show List.replicate (t+1) x=_;rw[ahR];rfl⟩
 |some y=>exact⟨(List.replicate t [x,y]).flatten++[x],by show(List.replicate (t+1) [x,y]).flatten=_;rw[ahR,ais];simp⟩
def Keyed(k:Nat)(X:List It):Prop:=∀i∈X,key i.x=k/\1<=i.times/\∀y,i.nx=some y->key y=k
theorem Vd(hb:jB rb)(ht:f_ (n+1)=true){s:iD}(h:GL ra rb n s)(hm:nM s.mid)(hR:∀p x,s.R=some (p,x)->(gD (n+1) p=0\/gD (n+1) p=2)/\∀i,s.mid.getLast?=some i->key i.x≠key x):GG ra rb n s:=by
 obtain⟨L,mid,R⟩:=s;have ho:=fK ht;cases R with
 |none=>exact⟨h,λp x e=>(by cases e),λz m e=>(by cases e)⟩
 |some q=>
  obtain⟨p,x⟩:=q;obtain⟨hs,hi,hx⟩:=h.right p x rfl;obtain⟨h1,h2⟩:=hR p x rfl;refine⟨h,λp' x' e=>?_,λz m hz=>?_⟩
  .injection e with e;injection e with e1 e2;rw[<-e1];rcases qw hb ho hs with⟨-,h⟩|⟨l,r,q,e,hl,h⟩
   .exact yL (.inl h)
   have:gD (n+1) p=2:=by omega
   rw[this]at e;exact yL (.inr ⟨l,r,q,e⟩)
  have hz':bK n (some (p,x))=z::m:=hz;rcases agR mid with rfl|⟨l,i,rfl⟩
  .rw[cu,agi];exact h.cut z m hz'
  rw[agO]at hm h2⊢;have hi':=hm i (by simp);have hk:=h2 i (by simp);obtain⟨m',hm'⟩:=BQ hi'.2;rw[hi'.1]at hm';rw[bR,bg,cu,hm',agi,<-agf,<-agf];rw[o_]at hz';injection hz' with hz' _;rw[<-hz'];refine uY ?_;rw[lH ho,wT ht];exact agD hk
theorem Rb(ht:f_ (n+1)=true){L:Ed}{mid X:List It}{R R':Ed}(h:GL ra rb n ⟨L,mid,R⟩)(hX:Keyed k X)(hne:X≠[])(hv:VE true rb n R')(hal:∀p x,R'=some (p,x)->Al (n+1) p/\key x≠k)
    (e:aH (mid++X)++bK n R'=aH mid++bK n R):GG ra rb n ⟨L,mid++X,R'⟩:=by
 have ho:=fK ht;refine⟨h.same e hv,λp x e=>(hal p x e).1,λz m hz=>?_⟩;have hz':=hz;cases hR:R' with
 |none=>rw[hR]at hz';cases hz'
 |some q=>
  obtain⟨p,x⟩:=q;rw[hR,o_]at hz';injection hz' with hz' _;have hk:=(hal p x hR).2;rcases agR X with rfl|⟨l,i,rfl⟩
  .exact absurd rfl hne
  rw[agO]at hX⊢;obtain⟨k1,k2,k3⟩:=hX i (by simp);obtain⟨m',hm'⟩:=BQ k2;rw[bR,bR,bg,cu,hm',agi,<-agf,<-agf,<-agf];rw[<-hz'];refine uY ?_;rw[lH ho,wT ht];refine agD ?_;cases hnx:i.nx with
  |none=>show key i.x≠key x;rw[k1];exact λq=>hk q.symm
  |some y=>show key y≠key x;rw[k3 y hnx];exact λq=>hk q.symm
def bO(l:List It)(i:It):List It:=match l.getLast? with
 |none=>[i]
 |some j=>if j.x=i.x then l.dropLast++[⟨j.x,none,j.times+i.times⟩]else l++[i]
theorem BR{l:List It}{i:It}(hl:nM l)(hi:i.nx=none):aH (bO l i)=aH l++List.replicate i.times i.x:=by
 rcases agR l with rfl|⟨l,j,rfl⟩
 .show aH [i]=_;rw[bg];unfold je;rw[hi];simp[cu]
 rw[agO]at hl⊢;have hj:=hl j (by simp);unfold bO;rw[ahy];show aH (if j.x=i.x then(l++[j]).dropLast++[_]else l++[j]++[i])=_;by_cases e:j.x=i.x
 .rw[af5 e,aic,bR,bR,bg,bg,cu];unfold je;rw[hj.1];rw[agi,agi,agf,<-e,List.replicate_append_replicate]
 rw[af4 e,bR _ [i],bg,cu];unfold je;rw[hi];simp
theorem Eo{l:List It}{i:It}(hl:nM l)(hi:i.nx=none/\1<=i.times):nM (bO l i):=by
 rcases agR l with rfl|⟨l,j,rfl⟩
 .intro k hk;have:k∈[i]:=hk;rw[agl.1 this];exact hi
 rw[agO]at hl⊢;have hj:=hl j (by simp);unfold bO;rw[ahy];show nM (if j.x=i.x then(l++[j]).dropLast++[_]else l++[j]++[i]);by_cases e:j.x=i.x
 .rw[af5 e,aic];exact nM.snoc ⟨rfl,by show 1<=j.times+i.times;omega⟩ (λk hk=>hl k (by simp[hk]))
 rw[af4 e];exact nM.snoc hi hl
def FB:List It->Prop
 | []=>True
 |i::l=>(∀j,l.head?=some j->i.x≠j.x)/\FB l
theorem FB.snoc:∀{l:List It} {i:It},FB l->(∀j,l.getLast?=some j->j.x≠i.x)->FB (l++[i])
 | [],i,_,_=>⟨λj h=>(by cases h),trivial⟩
 | [a],i,_,h2=>⟨λj h=>(by simp at h;rw[<-h];exact h2 a rfl),λj h=>(by cases h),trivial⟩
 |a::b::l,i,h,h2=>⟨λj hj=>h.1 j (by simpa using hj),FB.snoc (l:=b::l) h.2 (λj hj=>h2 j (by rw[ajn];exact hj))⟩
theorem FB.left:∀{l m:List It},FB (l++m)->FB l
 | [],m,_=>trivial
 |a::l,m,h=>⟨λj hj=>h.1 j (by cases l with|nil=>cases hj|cons b l=>simpa using hj),FB.left (l:=l) h.2⟩
theorem FB.last:∀{l:List It} {i:It},FB (l++[i])->∀j,l.getLast?=some j->j.x≠i.x
 | [],i,_,j,h=>by cases h
 | [a],i,h,j,hj=>by simp at hj;rw[<-hj];exact h.1 i rfl
 |a::b::l,i,h,j,hj=>FB.last (l:=b::l) h.2 j (by rw[ajn]at hj;exact hj)
theorem Rc{l:List It}{i:It}(hl:FB l):FB (bO l i):=by
 rcases agR l with rfl|⟨l,j,rfl⟩
 .exact⟨λj h=>(by cases h),trivial⟩
 rw[agO]at hl⊢;unfold bO;rw[ahy];show FB (if j.x=i.x then(l++[j]).dropLast++[_]else l++[j]++[i]);by_cases e:j.x=i.x
 .rw[af5 e,aic];exact hl.left.snoc (λk hk=>FB.last hl k hk)
 rw[af4 e];refine hl.snoc (λk hk=>?_);rw[ahy]at hk;injection hk with hk;rw[<-hk];exact e
def ZF(i:It):Sy:=if i.times=1 then i.x else .pw i.x i.times
theorem Iq{n:Nat}(ho:n%2=1):∀{l:List It},nM l->FB l->step n (aH l)=l.map ZF
 | [],_,_=>rfl
 |i::l,hs,hd=>by
  have hi:=hs i (by simp)
  have ih:=Iq ho (l:=l) (λj hj=>hs j (by simp[hj])) hd.2
  obtain⟨t,ht⟩:∃t,i.times=t+1:=⟨i.times-1,by omega⟩
  rw[bg]
  unfold je
  rw[hi.1]
  show step n (List.replicate i.times i.x++aH l)=_
  rw[ht,ag7,agZ,bF]
  have hc:cnt i.x (aH l)=0:=by
   cases l with
   |nil=>rfl
   |cons j l=>
    have hj:=hs j (by simp);have hne:=hd.1 j rfl;rw[bg];unfold je;rw[hj.1];obtain⟨m,hm⟩:=BO (x:=j.x) hj.2;rw[hm];show(if j.x=i.x then _ else 0)=0;rw[af4 (λq=>hne q.symm)]
  have hb:blk n i.x (List.replicate t i.x++aH l)=t:=by
   unfold blk;rw[af5 ho,Mh,hc,ahC]
  rw[hb,ahj (by simp),ag9 (by simp),agH,ih,ag8];congr 1;unfold node ZF;rw[ht];by_cases h0:t=0
  .rw[af5 h0,af5 (by omega)]
  .rw[af4 h0,af5 ho,af4 (by omega)]
theorem MI(h:∀y m,s=y::m->yx n x y=false):step n (x::s)=x::step n s:=by
 have hb:blk n x s=0:=by
  cases s with
  |nil=>exact ajK.1 (qg _ _ _)
  |cons y m=>
   apply ahk;intro hn;have:=nU (n:=n) (x:=x) (y:=y) (t:=m);rw[h y m rfl]at this;have:=this.2 (by omega);cases this
 rw[bF,hb,jG,agj]
theorem wU(he:n%2=0)(h:yx n x y=true):step n (x::y::s)=.pr x y::step n s:=by
 have hb:blk n x (y::s)=1:=by
  have:=(nU (t:=s)).1 h;have:=oV (n:=n) (by omega) x (y::s);omega
 rw[bF,hb];unfold node;rw[af4 (by omega),af4 (by omega)];rfl
theorem yM{n:Nat}(he:n%2=0){x y:Sy}(h:yx n x y=true)(s:List Sy):∀t,step n ((List.replicate t [x,y]).flatten++s)=List.replicate t (.pr x y)++step n s
 |0=>rfl
 |t+1=>by
  rw[ag7,ag7,ahW]
  show step n (x::y::((List.replicate t [x,y]).flatten++s))=_
  rw[wU he h,yM he h s t];rfl
theorem Ep(o x y:Sy):∀t,o::(List.replicate (t+1) [x,y]).flatten=[o,x]++(List.replicate t [y,x]).flatten++[y]
 |0=>rfl
 |t+1=>by
  have ih:=Ep y x y t
  rw[ag7,ahW,ag7 (n:=t),ahW]
  show o::x::(y::(List.replicate (t+1) [x,y]).flatten)=_
  rw[ih,ag7 (n:=t) (a:=[y,x])];simp
theorem qx(n:Nat):∀y:Sy,dA (ex n y)=aV y
 | .lt b=>by show dA [Sy.lt b]=_;simp[dA]
 | .pr l r=>by
  unfold ex
  by_cases h:aQ (.pr l r)<=n
  .rw[af5 h];simp[dA]
  .rw[af4 h,bV,qx n l,qx n r];rfl
 | .pw x k=>by
  unfold ex
  by_cases h:aQ (.pw x k)<=n
  .rw[af5 h];simp[dA]
  .rw[af4 h]
   show dA (List.replicate k (ex n x)).flatten=(List.replicate k (aV x)).flatten
   induction k with
   |zero=>rfl
   |succ k ih=>
    rw[ag7,ahW,bV,ih (by have e:aQ (.pw x k)=aQ x+1:=rfl;have e2:aQ (.pw x (k+1))=aQ x+1:=rfl;omega),qx n x,ag7,ahW]
theorem Er(n:Nat)(b:Bool)(l:List Sy):(dA (l.flatMap (Ay b n))).length=(dA l).length:=by
 induction l with
 |nil=>rfl
 |cons y l ih=>
  rw[agW,bV,af8,ih,jH,af8];congr 1;cases b with
  |false=>show(dA (ex n y)).length=_;rw[qx]
  |true=>
   show(dA (ex n y).reverse).length=_;have:∀s:List Sy,(dA s.reverse).length=(dA s).length:=by
    intro s
    induction s with
    |nil=>rfl
    |cons x s ih=>rw[ah3,bV,jH,af8,af8,ih,jH];simp[dA];omega
   rw[this,qx]
theorem u7(b:Bool)(n m:Nat):∀p:gI,(dA (front b n p)).length=(dA (front b m p)).length
 | []=>rfl
 | (y,h)::p=>by
  show(dA (front b n p++_)).length=(dA (front b m p++_)).length
  rw[bV,bV,af8,af8,u7 b n m p,Er,Er]
theorem Rf{e:Ed}(hv:VE b root n e):(dA (oC b (n+1) (oD (n+1) e))).length=(dA (oC b n e)).length:=by
 cases e with
 |none=>rfl
 |some q=>
  obtain⟨p,x⟩:=q;obtain⟨hs,hi,hx⟩:=hv p x rfl;have key:∀p:gI,(dA (oC b (n+1) (some (p,x)))).length=(dA (oC b n (some (p,x)))).length:=λp=>by
   show(dA (front b (n+1) p++[x])).length=(dA (front b n p++[x])).length;rw[bV,bV,af8,af8,u7 b (n+1) n]
  cases p with
  |nil=>exact key []
  |cons f p=>
   obtain⟨y,h⟩:=f;rw[jS];by_cases hc:aQ y=n+1/\h=(aZ y).length
   .rw[af5 hc];show(dA (front b (n+1) p++[y])).length=(dA (front b n ((y,h)::p)++[x])).length;rw[lG hc.1 hc.2 hs.2.1,bV,bV,af8,af8,u7 b (n+1) n];congr 1;have h1:=El (y:=y) (by omega);have:(dA (kd b y)).length=(dA (aZ y)).length:=by
     cases b with
     |false=>rfl
     |true=>
      have:∀s:List Sy,(dA s.reverse).length=(dA s).length:=by
       intro s
       induction s with
       |nil=>rfl
       |cons x s ih=>rw[ah3,bV,jH,af8,af8,ih,jH];simp[dA];omega
      exact this _
    rw[this,h1];simp[dA]
   rw[af4 hc];exact key _
theorem Ir{e:Ed}(hv:VE b root n e)(hl:aQ root<=n):e=none\/e=some ([],root):=by
 cases e with
 |none=>exact .inl rfl
 |some q=>
  obtain⟨p,x⟩:=q;obtain⟨hs,hi,-⟩:=hv p x rfl;right;cases p with
  |nil=>rw[show x=root from hs]
  |cons f p=>
   exfalso;have:∀(p:gI) (x:Sy),dY b root p x->p≠[]->∃f∈p,f.1=root:=by
    intro p
    induction p with
    |nil=>intro x _ h;exact absurd rfl h
    |cons f p ih=>
     intro x hs _;obtain⟨y,h⟩:=f;cases p with
     |nil=>exact⟨(y,h),by simp,hs.2.2⟩
     |cons g q=>
      obtain⟨f',h1,h2⟩:=ih y hs.2.2 (by simp);exact⟨f',agK _ h1,h2⟩
   obtain⟨f',h1,h2⟩:=this _ _ hs (by simp);have:=hi f' h1;rw[h2]at this;omega
def One(l:List It):Prop:=∀i∈l,i.nx=none/\i.times=1
theorem One.JX{l:List It}(h:One l):nM l:=λi hi=>⟨(h i hi).1,by rw[(h i hi).2];exact af7 1⟩
theorem One.flat:∀{l:List It},One l->aH l=l.map It.x
 | [],_=>rfl
 |i::l,h=>by
  obtain⟨h1,h2⟩:=h i (by simp)
  rw[bg,One.flat (l:=l) λj hj=>h j (by simp[hj])]
  unfold je
  rw[h1,h2];rfl
theorem One.drop{l:List It}(h:One l)(k:Nat):One (l.drop k):=λi hi=>h i (aie hi)
theorem wV:∀(l:List It) {acc:List It},nM acc->FB acc->nM l->aH (l.foldl bO acc)=aH acc++aH l/\nM (l.foldl bO acc)/\FB (l.foldl bO acc)
 | [],acc,h1,h2,_=>⟨by rw[cu,agi];rfl,h1,h2⟩
 |i::l,acc,h1,h2,h3=>by
  have hi:=h3 i (by simp)
  obtain⟨a,b,c⟩:=wV l (acc:=bO acc i) (Eo h1 hi) (Rc h2) λj hj=>h3 j (by simp[hj])
  refine⟨?_,b,c⟩
  rw[ag5,a,BR h1 hi.1,bg,agf]
  congr 2
  unfold je
  rw[hi.1]
def MJ(i:It):It:=⟨ZF i,none,1⟩
theorem yN(ho:n%2=1){l:List It}(h:nM l):aH ((l.foldl bO []).map MJ)=step n (aH l)/\One ((l.foldl bO []).map MJ):=by
 obtain⟨a,b,c⟩:=wV l (acc:=[]) (λi hi=>by cases hi) trivial h;have h1:One ((l.foldl bO []).map MJ):=λi hi=>by
  obtain⟨j,-,rfl⟩:=agz.1 hi;exact⟨rfl,rfl⟩
 refine⟨?_,h1⟩;rw[h1.flat,aiO];have:=Iq ho b c;rw[a]at this;exact this.symm
theorem Ve(ho:n%2=1){l:List It}(h:nM l){i:It}(hi:i∈l.foldl bO []):ZF i∈step n (aH l):=by
 rw[<-(yN ho h).1,(yN ho h).2.flat];exact agz.2 ⟨MJ i,agz.2 ⟨i,hi,rfl⟩,rfl⟩
theorem jl{α:Type}{l:List α}{x:α}(h:l[i]?=some x):l.drop i=x::l.drop (i+1):=by
 obtain⟨hi,rfl⟩:=agA.1 h;exact ahc hi
theorem KL(he:n%2=0){l:List It}(h:One l){x:It}(hx:l[i]?=some x)(hno:∀y,l[i+1]?=some y->fits n (key x.x) (key y.x)=false):
    step n (aH (l.drop i))=x.x::step n (aH (l.drop (i+1))):=by
 rw[(h.drop i).flat,(h.drop (i+1)).flat,jl hx,ag8];refine MI λy m e=>?_;rw[lH he];cases hq:l[i+1]? with
 |none=>
  have:l.drop (i+1)=[]:=List.drop_eq_nil_iff.2 (List.getElem?_eq_none_iff.1 hq);rw[this]at e;cases e
 |some z=>
  rw[jl hq,ag8]at e;rw[<-(aiy e).1];exact hno z hq
theorem Oo(he:n%2=0){l:List It}(h:One l){x y:It}(hx:l[i]?=some x)(hy:l[i+1]?=some y)(hf:fits n (key x.x) (key y.x)=true):
    step n (aH (l.drop i))=.pr x.x y.x::step n (aH (l.drop (i+2))):=by
 rw[(h.drop i).flat,(h.drop (i+2)).flat,jl hx,ag8,jl hy,ag8];exact wU he (by rw[lH he];exact hf)
def KM(l:List It):Prop:=∀i∈l,1<=i.times/\(i.nx=none->i.times=1)/\∀y,i.nx=some y->key y=key i.x
theorem One.st1{l:List It}(h:One l):KM l:=λi hi=>⟨by rw[(h i hi).2];exact af7 1,λ_=>(h i hi).2,λy e=>by rw[(h i hi).1]at e;cases e⟩
theorem KM.app{l m:List It}(h:KM l)(k:KM m):KM (l++m):=λi hi=>by
 rcases ags.1 hi with q|q
 .exact h i q
 .exact k i q
theorem FC{i:It}(h:1<=i.times):∃m,je i=i.x::m:=by
 obtain⟨x,nx,t⟩:=i;obtain⟨t,rfl⟩:∃k,t=k+1:=⟨t-1,by have:1<=t:=h;omega⟩;cases nx with
 |none=>exact⟨List.replicate t x,rfl⟩
 |some y=>exact⟨y::(List.replicate t [x,y]).flatten,rfl⟩
theorem wW(ht:f_ n=true)(x y:Sy):yx n x y=decide (key x=key y):=by rw[lH (fK ht),wT ht]
theorem Xq(ht:f_ n=true){l:List It}(h:KM l){x:It}(hx:l[i]?=some x)(hk:key o≠key x.x):
    step n (o::aH (l.drop i))=o::step n (aH (l.drop i)):=by
 refine MI λy m e=>?_;rw[jl hx,bg]at e;obtain⟨q,hq⟩:=FC (h x (agE hx)).1;rw[hq]at e;rw[<-(aiy e).1,wW ht];exact agD hk
theorem Rh{l:List It}(h:KM l){x:It}(hx:l[i]?=some x)(hn:x.nx=none):aH (l.drop i)=x.x::aH (l.drop (i+1)):=by
 rw[jl hx,bg];unfold je;rw[hn,(h x (agE hx)).2.1 hn];rfl
theorem Xr(ht:f_ n=true){l:List It}(h:KM l){x:It}(hx:l[i]?=some x)(hn:x.nx=some y):
    step n (aH (l.drop i))=List.replicate x.times (.pr x.x y)++step n (aH (l.drop (i+1))):=by
 rw[jl hx,bg];have hk:=(h x (agE hx)).2.2 y hn;unfold je;rw[hn];exact yM (fK ht) (by rw[wW ht];exact agw hk.symm) _ _
theorem acA(ht:f_ n=true){l:List It}(h:KM l){x:It}(hx:l[i]?=some x)(hn:x.nx=none)(hk:key o=key x.x):
    step n (o::aH (l.drop i))=.pr o x.x::step n (aH (l.drop (i+1))):=by
 rw[Rh h hx hn];exact wU (fK ht) (by rw[wW ht];exact agw hk)
theorem acB(ht:f_ n=true){l:List It}(h:KM l){x:It}(hx:l[i]?=some x)(hn:x.nx=some y)(hk:key o=key x.x):
    step n (o::aH (l.drop i))=.pr o x.x::(List.replicate (x.times-1) (.pr y x.x)++step n (y::aH (l.drop (i+1)))):=by
 obtain⟨h1,-,h3⟩:=h x (agE hx);have hk2:=h3 y hn;obtain⟨t,e⟩:∃t,x.times=t+1:=⟨x.times-1,by omega⟩;rw[jl hx,bg];unfold je;rw[hn,e];show step n (o::(List.replicate (t+1) [x.x,y]).flatten++aH (l.drop (i+1)))=_;rw[Ep o x.x y t];show step n (o::x.x::((List.replicate t [y,x.x]).flatten++[y]++aH (l.drop (i+1))))=_;rw[wU (fK ht) (by rw[wW ht];exact agw hk),agf,yM (fK ht) (by rw[wW ht];exact agw hk2)];rfl
theorem Vf{l:List It}(h:l.length<=i)(n:Nat)(o:List Sy)(ho:o.length<=1):step n (o++aH (l.drop i))=o:=by
 rw[ag9 h,cu,agi];cases o with
 |nil=>rfl
 |cons x o=>
  obtain rfl:o=[]:=ahE.1 (by simpa using ho);exact rG n x
def rQ(b:Bool)(n:Nat)(e:Ed):Nat:=(dA (oC b n e)).length
theorem wX{e e':Ed}(h:oC b n e=oC b n e'++m):rQ b n e'<=rQ b n e:=by
 unfold rQ;rw[h,bV,af8];omega
theorem Ri(ha:jB ra)(ho:(n+1)%2=1){s:iD}(h:JW ra rb n s):rQ false n (fC n s).L<=rQ false n s.L/\(fC n s).R=s.R:=by
 obtain⟨L,mid,R⟩:=s;cases L with
 |none=>exact⟨af7 _,rfl⟩
 |some q=>
  obtain⟨p,x⟩:=q;obtain⟨hs,hi,hx⟩:=h.left p x rfl;obtain⟨g1,g2,g3,g4,g5,-⟩:=rM ha (h.left) (BP ha ho hs);unfold fC;dsimp only;split
  .exact⟨wX g4,rfl⟩
  exact⟨af7 _,rfl⟩
theorem Rj(hb:jB rb)(ho:(n+1)%2=1){s:iD}(h:JW ra rb n s):rQ true n (iN n s).R<=rQ true n s.R/\(iN n s).L=s.L:=by
 obtain⟨L,mid,R⟩:=s;cases R with
 |none=>exact⟨af7 _,rfl⟩
 |some q=>
  obtain⟨p,x⟩:=q;obtain⟨hs,hi,hx⟩:=h.right p x rfl;obtain⟨g1,g2,g3,g4,g5,-⟩:=rM hb (h.right) (BP hb ho hs);unfold iN;dsimp only;split
  .exact⟨wX g4,rfl⟩
  exact⟨af7 _,rfl⟩
theorem pg(ha:jB ra)(ho:(n+1)%2=0){s:iD}(h:JW ra rb n s):rQ false n (bI n s).L<=rQ false n s.L/\(bI n s).R=s.R:=by
 obtain⟨L,mid,R⟩:=s;cases L with
 |none=>exact⟨af7 _,rfl⟩
 |some q=>
  obtain⟨p,x⟩:=q;unfold bI;dsimp only;by_cases h2:gD (n+1) p=2
  .rw[af5 h2];exact⟨af7 _,rfl⟩
  rw[af4 h2];split
  .exact⟨af7 _,rfl⟩
  exact⟨wX (rP ha ho h.left h2).2.2.1,rfl⟩
theorem Oq(hb:jB rb)(ho:(n+1)%2=0){s:iD}(h:JW ra rb n s):rQ true n (dU n s).R<=rQ true n s.R/\(dU n s).L=s.L:=by
 obtain⟨L,mid,R⟩:=s;cases R with
 |none=>exact⟨af7 _,rfl⟩
 |some q=>
  obtain⟨p,x⟩:=q;unfold dU;dsimp only;by_cases h2:gD (n+1) p=2
  .rw[af5 h2];exact⟨af7 _,rfl⟩
  rw[af4 h2];split
  .exact⟨af7 _,rfl⟩
  exact⟨wX (rP hb ho h.right h2).2.2.1,rfl⟩
theorem Vg(ha:jB ra)(hb:jB rb){s:iD}(h:JW ra rb n s)(hm:nM s.mid)(ht:t≠[])(hs:kJ n s=S n t){u v:Nat}(hu:rQ false n s.L<=u)(hv:rQ true n s.R<=v)(huv:u+v=t.length)
    (h1:¬(u=(aV ra).length/\v=0)) (h2:¬(v=(aV rb).length/\u=0)) (l1:aQ ra<=n) (l2:aQ rb<=n) (l3:aQ (sig t)<=n):
    s.L=none/\s.R=none/\∃i,s.mid=[i]/\i.times=1/\i.x=sig t:=by
 rw[BK ht,qh l3]at hs;have hlen:=agC List.length hs;unfold kJ at hs hlen;rw[af8,af8,agk]at hlen;have pa:=gY ha.ok;have pb:=gY hb.ok;have hL:s.L=none:=by
  rcases Ir h.left l1 with q|q
  .exact q
  exfalso;rw[q]at hs hlen hu;have e0:gq n (some ([],ra))=[ra]:=rfl;rw[e0]at hs hlen;rw[agk]at hlen;have f1:aH s.mid=[]:=ahE.1 (by omega);have f2:bK n s.R=[]:=ahE.1 (by omega);rw[f1,f2,agi,agi]at hs;injection hs with hs _;have h3:aV ra=t:=by rw[hs];exact eY ht
  have h4:rQ false n (some ([],ra))=(aV ra).length:=by unfold rQ;show(dA [ra]).length=_;simp[dA]
  rw[h4,h3]at hu;rw[h3]at h1;omega
 have hR:s.R=none:=by
  rcases Ir h.right l2 with q|q
  .exact q
  exfalso;rw[q]at hs hlen hv;have e0:bK n (some ([],rb))=[rb]:=rfl;rw[e0]at hs hlen;rw[agk]at hlen;have f1:aH s.mid=[]:=ahE.1 (by omega);have f2:gq n s.L=[]:=ahE.1 (by omega);rw[f1,f2,agi,agH]at hs;injection hs with hs _;have h3:aV rb=t:=by rw[hs];exact eY ht
  have h4:rQ true n (some ([],rb))=(aV rb).length:=by unfold rQ;show(dA [rb]).length=_;simp[dA]
  rw[h4,h3]at hv;rw[h3]at h2;omega
 refine⟨hL,hR,?_⟩;rw[hL,hR]at hs;have e1:gq n none++aH s.mid++bK n none=aH s.mid:=by show[]++aH s.mid++[]=_;simp
 rw[e1]at hs;cases hmid:s.mid with
 |nil=>rw[hmid,cu]at hs;cases hs
 |cons i l=>
  rw[hmid]at hm hs;obtain⟨a,b⟩:=hm i (by simp);rw[bg]at hs;have hl2:=agC List.length hs;unfold je at hs hl2;rw[a]at hs hl2;simp only[af8,ahF,agk]at hl2;have hi1:i.times=1:=by omega
  have hf:aH l=[]:=ahE.1 (by omega);have hl:l=[]:=by
   cases l with
   |nil=>rfl
   |cons j l=>
    exfalso;obtain⟨a',b'⟩:=hm j (by simp);rw[bg]at hf;obtain⟨q,hq⟩:=FC b';rw[hq]at hf;cases hf
  rw[hl];refine⟨i,rfl,hi1,?_⟩;rw[hi1,hf]at hs;have:[i.x]=[sig t]:=by simpa using hs
  exact(aiy this).1
theorem Rk{i:It}(hi:i.nx=none)(h1:i.times=1)(hs:kJ n ⟨none,[i],none⟩=S n t):sig t=i.x:=by
 refine Kz (n:=n) (y:=i.x) ?_;rw[<-hs];show[]++(je i++[])++[]=_;unfold je;rw[hi,h1];rfl
theorem szR(e:Ed):(bK n e).length=(oC true n e).length:=by unfold bK;rw[ajw]
theorem ZG{e e':Ed}(h:bK n e=m++bK n e'):rQ true n e'<=rQ true n e:=by
 refine wX (m:=m.reverse) ?_;unfold bK at h;have:=agC List.reverse h;rw[ahS,aif,aif]at this;exact this
structure GS(rb:Sy)(n k:Nat)(R:Ed)(X:List It)(R':Ed):Prop where
 keyed:Keyed k X
 st:KM X
 ve:VE true rb n R'
 al:X≠[]->∀p x,R'=some (p,x)->Al (n+1) p
 seq:aH X++bK n R'=bK n R
theorem GS.begin{R:Ed}(h:VE true rb n R):GS rb n k R [] R:=⟨λi hi=>(by cases hi),λi hi=>(by cases hi),h,λh=>absurd rfl h,rfl⟩
theorem GS.sz{R:Ed}{X:List It}{R':Ed}(h:GS rb n k R X R'):rQ true n R'<=rQ true n R:=ZG (m:=aH X) h.seq.symm
theorem GS.len{R:Ed}{X:List It}{R':Ed}(h:GS rb n k R X R'):(aH X).length+(bK n R').length=(bK n R).length:=by rw[<-h.seq,af8]
theorem GS.one(hb:jB rb)(ho:(n+1)%2=0){R:Ed}{X:List It}{p:gI}(h:GS rb n k R X (some (p,x)))(hk:key x=k)(h2:gD (n+1) p≠2):
    GS rb n k R (X++[⟨x,none,1⟩]) (bE true n 1 p)/\(bK n (bE true n 1 p)).length<(bK n (some (p,x))).length:=by
 obtain⟨g1,g2,g4,-,-⟩:=rP hb ho h.ve h2;have es:bK n (some (p,x))=[x]++bK n (bE true n 1 p):=by
  unfold bK;rw[g4,ahS];rfl
 refine⟨⟨λi hi=>?_,h.st.app (λi hi=>?_),g1,λ_=>g2,?_⟩,by rw[es,af8,agk];omega⟩
 .rcases ags.1 hi with hi|hi
  .exact h.keyed i hi
  rw[agl.1 hi];exact⟨hk,af7 1,λy e=>by cases e⟩
 .rw[agl.1 hi];exact⟨af7 1,λ_=>rfl,λy e=>by cases e⟩
 rw[bR,agf];show aH X++([x]++[]++bK n _)=_;rw[agi,<-es];exact h.seq
theorem GS.two(hb:jB rb)(ht:f_ (n+1)=true){R:Ed}{X:List It}{q:gI}(h:GS rb n k R X (some ((.pr l r,2)::q,x)))(hk:key x=k)(hl:aQ (.pr l r)=n+1):
    GS rb n k R (X++[⟨l,some r,(kD (n+2) q).1⟩]) (bE true n (kD (n+2) q).1 q)/\(bK n (bE true n (kD (n+2) q).1 q)).length<(bK n (some ((.pr l r,2)::q,x))).length/\x=l:=by
 obtain⟨g1,g2,g3,g4,g5⟩:=Vb hb (fK ht) h.ve hl;have hlr:key l=key r:=by
  have:=Fz hl;rw[wT ht]at this;exact ahz this
 have hi1:∀i:It,i=⟨l,some r,(kD (n+2) q).1⟩->key i.x=k/\1<=i.times/\∀y,i.nx=some y->key y=k:=by
  rintro i rfl;refine⟨by rw[<-hk,g5],g3,λy e=>?_⟩;have e':r=y:=agQ e;rw[<-e',<-hlr,<-hk,g5]
 refine⟨⟨λi hi=>?_,h.st.app (λi hi=>?_),g1,λ_=>g2,?_⟩,?_,g5⟩
 .rcases ags.1 hi with hi|hi
  .exact h.keyed i hi
  exact hi1 i (agl.1 hi)
 .have e:=agl.1 hi;obtain⟨a,b,c⟩:=hi1 i e;exact⟨b,λq=>(by rw[e]at q;cases q),λy hy=>by rw[a];exact c y hy⟩
 .rw[bR,agf];show aH X++((List.replicate _ [l,r]).flatten++[]++bK n _)=_;rw[agi,<-g4];exact h.seq
 obtain⟨t,e⟩:∃t,(kD (n+2) q).1=t+1:=⟨(kD (n+2) q).1-1,by omega⟩;rw[g4,af8,e,ag7,ahW,af8];simp only[agc,ahX];omega
theorem Ot(hb:jB rb)(ho:(n+1)%2=0){p:gI}(hs:dY b rb p x)(h2:gD (n+1) p=2):∃l r q,p=(.pr l r,2)::q/\aQ (.pr l r)=n+1:=by
 rcases qw hb ho hs with⟨h,-⟩|⟨l,r,q,e,hl,-⟩
 .omega
 rw[h2]at e;exact⟨l,r,q,e,hl⟩
structure Gd(ra rb:Sy)(n:Nat)(s s':iD):Prop where
 gg:GG ra rb n s'
 seq:kJ n s'=kJ n s
 szL:rQ false n s'.L<=rQ false n s.L
 szR:rQ true n s'.R<=rQ true n s.R
theorem Vh(ha:jB ra)(hb:jB rb)(ho:(n+1)%2=1){s:iD}(h:JW ra rb n s)(hm:nM s.mid):Gd ra rb n s (iN n (fC n s))/\nM (iN n (fC n s)).mid:=by
 obtain⟨a1,a2,a3⟩:=KI ha ho h hm;obtain⟨b1,b2,b3⟩:=KJ hb ho a1 a3;obtain⟨c1,c2⟩:=Ri ha ho h;obtain⟨d1,d2⟩:=Rj hb ho a1.toJW;exact⟨⟨b1,by rw[b2,a2],by rw[d2];exact c1,by rw[<-c2];exact d1⟩,b3⟩
theorem u_{s:iD}(h:One s.mid):One (bI n s).mid:=by
 unfold bI;split
 .exact h
 split
 .exact h
 split
 .exact h
 intro i hi;rcases agm.1 hi with rfl|hi
 .exact⟨rfl,rfl⟩
 exact h i hi
theorem KN{s:iD}(h:One s.mid):One (dU n s).mid:=by
 unfold dU;split
 .exact h
 split
 .exact h
 split
 .exact h
 intro i hi;rcases ags.1 hi with hi|hi
 .exact h i hi
 rw[agl.1 hi];exact⟨rfl,rfl⟩
theorem Rl(ha:jB ra)(hb:jB rb)(ho:(n+1)%2=0)(ht:f_ (n+1)=false){s:iD}(h:JW ra rb n s)(hm:One s.mid):Gd ra rb n s (dU n (bI n s))/\One (dU n (bI n s)).mid:=by
 obtain⟨a1,a2,a3⟩:=nZ ha ho h hm.JX;obtain⟨b1,b2,b3⟩:=Ip hb ho ht a1 a3;obtain⟨c1,c2⟩:=pg ha ho h;obtain⟨d1,d2⟩:=Oq hb ho a1.toJW;exact⟨⟨b1,by rw[b2,a2],by rw[d2];exact c1,by rw[<-c2];exact d1⟩,KN (u_ hm)⟩
theorem ZH(ha:jB ra)(hb:jB rb)(ht:f_ (n+1)=true){s:iD}(h:JW ra rb n s)(hm:One s.mid)
    (hR:∀p x,s.R=some (p,x)->(gD (n+1) p=0\/gD (n+1) p=2)/\∀i,(bI n s).mid.getLast?=some i->key i.x≠key x):Gd ra rb n s (bI n s)/\KM (bI n s).mid:=by
 obtain⟨a1,a2,a3⟩:=nZ ha (fK ht) h hm.JX;obtain⟨c1,c2⟩:=pg ha (fK ht) h;refine⟨⟨Vd hb ht a1 a3 (by rw[c2];exact hR),a2,c1,by rw[c2];exact af7 _⟩,(u_ hm).st1⟩
theorem ZI(ha:jB ra)(ht:f_ (n+1)=true){s:iD}(h:JW ra rb n s)(hm:One s.mid){X:List It}{R':Ed}(hg:GS rb n k s.R X R')(hne:X≠[])(hk:∀p x,R'=some (p,x)->key x≠k):
    Gd ra rb n s ⟨(bI n s).L,(bI n s).mid++X,R'⟩/\KM ((bI n s).mid++X):=by
 obtain⟨a1,a2,a3⟩:=nZ ha (fK ht) h hm.JX;obtain⟨c1,c2⟩:=pg ha (fK ht) h;have e:aH ((bI n s).mid++X)++bK n R'=aH (bI n s).mid++bK n (bI n s).R:=by rw[bR,agf,hg.seq,c2]
 refine⟨⟨Rb ht (L:=(bI n s).L) (mid:=(bI n s).mid) (R:=(bI n s).R) a1 hg.keyed hne hg.ve (λp x e=>⟨hg.al hne p x e,hk p x e⟩) e,?_,c1,hg.sz⟩,(u_ hm).st1.app hg.st⟩;rw[<-a2];show gq n _++aH _++bK n R'=gq n _++aH _++bK n _;rw[agf,e,agf]
theorem Gd.next(ha:jB ra)(hb:jB rb){s s':iD}(h:Gd ra rb n s s')(hs:kJ n s=S n t){m:List It}(hm:aH m=step (n+1) (aH s'.mid)):
    kJ (n+1) ⟨oD (n+1) s'.L,m,oD (n+1) s'.R⟩=S (n+1) t/\JW ra rb (n+1) ⟨oD (n+1) s'.L,m,oD (n+1) s'.R⟩/\rQ false (n+1) (oD (n+1) s'.L)<=rQ false n s.L/\rQ true (n+1) (oD (n+1) s'.R)<=rQ true n s.R:=by
 obtain⟨a,b⟩:=h.gg.step ha hb hm;refine⟨by rw[a,h.seq,hs];rfl,b,?_,?_⟩
 .have:=Rf h.gg.left;unfold rQ;rw[this];exact h.szL
 have:=Rf h.gg.right;unfold rQ;rw[this];exact h.szR
theorem Gd.mem(ha:jB ra)(hb:jB rb){s s':iD}(h:Gd ra rb n s s')(hs:kJ n s=S n t)(hy:y∈step (n+1) (aH s'.mid)):y∈S (n+1) t:=by
 by_cases hne:t=[]
 .subst hne;exfalso;have:∀n,S n []=[]:=λn=>by
   induction n with
   |zero=>rfl
   |succ n ih=>show step _ _=_;rw[ih,step_nil]
  rw[this,<-h.seq]at hs;have e:=aky.1 hs;rw[(aky.1 e.1).2,step_nil]at hy;cases hy
 obtain⟨l1,l2⟩:=MF ha h.gg.left h.gg.al;obtain⟨r1,r2⟩:=Ik hb h.gg.right h.gg.ar;have e:S (n+1) t=step (n+1) (gq n s'.L++aH s'.mid++bK n s'.R):=by show step (n+1) (S n t)=_;rw[<-hs,<-h.seq];rfl
 have e1:step (n+1) (gq n s'.L++aH s'.mid)=step (n+1) (gq n s'.L)++step (n+1) (aH s'.mid):=by
  cases hf:aH s'.mid with
  |nil=>rw[step_nil,agi,agi]
  |cons z m=>exact(h.gg.cut z (m++bK n s'.R) (by rw[hf];rfl)).app m
 rw[e];cases hR:bK n s'.R with
 |nil=>rw[agi,e1];exact aiE _ hy
 |cons z m=>rw[(h.gg.acy z m hR).app m,e1];exact ahd _ (aiE _ hy)
end M
end Go.Proofs.YtgbhohfabhilgaaGreatDoor
