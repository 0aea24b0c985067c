import Derived.Test.YtgbhohfabhilgaaGreatDoorBase00
set_option maxRecDepth 100000
set_option maxHeartbeats 8000000
set_option linter.unusedVariables false
set_option linter.unusedSimpArgs false
namespace Go.Proofs.YtgbhohfabhilgaaGreatDoor
namespace M
variable{c low n x y:Nat}
inductive Sy where
 |lt (b:Nat)
 |pr (l r:Sy)
 |pw (x:Sy) (k:Nat)
deriving DecidableEq
def qL(k x y:Nat):Nat:=((k+(1234567890123456789*x%2305843009213693951+987654321987654321*y%2305843009213693951)%2305843009213693951)%2305843009213693951)^17%2305843009213693951
theorem UQ(k x y:Nat):qL k x y<2305843009213693951:=ahb _ (by omega)
def key:Sy->Nat
 | .lt b=>qL 1 b 0
 | .pr l r=>qL 2 (key l) (key r)
 | .pw x k=>qL 3 (key x) k
theorem lT(x:Sy):key x<2305843009213693951:=by cases x<;>exact UQ _ _ _
def fits(n x y:Nat):Bool:=
 if n<2 then false else if n%2=1 then false else
  if(n/2-1)%123=122 then decide (x=y)else decide (x/2^((n/2-1)%123/2)%2=(n/2-1)%123%2/\y/2^((n/2-1)%123/2)%2=1-(n/2-1)%123%2)
def yx(n:Nat)(x y:Sy):Bool:=if n%2=1 then decide (x=y)else fits n (key x) (key y)
def after(low x y:Nat):Nat:=((List.range 246).find? (λd=>fits (low+1+d) x y)).elim 0 (λd=>low+1+d)
def aQ:Sy->Nat
 | .lt _=>0
 | .pr l r=>after (max (aQ l) (aQ r)) (key l) (key r)
 | .pw x _=>aQ x+1
def jF:Sy->Prop
 | .lt _=>True
 | .pr l r=>jF l/\jF r/\l≠r
 | .pw x k=>jF x/\aQ x%2=0/\2<=k
def aZ:Sy->List Sy
 | .lt _=>[]
 | .pr l r=>[l,r]
 | .pw x k=>List.replicate k x
theorem sV(h:fits n x y=true):2<=n/\n%2=0:=by
 unfold fits at h;by_cases h1:n<2
 .simp[h1]at h
 by_cases h2:n%2=1
 .simp[h1,h2]at h
 omega
theorem Bh:∀(b:Nat) {x y:Nat},x<2^b->y<2^b->x≠y->∃i,i<b/\x/2^i%2≠y/2^i%2
 |0,x,y,hx,hy,h=>by
  rw[akn]at hx hy
  omega
 |b+1,x,y,hx,hy,h=>by
  by_cases h0:x%2=y%2
  .have hx':x/2<2^b:=by rw[aiR]at hx;omega
   have hy':y/2<2^b:=by rw[aiR]at hy;omega
   obtain⟨i,hi,hd⟩:=Bh b hx' hy' (by omega)
   refine⟨i+1,by omega,?_⟩
   rw[aiR,ahq,<-akB,<-akB]
   exact hd
  .exact⟨0,by omega,by simpa using h0⟩
theorem Me(hx:x<2305843009213693952)(hy:y<2305843009213693952)(low:Nat):∃d,d<246/\fits (low+1+d) x y=true:=by
 obtain⟨c,hc,hf⟩:∃c,c<123/\∀n,2<=n->n%2=0->(n/2-1)%123=c->fits n x y=true:=by
  by_cases h:x=y
  .refine⟨122,by omega,λn h1 h2 h3=>?_⟩;unfold fits;rw[af4 (by omega),af4 (by omega),h3,af5 rfl];exact agw h
  obtain⟨i,hi,hd⟩:=Bh 61 (x:=x) (y:=y) (by omega) (by omega) h;have q1:x/2^i%2<2:=ahb _ (by omega);have q2:y/2^i%2<2:=ahb _ (by omega);refine⟨2*i+x/2^i%2,by omega,λn h1 h2 h3=>?_⟩;have e1:(2*i+x/2^i%2)/2=i:=by omega
  have e2:(2*i+x/2^i%2)%2=x/2^i%2:=by omega
  unfold fits;rw[af4 (by omega),af4 (by omega),h3,af4 (by omega),e1,e2];exact agw ⟨rfl,by omega⟩
 have hm:∃m,low+1<=2*m+2/\2*m+2<=low+246/\m%123=c:=by
  refine⟨low/2+(c+123-low/2%123)%123,?_,?_,?_⟩<;>omega
 obtain⟨m,h1,h2,h3⟩:=hm;refine⟨2*m+2-(low+1),by omega,?_⟩;have e:low+1+(2*m+2-(low+1))=2*m+2:=by omega
 rw[e];refine hf _ (by omega) (by omega) ?_;have:(2*m+2)/2-1=m:=by omega
 rw[this];exact h3
theorem mV(hx:x<2305843009213693952)(hy:y<2305843009213693952)(low:Nat):
    low<after low x y/\after low x y<=low+246/\fits (after low x y) x y=true/\∀j,low<j->j<after low x y->fits j x y=false:=by
 obtain⟨d,hd,hf⟩:=Me hx hy low;unfold after;cases h:(List.range 246).find? (λd=>fits (low+1+d) x y)with
 |none=>
  rw[List.find?_eq_none]at h;exact absurd hf (h d (ahN.2 hd))
 |some e=>
  have he:e<246:=ahN.1 (List.mem_of_find?_eq_some h);rw[List.find?_range_eq_some]at h;obtain⟨h1,-,h3⟩:=h;refine⟨?_,?_,h1,λj a b=>?_⟩
  .show low<low+1+e;omega
  .show low+1+e<=low+246;omega
  have b':j<low+1+e:=b;have:=h3 (j-(low+1)) (by omega);rw[show low+1+(j-(low+1))=j by omega]at this;simpa using this
theorem Bi(hx:x<2305843009213693952)(hy:y<2305843009213693952)(hl:low<n)(hn:fits n x y=true)(h:∀j,low<j->j<n->fits j x y=false):after low x y=n:=by
 obtain⟨a,b,c,d⟩:=mV hx hy low;rcases ajC (after low x y) n with k|k|k
 .have:=h _ a k;rw[c]at this;cases this
 .exact k
 have:=d _ hl k;rw[hn]at this;cases this
theorem jP(x:Sy):key x<2305843009213693952:=by have:=lT x;omega
theorem Qt(l r:Sy):aQ l<aQ (.pr l r)/\aQ r<aQ (.pr l r)/\aQ (.pr l r)%2=0:=by
 obtain⟨a,-,c,-⟩:=mV (jP l) (jP r) (max (aQ l) (aQ r));have:=sV c;show aQ l<after _ _ _/\aQ r<after _ _ _/\after _ _ _%2=0;omega
theorem jQ{x y:Sy}(h:y∈aZ x):aQ y<aQ x:=by
 cases x with
 |lt b=>cases h
 |pr l r=>
  have:=Qt l r;simp[aZ]at h;rcases h with rfl|rfl
  .exact this.1
  exact this.2.1
 |pw x k=>
  simp[aZ]at h;obtain⟨-,rfl⟩:=h;show aQ y<aQ y+1;omega
def cnt(x:Sy):List Sy->Nat
 | []=>0
 |y::t=>if y=x then cnt x t+1 else 0
def blk(n:Nat)(x:Sy)(t:List Sy):Nat:=if n%2=1 then cnt x t else match t with
 | []=>0
 |y::_=>if fits n (key x) (key y)then 1 else 0
def node(n:Nat)(x:Sy)(t:List Sy)(k:Nat):Sy:=if k=0 then x else if n%2=1 then .pw x (k+1)else .pr x (t.headD x)
theorem Qu(x:Sy):∀t,cnt x t<=t.length
 | []=>af7 0
 |y::t=>by
  unfold cnt
  by_cases h:y=x
  .rw[af5 h,agc];have:=Qu x t;omega
  .rw[af4 h];omega
theorem qg(n:Nat)(x:Sy)(t:List Sy):blk n x t<=t.length:=by
 unfold blk;by_cases h:n%2=1
 .rw[af5 h];exact Qu x t
 rw[af4 h];cases t with
 |nil=>exact af7 0
 |cons y t=>by_cases h:fits n (key x) (key y)=true<;>simp[h]
def Bj(n:Nat):Nat->List Sy->List Sy
 |0,_=>[]
 |_+1,[]=>[]
 |f+1,x::t=>node n x t (blk n x t)::Bj n f (t.drop (blk n x t))
def step(n:Nat)(s:List Sy):List Sy:=Bj n s.length s
theorem Ht(n:Nat):∀(f g:Nat) (s:List Sy),s.length<=f->s.length<=g->Bj n f s=Bj n g s
 |0,0,_,_,_=>rfl
 |0,g+1,s,h,_=>by
  obtain rfl:s=[]:=ahE.1 (by omega)
  rfl
 |f+1,0,s,_,h=>by
  obtain rfl:s=[]:=ahE.1 (by omega)
  rfl
 |f+1,g+1,[],_,_=>rfl
 |f+1,g+1,x::t,h,k=>by
  unfold Bj
  rw[Ht n f g (t.drop (blk n x t)) (by rw[agp];rw[agc]at h;omega) (by rw[agp];rw[agc]at k;omega)]
theorem step_nil(n:Nat):step n []=[]:=rfl
theorem bF(n:Nat)(x:Sy)(t:List Sy):step n (x::t)=node n x t (blk n x t)::step n (t.drop (blk n x t)):=by
 show Bj n (t.length+1) (x::t)=_;unfold Bj;rw[Ht n t.length (t.drop (blk n x t)).length _ (by rw[agp];omega) (af7 _)];rfl
theorem UR(n:Nat){s:List Sy}(h:s≠[]):step n s≠[]:=by
 cases s with
 |nil=>exact absurd rfl h
 |cons x t=>rw[bF];exact List.cons_ne_nil _ _
theorem Mf(x:Sy):∀(t1 t2:List Sy),cnt x t1<t1.length->cnt x (t1++t2)=cnt x t1
 | [],t2,h=>by simp at h
 |y::t1,t2,h=>by
  rw[agZ]
  unfold cnt at h⊢
  by_cases hy:y=x
  .rw[af5 hy,agc]at h
   rw[af5 hy,af5 hy,Mf x t1 t2 (by omega)]
  .rw[af4 hy,af4 hy]
theorem Mg(x:Sy):∀(t1 t2:List Sy),cnt x (t1++t2)<=t1.length->cnt x t1=cnt x (t1++t2)
 | [],t2,h=>by
  simp at h
  rw[agH,h];rfl
 |y::t1,t2,h=>by
  rw[agZ]at h⊢
  unfold cnt at h⊢
  by_cases hy:y=x
  .rw[af5 hy,agc]at h
   rw[af5 hy,af5 hy,Mg x t1 t2 (by omega)]
  .rw[af4 hy,af4 hy]
theorem UT{x:Sy}{t1:List Sy}(t2:List Sy)(h:blk n x t1<t1.length):blk n x (t1++t2)=blk n x t1:=by
 unfold blk at h⊢;by_cases hn:n%2=1
 .rw[af5 hn]at h;rw[af5 hn,af5 hn,Mf x t1 t2 h]
 cases t1 with
 |nil=>simp at h
 |cons y t1=>rw[agZ,af4 hn,af4 hn]
theorem wL{x:Sy}{t1 t2:List Sy}(h:blk n x (t1++t2)<=t1.length):blk n x t1=blk n x (t1++t2):=by
 unfold blk at h⊢;by_cases hn:n%2=1
 .rw[af5 hn]at h;rw[af5 hn,af5 hn,Mg x t1 t2 h]
 cases t1 with
 |nil=>
  rw[af4 hn]at h;rw[af4 hn,af4 hn];simp at h⊢;exact h.symm
 |cons y t1=>rw[agZ,af4 hn,af4 hn]
theorem rA{x:Sy}{t1 t2:List Sy}{k:Nat}(h:k<=t1.length):node n x (t1++t2) k=node n x t1 k:=by
 unfold node;by_cases hk:k=0
 .rw[af5 hk,af5 hk]
 rw[af4 hk,af4 hk];cases t1 with
 |nil=>simp at h;exact absurd h hk
 |cons y t1=>rfl
theorem oV(hn:¬n%2=1)(x:Sy)(t:List Sy):blk n x t<=1:=by
 unfold blk;rw[af4 hn];cases t with
 |nil=>show 0<=1;omega
 |cons y t=>by_cases h:fits n (key x) (key y)=true<;>simp[h]
theorem nU{x y:Sy}{t:List Sy}:yx n x y=true↔0<blk n x (y::t):=by
 unfold yx blk;by_cases hn:n%2=1
 .rw[af5 hn,af5 hn];unfold cnt;by_cases h:y=x
  .rw[af5 h];simp[h]
  rw[af4 h];simp;exact λq=>h q.symm
 rw[af4 hn,af4 hn];by_cases h:fits n (key x) (key y)=true<;>simp[h]
theorem Hu(x:Sy):∀t,t.take (cnt x t)=List.replicate (cnt x t) x
 | []=>rfl
 |y::t=>by
  unfold cnt
  by_cases h:y=x
  .rw[af5 h,aiH,Hu x t,ag7,h]
  .rw[af4 h];rfl
theorem Hw(x:Sy):∀t:List Sy,(t.drop (cnt x t)).head?≠some x
 | []=>by simp
 |y::t=>by
  unfold cnt
  by_cases h:y=x
  .rw[af5 h,agr];exact Hw x t
  .rw[af4 h]
   simp
   exact h
theorem Mh(x:Sy)(k:Nat)(t:List Sy):cnt x (List.replicate k x++t)=k+cnt x t:=by
 induction k with
 |zero=>simp
 |succ k ih=>
  rw[ag7,agZ];show(if x=x then cnt x (List.replicate k x++t)+1 else 0)=_;rw[af5 rfl,ih];omega
theorem Ec{x:Sy}{t:List Sy}(h:blk n x t≠0):aZ (node n x t (blk n x t))=x::t.take (blk n x t):=by
 unfold node;rw[af4 h];by_cases hn:n%2=1
 .have e:blk n x t=cnt x t:=by unfold blk;rw[af5 hn]
  rw[af5 hn,e,Hu];rfl
 rw[af4 hn];have h1:=oV hn x t;rw[show blk n x t=1 by omega];cases t with
 |nil=>exact absurd rfl (by unfold blk at h;rw[af4 hn]at h;exact h)
 |cons y t=>rfl
def jk(n:Nat)(s:List Sy):List Sy:=s.flatMap λy=>if aQ y=n then aZ y else[y]
theorem gy(n:Nat)(y:Sy)(s:List Sy):jk n (y::s)=(if aQ y=n then aZ y else[y])++jk n s:=rfl
theorem iJ(n:Nat)(s t:List Sy):jk n (s++t)=jk n s++jk n t:=by unfold jk;rw[ag_]
structure Nb(n:Nat)(x y:Sy):Prop where
 no:∀j,aQ x<j->aQ y<j->j<=n->yx j x y=false
 eq:x=y->aQ x=n/\n%2=0
structure Norm(n:Nat)(s:List Sy):Prop where
 aQ:∀x∈s,aQ x<=n
 ok:∀x∈s,jF x
 nb:∀u x y v,s=u++x::y::v->Nb n x y
theorem Norm.left{u v:List Sy}(h:Norm n (u++v)):Norm n u:=⟨λx hx=>h.aQ x (by simp[hx]),λx hx=>h.ok x (by simp[hx]),λa x y b e=>h.nb a x y (b++v) (by rw[e];simp)⟩
theorem Norm.right{u v:List Sy}(h:Norm n (u++v)):Norm n v:=⟨λx hx=>h.aQ x (by simp[hx]),λx hx=>h.ok x (by simp[hx]),λa x y b e=>h.nb (u++a) x y b (by rw[e];simp)⟩
theorem Bl{x:Sy}{t:List Sy}(h:Norm n (x::t))(hb:blk (n+1) x t≠0):aQ (node (n+1) x t (blk (n+1) x t))=n+1/\jF (node (n+1) x t (blk (n+1) x t)):=by
 cases t with
 |nil=>exact absurd (ajK.1 (qg (n+1) x [])) hb
 |cons y t=>
  have hm:=(nU (n:=n+1) (x:=x) (y:=y) (t:=t)).2 (by omega);have hx:=h.aQ x (by simp);have hy:=h.aQ y (by simp);have hnb:=h.nb [] x y t rfl;unfold node;rw[af4 hb];unfold yx at hm;by_cases hn:(n+1)%2=1
  .rw[af5 hn]at hm;rw[af5 hn];have e:=hnb.eq (ahz hm);exact⟨by show M.aQ x+1=n+1;omega,h.ok x (by simp),by omega,by omega⟩
  rw[af4 hn]at hm;rw[af4 hn];refine⟨?_,h.ok x (by simp),h.ok y (by simp),λe=>?_⟩
  .show after (max (M.aQ x) (M.aQ y)) (key x) (key y)=n+1;refine Bi (jP x) (jP y) (by omega) hm (λj h1 h2=>?_);by_cases hj:j%2=1
   .unfold fits;by_cases q:j<2
    .rw[af5 q]
    rw[af4 q,af5 hj]
   have:=hnb.no j (by omega) (by omega) (by omega);unfold yx at this;rw[af4 hj]at this;exact this
  have:=hnb.eq e;omega
theorem jG(n:Nat)(x:Sy)(t:List Sy):node n x t 0=x:=rfl
theorem Hy{x:Sy}{t:List Sy}(h:Norm n (x::t)):(if aQ (node (n+1) x t (blk (n+1) x t))=n+1 then aZ (node (n+1) x t (blk (n+1) x t))else[node (n+1) x t (blk (n+1) x t)])=x::t.take (blk (n+1) x t):=by
 by_cases hb:blk (n+1) x t=0
 .have hx:=h.aQ x (by simp);rw[hb,jG,af4 (by omega)];rfl
 rw[af5 (Bl h hb).1,Ec hb]
theorem split{n:Nat}:∀(u' v' s:List Sy),Norm n s->step (n+1) s=u'++v'->
    s=jk (n+1) u'++jk (n+1) v'/\step (n+1) (jk (n+1) u')=u'/\step (n+1) (jk (n+1) v')=v'/\∀z m,jk (n+1) v'=z::m->step (n+1) (jk (n+1) u'++[z])=u'++[z]
 | [],v',[],_,e=>by
  rw[step_nil]at e
  obtain rfl:v'=[]:=by simpa using e.symm
  exact⟨rfl,rfl,rfl,λz m h=>by cases h⟩
 | [],v',x::t,h,e=>by
  have e':step (n+1) (x::t)=v':=e
  have key:jk (n+1) v'=x::t:=by
   rw[bF]at e';rw[<-e',gy,Hy h];have hr:Norm n (t.drop (blk (n+1) x t)):=by
    have:x::t=(x::t.take (blk (n+1) x t))++t.drop (blk (n+1) x t):=(by simp);rw[this]at h;exact h.right
   have:=(split [] (step (n+1) (t.drop (blk (n+1) x t))) (t.drop (blk (n+1) x t)) hr rfl).1;rw[show jk (n+1) []=[] from rfl,agH]at this;rw[<-this];simp
  rw[key];refine⟨rfl,rfl,e',λz m hz=>?_⟩;have:z=x:=by simpa using(agC List.head? hz).symm
  rw[this];have hb:blk (n+1) x []=0:=ajK.1 (qg _ _ _);show step (n+1) [x]=[x];rw[bF,hb,jG];rfl
 |a::u',v',[],_,e=>by rw[step_nil]at e;cases e
 |a::u',v',x::t,h,e=>by
  rw[bF,agZ]at e;injection e with e1 e2;have hr:Norm n (t.drop (blk (n+1) x t)):=by
   have:x::t=(x::t.take (blk (n+1) x t))++t.drop (blk (n+1) x t):=by simp
   rw[this]at h;exact h.right
  obtain⟨q1,q2,q3,q4⟩:=split u' v' _ hr e2;have hk:jk (n+1) (a::u')=(x::t.take (blk (n+1) x t))++jk (n+1) u':=by rw[gy,<-e1,Hy h]
  have ht:t=t.take (blk (n+1) x t)++jk (n+1) u'++jk (n+1) v':=by
   rw[agf,<-q1,ahr]
  have hlen:(t.take (blk (n+1) x t)).length=blk (n+1) x t:=by rw[agB];have:=qg (n+1) x t;omega
  have gen:∀r:List Sy,(∃r',t=t.take (blk (n+1) x t)++r++r')->blk (n+1) x (t.take (blk (n+1) x t)++r)=blk (n+1) x t:=by
   rintro r ⟨r',hr'⟩;have hb:blk (n+1) x (t.take (blk (n+1) x t)++r++r')=blk (n+1) x t:=by rw[<-hr']
   rw[wL (t2:=r') (by rw[hb,af8,hlen];omega),hb]
  have nd:∀r:List Sy,(∃r',t=t.take (blk (n+1) x t)++r++r')->step (n+1) (x::(t.take (blk (n+1) x t)++r))=a::step (n+1) r:=by
   intro r hr';rw[bF,gen r hr'];obtain⟨r',hr''⟩:=hr';rw[ahj (by rw[hlen];omega),ag9 (by rw[hlen];omega),agH];rw[<-e1];congr 1;have:node (n+1) x t (blk (n+1) x t)=node (n+1) x (t.take (blk (n+1) x t)++(r++r')) (blk (n+1) x t):=by rw[<-agf,<-hr'']
   rw[this,rA (by rw[hlen];omega),rA (by rw[hlen];omega)]
  rw[hk];refine⟨?_,?_,q3,λz m hz=>?_⟩
  .rw[agZ,agZ,<-ht]
  .rw[agZ,nd _ ⟨_,ht⟩,q2]
  .rw[agZ,agZ,agf,nd _ ⟨m,?_⟩,q4 z m hz]
   .rfl
   .rw[agf,agf,ajt,<-hz,<-agf];exact ht
 termination_by u' _ s=>(u'.length,s.length)
theorem nV{x:Sy}(h:aQ x≠n):jk n [x]=[x]:=by rw[gy,af4 h];rfl
theorem Ob{s:List Sy}(h:Norm n s):Norm (n+1) (step (n+1) s):=by
 have hmem:∀y,y∈step (n+1) s->(aQ y<=n/\jF y/\y∈s)\/(aQ y=n+1/\jF y):=by
  intro y hy;obtain⟨u',v',e⟩:=List.append_of_mem hy;obtain⟨q1,q2,q3,-⟩:=split u' (y::v') s h e;by_cases hl:aQ y=n+1
  .right;refine⟨hl,?_⟩;have hN:Norm n (jk (n+1) (y::v')):=by rw[q1]at h;exact h.right
   cases hs:jk (n+1) (y::v')with
   |nil=>rw[hs,step_nil]at q3;cases q3
   |cons x t=>
    rw[hs,bF]at q3;rw[hs]at hN;injection q3 with e1 e2;by_cases hb:blk (n+1) x t=0
    .rw[hb,jG]at e1;have:=hN.aQ x (by simp);rw[e1]at this;omega
    rw[<-e1];exact(Bl hN hb).2
  left;have hm:y∈s:=by rw[q1,gy,af4 hl];simp
  exact⟨h.aQ y hm,h.ok y hm,hm⟩
 refine⟨λy hy=>?_,λy hy=>?_,λu x y v e=>?_⟩
 .rcases hmem y hy with q|q<;>omega
 .rcases hmem y hy with q|q
  .exact q.2.1
  exact q.2
 obtain⟨q1,q2,q3,-⟩:=split u (x::y::v) s h e;have h2:Norm n (jk (n+1) (x::y::v)):=by rw[q1]at h;exact h.right
 have eo:jk (n+1) (x::y::v)=jk (n+1) [x]++jk (n+1) (y::v):=iJ (n+1) [x] (y::v);obtain⟨p1,p2,p3,-⟩:=split [x] (y::v) _ h2 q3;by_cases hx:aQ x=n+1
 .refine⟨λj a _ b=>absurd b (by omega),λhe=>⟨hx,?_⟩⟩;apply ahk;intro hn;have hn':(n+1)%2=1:=by omega
  subst he;have hk:jk (n+1) [x]=aZ x:=by rw[gy,af5 hx];simp[jk]
  have hk2:jk (n+1) (x::v)=aZ x++jk (n+1) v:=by rw[gy,af5 hx]
  cases hs:aZ x with
  |nil=>rw[hk,hs,step_nil]at p2;cases p2
  |cons a t=>
   rw[hk,hk2]at p1;rw[p1]at q3 h2;obtain⟨T,hT⟩:=ay (t++(a::t++jk (n+1) v));rw[hs,agZ,hT]at q3 h2;rw[bF]at q3;injection q3 with e1 e2;have hb:blk (n+1) a T≠0:=by
    intro h0;rw[h0,jG]at e1;have:=jQ (x:=x) (y:=a) (by rw[hs];simp);rw[e1]at this;omega
   have hbe:=Ec hb;rw[e1,hs]at hbe;have hl:=agC List.length hbe;rw[agc,agc,agB]at hl;have hle:=qg (n+1) a T;have hbl:blk (n+1) a T=t.length:=by omega
   have hc:blk (n+1) a T=cnt a T:=by unfold blk;rw[af5 hn']
   have hd:=Hw a T;rw[<-hc,hbl,<-hT]at hd;simp at hd
 by_cases hy:aQ y=n+1
 .refine⟨λj _ a b=>absurd b (by omega),λhe=>?_⟩;subst he;exact absurd hy hx
 replace p1:jk (n+1) (x::y::v)=x::y::jk (n+1) v:=by rw[eo,nV hx,gy (n+1) y,af4 hy];rfl
 have hs:s=jk (n+1) u++x::y::jk (n+1) v:=by rw[q1,p1]
 have hnb:=h.nb _ _ _ _ hs;have hxl:=h.aQ x (by rw[hs];simp);have hno:yx (n+1) x y=false:=by
  cases hm:yx (n+1) x y with
  |false=>rfl
  |true=>
   have hb:=(nU (t:=jk (n+1) v)).1 hm;rw[p1]at q3 h2;change step (n+1) (x::y::jk (n+1) v)=_ at q3;rw[bF]at q3;injection q3 with e1 e2;have:=(Bl h2 (by omega)).1;rw[e1]at this;omega
 refine⟨λj a b c=>?_,λhe=>?_⟩
 .by_cases hj:j=n+1
  .rw[hj];exact hno
  exact hnb.no j a b (by omega)
 have:=hnb.eq he;exfalso;have hm:yx (n+1) x y=true:=by
  unfold yx;rw[af5 (by omega)];exact agw he
 rw[hm]at hno;cases hno
def S:Nat->List Nat->List Sy
 |0,t=>t.map .lt
 |n+1,t=>step (n+1) (S n t)
theorem uP:∀(n:Nat) (t:List Nat),Norm n (S n t)
 |0,t=>by
  refine⟨λx hx=>?_,λx hx=>?_,λu x y v e=>⟨λj a _ b=>absurd b (by omega),λ_=>⟨?_,rfl⟩⟩⟩
  .obtain⟨b,-,rfl⟩:=agz.1 hx
   exact af7 0
  .obtain⟨b,-,rfl⟩:=agz.1 hx
   trivial
  .have:x∈S 0 t:=by rw[e];simp
   obtain⟨b,-,rfl⟩:=agz.1 this
   rfl
 |n+1,t=>Ob (uP n t)
theorem Xl(n:Nat)(t:List Nat):jk (n+1) (S (n+1) t)=S n t:=by
 have:=(split [] (S (n+1) t) (S n t) (uP n t) rfl).1;rw[this];simp[jk]
def ex(n:Nat):Sy->List Sy
 | .lt b=>[.lt b]
 | .pr l r=>if aQ (.pr l r)<=n then[.pr l r]else ex n l++ex n r
 | .pw x k=>if aQ (.pw x k)<=n then[.pw x k]else(List.replicate k (ex n x)).flatten
theorem qh{y:Sy}(h:aQ y<=n):ex n y=[y]:=by
 cases y with
 |lt b=>rfl
 |pr l r=>unfold ex;rw[af5 h]
 |pw x k=>unfold ex;rw[af5 h]
theorem Aq{y:Sy}(h:n<aQ y):ex n y=(aZ y).flatMap (ex n):=by
 cases y with
 |lt b=>exact absurd h (aiw _)
 |pr l r=>unfold ex;rw[af4 (by omega)];simp[aZ]
 |pw x k=>
  conv=>lhs;unfold ex
  rw[af4 (by omega)];show _=(List.replicate k x).flatMap (ex n);rw[aiV]
theorem nW(n:Nat)(f:Sy->List Sy)(s:List Sy):jk n (s.flatMap f)=s.flatMap λy=>jk n (f y):=by
 induction s with
 |nil=>rfl
 |cons y s ih=>rw[agW,iJ,ih,agW]
theorem yA(n:Nat)(y:Sy):jk (n+1) (ex (n+1) y)=ex n y:=by
 rcases ajC (aQ y) (n+1)with h|h|h
 .rw[qh (by omega),qh (by omega),nV (by omega)]
 .rw[qh (by omega),Aq (by omega),gy,af5 h];show aZ y++[]=_;rw[agi];have:∀l:List Sy,(∀z∈l,aQ z<=n)->l=l.flatMap (ex n):=by
   intro l hl
   induction l with
   |nil=>rfl
   |cons z l ih=>rw[agW,qh (hl z (by simp)),<-ih (λw hw=>hl w (by simp[hw]))];rfl
  exact this _ (λz hz=>by have:=jQ hz;omega)
 rw[Aq (by omega),Aq (by omega),nW];cases y with
 |lt b=>rfl
 |pr l r=>simp only[aZ,agW,aj_,yA n l,yA n r]
 |pw x k=>simp only[aZ,aiV,yA n x]
theorem Kq{t:List Nat}{N:Nat}:∀d n,n+d=N->S n t=(S N t).flatMap (ex n)
 |0,n,h=>by
  obtain rfl:n=N:=h
  have:∀l:List Sy,(∀z∈l,aQ z<=n)->l=l.flatMap (ex n):=by
   intro l hl
   induction l with
   |nil=>rfl
   |cons z l ih=>rw[agW,qh (hl z (by simp)),<-ih (λw hw=>hl w (by simp[hw]))];rfl
  exact this _ (uP n t).aQ
 |d+1,n,h=>by
  rw[<-Xl,Kq (N:=N) d (n+1) (by omega),nW];congr 1;funext y;exact yA n y
def uQ(c x y:Nat):Nat:=
 let d:=((x ^^^ y) &&& 2305843009213693951)/2^(c/2)*2^(c/2)
 if c%2=1/\x/2^(c/2)%2=0 then d &&& (18446744073709551615-2^(c/2))else d
def uf(c x y:Nat):Int:=if x=y then 122 else if c=122 then -1 else if uQ c x y=0 then -1 else((2*Lib.ctz 64 (uQ c x y)+x/2^Lib.ctz 64 (uQ c x y)%2:Nat):Int)
def qM(c x y:Nat):Bool:=if c=122 then decide (x=y)else decide (x/2^(c/2)%2=c%2/\y/2^(c/2)%2=1-c%2)
theorem Ar(h1:2<=n)(h2:n%2=0)(x y:Nat):fits n x y=qM ((n/2-1)%123) x y:=by
 unfold fits qM;rw[af4 (by omega),af4 (by omega)]
theorem Qv(x i:Nat):x/2^i%2=if x.testBit i then 1 else 0:=by
 rw[Nat.testBit_eq_decide_div_mod_eq];by_cases h:x/2^i%2=1
 .simp[h]
 simp[h];omega
theorem Mi(c x y:Nat):uQ c x y<2305843009213693952:=by
 have h1:((x ^^^ y) &&& 2305843009213693951)/2^(c/2)*2^(c/2)<=(x ^^^ y) &&& 2305843009213693951:=akN _ _;have h2:(x ^^^ y) &&& 2305843009213693951<=2305843009213693951:=Nat.and_le_right;unfold uQ;dsimp only;split
 .have:((x ^^^ y) &&& 2305843009213693951)/2^(c/2)*2^(c/2) &&& (18446744073709551615-2^(c/2))<=((x ^^^ y) &&& 2305843009213693951)/2^(c/2)*2^(c/2):=Nat.and_le_left;omega
 omega
theorem Hz(hc:c/2<=60)(i:Nat):(uQ c x y).testBit i=(decide (c/2<=i/\i<61)&&(x.testBit i !=y.testBit i) && !decide (i=c/2/\c%2=1/\x.testBit i=false)):=by
 have hP:∀i,(2305843009213693951:Nat).testBit i=decide (i<61):=λi=>by
  rw[show(2305843009213693951:Nat)=2^61-1 by decide,Nat.testBit_two_pow_sub_one]
 have h0:(((x ^^^ y) &&& 2305843009213693951)/2^(c/2)*2^(c/2)).testBit i=(decide (c/2<=i/\i<61)&&(x.testBit i !=y.testBit i)):=by
  rw[ajT,Nat.testBit_div_two_pow];by_cases hi:c/2<=i
  .rw[show i-c/2+c/2=i by omega,Nat.testBit_and,Nat.testBit_xor,hP];by_cases h61:i<61<;>simp[hi,h61]
  simp[hi]
 unfold uQ;dsimp only;by_cases hz:c%2=1/\x/2^(c/2)%2=0
 .rw[af5 hz,Nat.testBit_and,h0];have hx0:x.testBit (c/2)=false:=by
   have:=Qv x (c/2);rw[hz.2]at this;cases hb:x.testBit (c/2)with
   |false=>rfl
   |true=>rw[hb]at this;simp at this
  have hm:i<61->(18446744073709551615-2^(c/2)).testBit i= !decide (i=c/2):=λhi=>by
   rw[show 18446744073709551615-2^(c/2)=2^64-(2^(c/2)+1) by omega,Nat.testBit_two_pow_sub_succ (Nat.pow_lt_pow_right (by omega) (by omega)),Nat.testBit_two_pow];by_cases e:i=c/2
   .simp[e]
   have e':c/2≠i:=λq=>e q.symm;simp[e,e'];omega
  by_cases h61:i<61
  .rw[hm h61];by_cases e:i=c/2
   .subst e;simp[hx0,hz.1]
   simp[e]
  simp[h61]
 rw[af4 hz,h0];by_cases e:i=c/2
 .subst e;have:¬(c%2=1/\x.testBit (c/2)=false):=λ⟨q1,q2⟩=>hz ⟨q1,by rw[Qv,q2];rfl⟩;simp[this]
 simp[e]
theorem UU{d:Nat}(h0:d≠0)(h:d<18446744073709551616):d.testBit (Lib.ctz 64 d)=true/\∀i,i<Lib.ctz 64 d->d.testBit i=false:=by
 unfold Lib.ctz;rw[af4 h0];obtain⟨m,hm,-⟩:=Lib.ctzFrom_spec 64 d (by omega) h;generalize Lib.ctzFrom 64 d=k at hm⊢;rw[hm];refine⟨?_,λi hi=>?_⟩
 .rw[ahq,ajT];simp
 rw[ahq,ajT];have:¬k<=i:=by omega
 simp[this]
theorem sW(hc:c<=122)(hx:x<2305843009213693952)(hy:y<2305843009213693952):
    (uf c x y= -1/\∀j,c<=j->j<=122->qM j x y=false)\/∃r:Nat,uf c x y=r/\c<=r/\r<=122/\qM r x y=true/\∀j,c<=j->j<r->qM j x y=false:=by
 have hxb:∀i,61<=i->x.testBit i=false:=λi hi=>Nat.testBit_lt_two_pow (ahm hx (aj0 (n:=2) (i:=61) (by omega) hi));have hC:∀j,j<122->qM j x y=true->x.testBit (j/2)=decide (j%2=1)/\y.testBit (j/2)= !decide (j%2=1):=by
  intro j hj h;unfold qM at h;rw[af4 (by omega)]at h;obtain⟨a,b⟩:=ahz h;rw[Qv]at a b;cases h1:x.testBit (j/2)<;>cases h2:y.testBit (j/2)<;>rw[h1]at a<;>rw[h2]at b<;>simp at a b<;>(have:=aiB j;simp;omega)
 unfold uf;by_cases he:x=y
 .rw[af5 he];refine .inr ⟨122,rfl,hc,af7 _,by unfold qM;rw[af5 rfl];exact agw he,λj h1 h2=>?_⟩;cases hq:qM j x y with
  |false=>rfl
  |true=>
   obtain⟨a,b⟩:=hC j h2 hq;rw[he,b]at a;cases hd:decide (j%2=1)<;>rw[hd]at a<;>cases a
 rw[af4 he];have h122:qM 122 x y=false:=by unfold qM;rw[af5 rfl];exact agD he
 by_cases hc2:c=122
 .rw[af5 hc2];exact .inl ⟨rfl,λj h1 h2=>by rw[show j=122 by omega];exact h122⟩
 rw[af4 hc2];have hcb:c/2<=60:=by omega
 have hfit:∀j,c<=j->j<122->qM j x y=true->(uQ c x y).testBit (j/2)=true:=by
  intro j h1 h2 hq;obtain⟨a,b⟩:=hC j h2 hq;rw[Hz hcb];have h3:decide (c/2<=j/2/\j/2<61)=true:=agw (by omega);have h4:(x.testBit (j/2) !=y.testBit (j/2))=true:=by rw[a,b];cases decide (j%2=1)<;>rfl
  have h5:decide (j/2=c/2/\c%2=1/\x.testBit (j/2)=false)=false:=by
   refine agD (λ⟨q1,q2,q3⟩=>?_);rw[q3]at a;have:=ai0 a.symm;omega
  rw[h3,h4,h5];rfl
 by_cases h0:uQ c x y=0
 .rw[af5 h0];refine .inl ⟨rfl,λj h1 h2=>?_⟩;by_cases hj:j=122
  .rw[hj];exact h122
  cases hq:qM j x y with
  |false=>rfl
  |true=>
   have:=hfit j h1 (by omega) hq;rw[h0,Nat.zero_testBit]at this;cases this
 rw[af4 h0];obtain⟨k,hk⟩:=ay (Lib.ctz 64 (uQ c x y));have hlow:=UU h0 (by have:=Mi c x y;omega);rw[hk]at hlow⊢;have hb:=hlow.1;rw[Hz hcb]at hb;have hb1:(c/2<=k/\k<61)/\x.testBit k≠y.testBit k/\¬(k=c/2/\c%2=1/\x.testBit k=false):=by
  simp only[agy,aiJ,bne_iff_ne,ahV,ahQ]at hb;exact⟨hb.1.1,hb.1.2,hb.2⟩
 obtain⟨⟨b1,b2⟩,b3,b4⟩:=hb1;have hxk:x/2^k%2=if x.testBit k then 1 else 0:=Qv x k
 have hyk:y/2^k%2=if y.testBit k then 1 else 0:=Qv y k
 have hcr:c<=2*k+x/2^k%2:=by
  by_cases e:k=c/2/\c%2=1
  .have:x.testBit k=true:=by
    cases hq:x.testBit k with
    |true=>rfl
    |false=>exact absurd ⟨e.1,e.2,hq⟩ b4
   rw[hxk,this];simp;omega
  omega
 refine .inr ⟨2*k+x/2^k%2,rfl,hcr,by omega,?_,λj h1 h2=>?_⟩
 .have e1:(2*k+x/2^k%2)/2=k:=by omega
  have e2:(2*k+x/2^k%2)%2=x/2^k%2:=by omega
  unfold qM;rw[af4 (by omega),e1,e2];refine agw ⟨rfl,?_⟩;rw[hxk,hyk];cases hq1:x.testBit k<;>cases hq2:y.testBit k<;>simp[hq1,hq2]at b3⊢
 cases hq:qM j x y with
 |false=>rfl
 |true=>
  have hj:j<122:=by omega
  have ht:=hfit j h1 hj hq;by_cases hjk:j/2<k
  .rw[hlow.2 _ hjk]at ht;cases ht
  have ejk:j/2=k:=by omega
  obtain⟨a,-⟩:=hC j hj hq;rw[ejk]at a;rw[hxk,a]at h2;have:=aiB j;by_cases hj2:j%2=1
  .simp[hj2]at h2;omega
  simp[hj2]at h2;omega
def Zk(low x y:Nat):Int:=
 if 0<=uf (low/2%123) x y then 2*((low/2+1:Nat)+uf (low/2%123) x y-(low/2%123:Nat))else if 0<=uf 0 x y then 2*((low/2+1:Nat)+uf 0 x y-(low/2%123:Nat)+123)else 0
theorem UV(hx:x<2305843009213693952)(hy:y<2305843009213693952):Zk low x y=(after low x y:Nat):=by
 have hc:low/2%123<=122:=by omega
 have hodd:∀j,j%2=1->fits j x y=false:=λj hj=>by
  cases h:fits j x y with
  |false=>rfl
  |true=>have:=sV h;omega
 have hfj:∀m,fits (2*(low/2+1+m)) x y=qM ((low/2+m)%123) x y:=λm=>by
  rw[Ar (by omega) (by omega),show 2*(low/2+1+m)/2-1=low/2+m by omega]
 have hj:∀j,low<j->j%2=0->∃m,j=2*(low/2+1+m):=λj h1 h2=>⟨j/2-(low/2+1),by omega⟩;unfold Zk;rcases sW hc hx hy with⟨e,hno⟩|⟨r,e,r1,r2,r3,r4⟩
 .rw[e,af4 (by omega)];rcases sW (agb 122) hx hy with⟨e0,hno0⟩|⟨r,e0,r1,r2,r3,r4⟩
  .exfalso;obtain⟨-,-,h3,-⟩:=mV hx hy low;have:=sV h3;rw[Ar this.1 this.2,hno0 _ (agb _) (by omega)]at h3;cases h3
  rw[e0,af5 (by omega)];have hrc:r<low/2%123:=by
   apply ahk;intro hn;have:=hno r (by omega) r2;rw[r3]at this;cases this
  have:after low x y=2*(low/2+1+(r+123-low/2%123)):=by
   refine Bi hx hy (by omega) ?_ (λj h1 h2=>?_)
   .rw[hfj,show(low/2+(r+123-low/2%123))%123=r by omega];exact r3
   by_cases hj2:j%2=1
   .exact hodd j hj2
   obtain⟨m,rfl⟩:=hj j h1 (by omega);rw[hfj];by_cases hm:low/2%123+m<=122
   .exact hno _ (by omega) (by omega)
   exact r4 _ (by omega) (by omega)
  rw[this];omega
 rw[e,af5 (by omega)];have:after low x y=2*(low/2+1+(r-low/2%123)):=by
  refine Bi hx hy (by omega) ?_ (λj h1 h2=>?_)
  .rw[hfj,show(low/2+(r-low/2%123))%123=r by omega];exact r3
  by_cases hj2:j%2=1
  .exact hodd j hj2
  obtain⟨m,rfl⟩:=hj j h1 (by omega);rw[hfj];exact r4 _ (by omega) (by omega)
 rw[this];omega
end M
end Go.Proofs.YtgbhohfabhilgaaGreatDoor
