import Derived.Test.YtgbhohfabhilgaaGreatDoorMrg00
import Derived.Deep.CutRange
set_option maxRecDepth 100000
set_option maxHeartbeats 8000000
set_option linter.unusedVariables false
set_option linter.unusedSimpArgs false
namespace Go.Proofs.YtgbhohfabhilgaaGreatDoor
open Go.RowKit Go.Lib
namespace M
variable{l:List bH}{B hi hi' lo lo2 n:Nat}{v:Value}{A C W:World}{x:bH}
def abg(W:World)(v:Value)(l:List bH):Prop:=
 ∃a cap,v=.slice a l.length cap/\l.length<=cap/\cap<=maxLen/\∀(i:Nat) (h:i<l.length),∃b,a=some b/\
  W.cell? (b.add (i*3))=some (.int .i64 l[i].pos)/\W.cell? ⟨(b.add (i*3)).block,(b.add (i*3)).off+1,none⟩=some (.int .i64 l[i].n)/\W.cell? ⟨(b.add (i*3)).block,(b.add (i*3)).off+2,none⟩=some (.int .i64 l[i].id)
theorem mg.row(h:mg B W v l):abg W v l:=by
 rcases h.shape with⟨rfl,rfl⟩|⟨g,cap,rfl,h1,h2⟩
 .exact⟨none,0,rfl,by simp,by unfold maxLen;omega,λi h=>by simp at h⟩
 .refine⟨_,cap,rfl,h1,h2,λi hi=>⟨_,rfl,?_⟩⟩
  have e0:=aP.cell iV h hi (j:=0) (by omega);have e1:=aP.cell iV h hi (j:=1) (by omega);have e2:=aP.cell iV h hi (j:=2) (by omega)
  have ea:(⟨g,0,none⟩:Addr).add (i*3)=⟨g,i*3,none⟩:=by unfold Addr.add;split<;>simp_all
  rw[ea]
  exact⟨e0,e1,e2⟩
theorem acs(b:Addr)(h:n≠0):b.add n=⟨b.block,b.off+n,none⟩:=by
 cases n with
 |zero=>exact absurd rfl h
 |succ n=>unfold Addr.add;simp
theorem abX(b:Addr):b.add 0=b:=by unfold Addr.add;simp
theorem ak_(b:Addr)(i j:Nat):(b.add i).add j=b.add (j+i):=by
 by_cases h1:i=0
 .subst h1;rw[abX,ahC]
 .by_cases h2:j=0
  .subst h2;rw[abX,ahi]
  .rw[acs b h1,acs _ h2,acs b (by omega)]
   simp only[ahp,ajf,aht]
   omega
theorem afO(a0:Option Addr)(c:Nat)(hc:l.length+1<=c):
    ∃A' c',(∀w,(Instr.slice 62 (.slice a0 (l.length+1) c) (some (.int .i64 1)) none none).run Tryz.prog w=.ok (.slice A' l.length c') w)/\∀W,abg W (.slice a0 (l.length+1) c) (x::l)->abg W (.slice A' l.length c') l:=by
 have hs:∀w,(sizeOf (Tryz.prog.elem 62)).run Tryz.prog w=.ok 3 w:=λw=>by kernel_rfl
 have hr:∀w,(Instr.slice 62 (.slice a0 (l.length+1) c) (some (.int .i64 1)) none none).run Tryz.prog w=.ok (sliced a0 1 (l.length+1) c 3) w:=λw=>by
  have:=run_slice_l (P:=Tryz.prog) w 62 a0 (l.length+1) c (by kernel_rfl) .i64 1 (by omega) (by omega)
  rw[this,hs];simp[Result.andThen]
 refine⟨(if c=1 then a0 else a0.map (·.add 3)),c-1,(λw=>by rw[hr w];simp[sliced]),?_⟩
 rintro W ⟨a,cap,hv,h1,h2,h4⟩
 simp only[agn]at hv
 obtain⟨rfl,-,rfl⟩:=hv
 simp only[agc]at h1
 refine⟨_,_,rfl,by omega,by omega,?_⟩
 intro j hj
 obtain⟨g,rfl,e0,e1,e2⟩:=h4 (j+1) (by simpa using hj)
 have hne:¬c=1:=by omega
 rw[af4 hne]
 have hx:(x::l)[j+1]'(by simpa using hj)=l[j]:=rfl
 have hadd:(g.add 3).add (j*3)=g.add ((j+1)*3):=by rw[ak_];congr 1;omega
 rw[hx]at e0 e1 e2
 exact⟨_,rfl,by rw[hadd];exact e0,by rw[hadd];exact e1,by rw[hadd];exact e2⟩
theorem abg.head(h:abg W v (x::l)):∃b cap,v=.slice (some b) (l.length+1) cap/\l.length+1<=cap/\cap<=maxLen/\W.cell? b=some (.int .i64 x.pos)/\W.cell? ⟨b.block,b.off+1,none⟩=some (.int .i64 x.n)/\W.cell? ⟨b.block,b.off+2,none⟩=some (.int .i64 x.id):=by
 obtain⟨a,cap,rfl,h1,h2,h3⟩:=h
 obtain⟨b,rfl,e0,e1,e2⟩:=h3 0 (by simp)
 rw[aiS,abX]at e0 e1 e2
 exact⟨b,cap,rfl,h1,h2,e0,e1,e2⟩
theorem abg.hd{b:Addr}{c:Nat}(h:abg W (.slice (some b) n c) (x::l)):W.cell? b=some (.int .i64 x.pos)/\W.cell? ⟨b.block,b.off+1,none⟩=some (.int .i64 x.n)/\W.cell? ⟨b.block,b.off+2,none⟩=some (.int .i64 x.id):=by
 obtain⟨b',cap,hv,-,-,h1⟩:=h.head
 cases hv
 exact h1
def acJ(b:Nat):List Value:=[.pointer (some ⟨b,0,none⟩)]
theorem abY(b:Nat):(acJ b).length=1:=rfl
theorem alY(b:Nat):∀u∈acJ b,u.oneCell'=true:=by simp[acJ,Value.oneCell']
abbrev Pts(B:Nat)(W:World)(v:Value)(l:List Nat):Prop:=aP B W 168 1 acJ v l
theorem ala:Elem Tryz.prog 165 168 1 8:=gP Tryz.underlying165 (z:=.pointer none) (by kernel_rfl) rfl (by decide) (by decide)
theorem abN{l:List Nat}(h:Pts B W v l){i:Nat}(hi:i<l.length):∃g cap,v=.slice (some ⟨g,0,none⟩) l.length cap/\W.cell? ⟨g,i,none⟩=some (.pointer (some ⟨l[i],0,none⟩)):=by
 rcases h.shape with⟨-,rfl⟩|⟨g,cap,rfl,h1,h2⟩
 .simp at hi
 .have:=aP.cell abY h hi (j:=0) (by omega)
  rw[ag3,ahC]at this
  exact⟨g,cap,rfl,this⟩
def acf(w:World)(lo hi:Nat)(g:Grp):Prop:=
 ∃vl vr,GpC w lo vl vr g 0 0 false/\lo<hi/\mg (lo+1) w vl g.l/\mg (lo+1) w vr g.r/\(∀k,vl.ownBlock=some k->k<hi/\vr.ownBlock≠some k)/\∀k,vr.ownBlock=some k->k<hi
def aaG(w:World):Nat->Nat->List (Nat×Grp)->Prop
 |lo,hi,[]=>lo<=hi
 |lo,hi,x::X=>lo<=x.1/\∃m,acf w x.1 m x.2/\aaG w m hi X
def abm(lo hi:Nat)(A C:World):Prop:=∀k,lo<=k->k<hi->∀t:TypeId,t=170\/t=107->∀(cs:Array Value) (fz:Nat×Nat),A.heap[k]?=some (.cells cs t fz)->C.heap[k]?=some (.cells cs t fz)
theorem abm.mono{lo':Nat}(h:abm lo hi A C)(h1:lo<=lo')(h2:hi'<=hi):abm lo' hi' A C:=λk a b=>h k (by omega) (by omega)
theorem abm.of(h:Below A.heap.size A C):abm lo hi A C:=λk _ _ t _ cs fz e=>by rw[h.block k (aga.1 e).1];exact e
theorem abm.app{α:Type}{e:TypeId}{size:Nat}{enc:α->List Value}{l:List α}{o:Obj}(hS:aP lo2 A e size enc v l)(hg:(A.alloc o).grownBy C v.ownBlock)(h1:e≠170)(h2:e≠107):abm lo hi A C:=λk _ _ t ht cs fz h=>aah h hS hg (by rcases ht with rfl|rfl;exact λq=>h1 q.symm;exact λq=>h2 q.symm)
theorem ads(h:abm lo hi A C)(hs:mg lo2 A v l)(h1:lo<=lo2)(h2:∀k,v.ownBlock=some k->k<hi):mg lo2 C v l:=by
 refine⟨hs.1,?_⟩
 rcases hs.2 with hn|⟨g,cap,cur,hv,hg,hh,rest⟩
 .exact .inl hn
 .exact .inr ⟨g,cap,cur,hv,hg,h g (by omega) (h2 g (by rw[hv];rfl)) _ (.inr rfl) _ _ hh,rest⟩
theorem acf.keep{g:Grp}(h:acf A lo hi g)(hk:abm lo hi A C):acf C lo hi g:=by
 obtain⟨vl,vr,h1,h2,h3,h4,h5,h6⟩:=h
 exact⟨vl,vr,hk lo (af7 _) h2 _ (.inl rfl) _ _ h1,h2,ads hk h3 (by omega) (λk q=>(h5 k q).1),ads hk h4 (by omega) h6,h5,h6⟩
theorem aaG.le{w:World}:∀{X:List (Nat×Grp)} {lo hi:Nat},aaG w lo hi X->lo<=hi
 | [],_,_,h=>h
 |x::X,lo,hi,⟨h1,m,h2,h3⟩=>by
  obtain⟨_,_,_,h4,_⟩:=h2
  have:=aaG.le h3
  omega
theorem aaG.keep{A C:World}:∀{X:List (Nat×Grp)} {lo hi:Nat},aaG A lo hi X->abm lo hi A C->aaG C lo hi X
 | [],_,_,h,_=>h
 |x::X,lo,hi,⟨h1,m,h2,h3⟩,hk=>by
  have h5:=h3.le
  have h4:x.1<m:=by obtain⟨_,_,_,h4,_⟩:=h2;exact h4
  exact⟨h1,m,h2.keep (hk.mono h1 h5),aaG.keep h3 (hk.mono (by omega) (af7 _))⟩
theorem acf.mono{w:World}{g:Grp}(h:acf w lo hi g)(h2:hi<=hi'):acf w lo hi' g:=by
 obtain⟨vl,vr,a1,a2,a3,a4,a5,a6⟩:=h
 exact⟨vl,vr,a1,by omega,a3,a4,λk q=>⟨by have:=(a5 k q).1;omega,(a5 k q).2⟩,λk q=>by have:=a6 k q;omega⟩
theorem aaG.mono{w:World}:∀{X:List (Nat×Grp)} {lo hi hi':Nat},aaG w lo hi X->hi<=hi'->aaG w lo hi' X
 | [],_,_,_,h,h2=>af9 h h2
 |x::X,lo,hi,hi',⟨h1,m,h2,h3⟩,h4=>⟨h1,m,h2,aaG.mono h3 h4⟩
theorem aaG.snoc{w:World}{b hi:Nat}{g:Grp}(hg:acf w b hi g):∀{X:List (Nat×Grp)} {lo m:Nat},aaG w lo m X->m<=b->aaG w lo hi (X++[(b,g)])
 | [],lo,m,h,h2=>⟨af9 h h2,hi,hg,af7 _⟩
 |x::X,lo,m,⟨h1,m2,h3,h4⟩,h2=>⟨h1,m2,h3,aaG.snoc hg h4 h2⟩
theorem aaG.last{w:World}{x:Nat×Grp}{hi:Nat}:∀{X:List (Nat×Grp)} {lo:Nat},aaG w lo hi (X++[x])->aaG w lo x.1 X/\acf w x.1 hi x.2
 | [],lo,⟨h1,m,h2,h3⟩=>⟨h1,h2.mono h3⟩
 |y::X,lo,⟨h1,m,h2,h3⟩=>by
  obtain⟨h4,h5⟩:=aaG.last h3
  exact⟨⟨h1,m,h2,h4⟩,h5⟩
end M
end Go.Proofs.YtgbhohfabhilgaaGreatDoor
namespace Go.Proofs.YtgbhohfabhilgaaGreatDoor
open Go.RowKit Go.Lib
namespace M
attribute [local go_sem] Oper.semAt_some
variable{b:Bool}{len lp lq:Int}{p p' p2 q q' q2:List bH}{v vl vl' vr vr':Value}{c:bH}
structure alC(W:World)(len:Int)(p q p' q':List bH)(X:List (Nat×Grp))(pv qv gv:Value)(w:World):Prop where
 rp:∀w2,Below W.heap.size W w2->abg w2 pv p'
 rq:∀w2,Below W.heap.size W w2->abg w2 qv q'
 fp:∃l,bC len l p'=true
 fq:∃l,bC len l q'=true
 pts:Pts W.heap.size w gv (X.map (·.1))
 gs:aaG w W.heap.size w.heap.size X
 flow:(X=[]/\aae p q=aae p' q')\/∃X0 x,X=X0++[x]/\aae p q=X0.map (·.2)++grow (p'.length+q'.length) x.2 p' q'
 Dx:Below W.heap.size W w
 num:X.length+p'.length+q'.length<=1000
def DivA(W:World)(p' q':List bH)(pv qv lv cv:Value)(wr w:World):Prop:=
 ∃b c p'' q'' gc,nx p' q'=some (b,c,p'',q'')/\(∀w2,Below W.heap.size W w2->abg w2 pv p'')/\(∀w2,Below W.heap.size W w2->abg w2 qv q'')/\lv=.bool b/\cv=.pointer (some ⟨gc,0,none⟩)/\IG w gc c/\Below wr.heap.size wr w/\wr.heap.size<=gc
def alN(W:World)(p q:List bH)(e:Ending)(w':World):Prop:=
 ∃gv X,e=.returned gv/\Pts W.heap.size w' gv (X.map (·.1))/\aaG w' W.heap.size w'.heap.size X/\X.map (·.2)=aae p q/\Below W.heap.size W w'/\X.length<=1000
theorem afd(h:nx p q=some (b,c,p',q'))(hp:bC len lp p=true)(hq:bC len lq q=true):0<=c.pos/\0<=c.n/\c.pos+c.n<=1152921504606846976/\(∃l,bC len l p'=true)/\∃l,bC len l q'=true:=by
 rcases aaO h with⟨-,rfl,rfl,-⟩|⟨-,rfl,rfl,-⟩
 .obtain⟨-,a1,a2,a3,a4,-,a5⟩:=aad hp
  exact⟨a1,a2,by unfold dX at a4;omega,⟨_,a5⟩,⟨_,hq⟩⟩
 .obtain⟨-,a1,a2,a3,a4,-,a5⟩:=aad hq
  exact⟨a1,a2,by unfold dX at a4;omega,⟨_,hp⟩,⟨_,a5⟩⟩
theorem alD(b:Bool)(c:bH):(⟨[],[],c.pos,c.pos+c.n⟩:Grp).add b c=oneG b c:=by cases b<;>simp[Grp.add,oneG]
abbrev alJ(p q p' q':List bH)(X:List (Nat×Grp)):Prop:=(X=[]/\aae p q=aae p' q')\/∃X0 x,X=X0++[x]/\aae p q=X0.map (·.2)++grow (p'.length+q'.length) x.2 p' q'
theorem alb{X:List (Nat×Grp)}(h:nx p' q'=some (b,c,p2,q2))(hf:alJ p q p' q' X)(ho:X=[]\/∃X0 x,X=X0++[x]/\x.2.en<c.pos):aae p q=X.map (·.2)++grow (p2.length+q2.length) (oneG b c) p2 q2:=by
 rcases hf with⟨rfl,e⟩|⟨X0,x,rfl,e⟩
 .rw[e];unfold aae;rw[h];rfl
 .rcases ho with ho|⟨X1,y,ho,hlt⟩
  .simp at ho
  .obtain⟨rfl,e2⟩:=ai3 ho rfl
   injection e2 with e2 _
   subst e2
   rw[e,abC h,aai h,af5 hlt,ag2,agf];rfl
theorem alc{X0:List (Nat×Grp)}{x:Nat×Grp}(h:nx p' q'=some (b,c,p2,q2))(hf:alJ p q p' q' (X0++[x]))(hle:c.pos<=x.2.en):aae p q=X0.map (·.2)++grow (p2.length+q2.length) (x.2.add b c) p2 q2:=by
 rcases hf with⟨e,_⟩|⟨X1,y,e1,e⟩
 .simp at e
 .obtain⟨rfl,e2⟩:=ai3 e1 rfl
  injection e2 with e2 _
  subst e2
  rw[e,abC h,aai h,af4 (by omega)]
theorem ald{X0:List (Nat×Grp)}{gg:Grp}(h:aae p q=X0.map (·.2)++grow (p2.length+q2.length) (gg.add b c) p2 q2):gg.l.length<=p.length/\gg.r.length<=q.length:=by
 obtain⟨e1,e2⟩:=aaH p q
 obtain⟨k1,k2⟩:=abE (p2.length+q2.length) (gg.add b c) p2 q2 (af7 _)
 rw[h,ag2,ais,k1]at e1
 rw[h,ag2,ais,k2]at e2
 have l1:=agC List.length e1
 have l2:=agC List.length e2
 simp only[af8]at l1 l2
 have h1:gg.l.length<=(gg.add b c).l.length/\gg.r.length<=(gg.add b c).r.length:=by
  cases b
  .exact⟨af7 _,by show _<=(gg.r++[c]).length;simp⟩
  .exact⟨by show _<=(gg.l++[c]).length;simp,af7 _⟩
 omega
theorem acM{t t2:TypeId}{A C:World}{b:Nat}{cs:Array Value}{fz:Nat×Nat}(hg:A.grownBy C (some b))(hb:A.heap[b]?=some (.cells cs t2 fz))(hne:t≠t2):jd t A C:=λk cs' ZN e=>aI hg e (λq=>by
 rw[q,hb]at e
 injection e with e;injection e with _ e _;exact hne e.symm)
theorem afQ{gb:Nat}{w3 wq w4 we w6 w7:World}{o v2:Value}{g g':Grp}{l m:List bH}{cs:Array Value}(hk3:GpC w3 gb vl vr g 0 0 false)(hk6:GpC w6 gb vl' vr' g' 0 0 false)(b4:Below w3.heap.size w3 wq)(g4:wq.grownBy w4 (some gb))(be:Below w4.heap.size w4 we)(hgr:(we.alloc (.cells cs 107)).grownBy w6 v.ownBlock)(b6:Below (gb+1) we w6)(g7:w6.grownBy w7 (some gb))(hS2:mg (gb+1) w6 v2 (l++[c]))(hcv:mg (gb+1) w3 v l)(hco:mg (gb+1) w3 o m)(EI:pE we.heap.size v v2)(hvo:∀k,v.ownBlock=some k->o.ownBlock≠some k)(ho:∀k,o.ownBlock=some k->k<w3.heap.size):
    mg (gb+1) w7 v2 (l++[c])/\mg (gb+1) w7 o m/\(∀k,v2.ownBlock=some k->k<w7.heap.size/\o.ownBlock≠some k)/\(∀k,o.ownBlock=some k->k<w7.heap.size)/\Below gb w3 w7/\jd 168 w3 w7:=by
 have hlt:=(aga.1 hk3).1
 have hw:∀{x:Value} {y:List bH},mg (gb+1) w3 x y->mg (gb+1) we x y:=λh=>aP.below (aP.grown (aP.below h b4) g4 (.inr λq=>by have:=(aP.blk h q).1;omega)) be
 have h7:mg (gb+1) w7 v2 (l++[c]):=aP.grown hS2 g7 (.inr λq=>by have:=(aP.blk hS2 q).1;omega)
 have s1:=b4.size;have s2:=g4.size;have s3:=be.size;have s4:=b6.size;have s5:=g7.size
 have hqb:wq.heap[gb]?=_:=au b4 hk3
 refine⟨h7,?_,λk hk=>⟨?_,?_⟩,λk hk=>by have:=ho k hk;omega,?_,?_⟩
 .have h1:mg (gb+1) w6 o m:=aP.grown (hw hco) (aM (ahG we _ _) hgr) (by
   cases ho':o.ownBlock with
   |none=>exact .inl rfl
   |some k=>exact .inr λq=>hvo k q.symm ho')
  exact aP.grown h1 g7 (.inr λq=>by have:=(aP.blk h1 q).1;omega)
 .obtain⟨-,cur,e⟩:=aP.blk h7 hk
  exact(aga.1 e).1
 .rcases EI with e|⟨b,e,hb⟩
  .exact hvo k (by rw[<-e];exact hk)
  .intro q
   rw[hk]at e
   injection e with e
   have:=ho k q
   omega
 .exact(((b4.mono (by omega)).trans (bL g4 (af7 _) (by omega))).trans (be.mono (by omega))).trans ((b6.mono (by omega)).trans (bL g7 (af7 _) (by omega)))
 .have t1:jd 168 w3 wq:=λk cs fz e=>au b4 e
  have t2:jd 168 wq w4:=acM g4 hqb (by decide)
  have t3:jd 168 w4 we:=λk cs fz e=>au be e
  have t4:jd 168 we w6:=λk cs fz e=>aah e (hw hcv) hgr (by decide)
  have t5:jd 168 w6 w7:=acM g7 hk6 (by decide)
  exact λk cs fz e=>t5 _ _ _ (t4 _ _ _ (t3 _ _ _ (t2 _ _ _ (t1 _ _ _ e))))
theorem ale{w:World}{b:Nat}{g:Grp}(h:GpC w b vl vr g 0 0 false)(h2:GpC w b vl' vr' g 0 0 false):vl=vl'/\vr=vr':=by
 unfold GpC at h h2
 rw[h]at h2
 simp at h2
 exact h2
def slN:Value->Nat
 | .slice _ n _=>n
 |_=>0
theorem acP{w:World}(h:abg w v []):∃a c,v=.slice a 0 c:=by
 obtain⟨a,c,rfl,-⟩:=h
 exact⟨a,c,rfl⟩
theorem adw{W:World}{bp bq:Nat}{vp vq:Value}(hp:mg bp W vp p)(hq:mg bq W vq q)(hfp:bC len lp p=true)(hfq:bC len lq q=true)(hn:p.length+q.length<=1000):
    Calls Tryz.prog 122 #[vp,vq] W (alN W p q):=by
 have HF:∀f,Fence.wide.fn f:=λ_=>trivial
 have HI0:aA (alC W len p q p q [] vp vq (.slice none 0 0) W):=ak ⟨λw2 hw=>mg.row (hp.below hw),λw2 hw=>mg.row (hq.below hw),⟨_,hfp⟩,⟨_,hfq⟩,aP.nil _ _ _ _ _,af7 _,.inl ⟨rfl,rfl⟩,af6 _ _,by simpa using hn⟩
 have HPQ:=ak hn
 clear hp hq hfp hfq hn
 go_enter Tryz.func122,Tryz.ntmps122
 go_wp2_with fail
 go_loopw [0,1,5] (λpv qv gv wr=>∃p' q' X,alC W len p q p' q' X pv qv gv wr) (λpv qv _ _=>slN pv+slN qv)
 case atStart=>exact⟨p,q,[],HI0.o⟩
 case round=>
  clear HI0
  obtain⟨p',q',X,hI⟩:=hrel
  obtain⟨g9,c9,hgv⟩:=hI.pts.len
  obtain⟨xn,hxn⟩:=ay (X.length)
  rw[agM,hxn]at hgv
  subst hgv
  have HI:=ak hI;have HXN:=ak hxn
  have hrp:=hI.rp wr hI.Dx
  have hrq:=hI.rq wr hI.Dx
  obtain⟨⟨lp',hfp⟩,⟨lq',hfq⟩⟩:=And.intro hI.fp hI.fq
  clear hI hxn
  by_cases hend:p'=[]/\q'=[]
  .obtain⟨rfl,rfl⟩:=hend
   obtain⟨a1,c1,rfl⟩:=acP hrp
   obtain⟨a2,c2,rfl⟩:=acP hrq
   clear hrp hrq hfp hfq
   have HR:aA (alN W p q (.returned (.slice g9 xn c9)) wr):=ak ⟨_,X,rfl,HI.o.pts,HI.o.gs,by
    rcases HI.o.flow with⟨rfl,h⟩|⟨X0,x,rfl,h⟩
    .rw[h];rfl
    .rw[h,abh rfl,ag2];rfl,HI.o.Dx,by have:=HI.o.num;omega⟩
   go_wp2_with fail
   exact af_ (v:=.slice g9 xn c9) (by simp[results,Tryz.results122,go_sem]) rfl HR.o
  have hnx:∃b c p'' q'',nx p' q'=some (b,c,p'',q''):=by
   cases h:nx p' q' with
   |none=>exact absurd (acg h) hend
   |some x=>obtain⟨b,c,p'',q''⟩:=x;exact⟨b,c,p'',q'',rfl⟩
  have U6:=ak hrp;have HRQ:=ak hrq;have HFP:=ak hfp;have HFQ:=ak hfq;have dR:=ak hend;have kH:=ak hnx
  obtain⟨a1,c1,hpv⟩:∃a c,u0=.slice a p'.length c:=by obtain⟨a,c,h,-⟩:=hrp;exact⟨a,c,h⟩
  obtain⟨a2,c2,hqv⟩:∃a c,u1=.slice a q'.length c:=by obtain⟨a,c,h,-⟩:=hrq;exact⟨a,c,h⟩
  obtain⟨n1,hn1⟩:=ay (p'.length)
  obtain⟨n2,hn2⟩:=ay (q'.length)
  rw[hn1]at hpv
  rw[hn2]at hqv
  subst hpv hqv
  have HN:=ak (And.intro hn1 hn2)
  have hpos:0<n1\/0<n2:=by
   rcases agP n1 with h|h
   .rcases agP n2 with h2|h2
    .exact absurd ⟨ahw (by omega),ahw (by omega)⟩ hend
    .exact .inr h2
   .exact .inl h
  have al_:=ak hpos
  clear hrp hrq hfp hfq hend hnx hn1 hn2 hpos
  go_upto_region 2 with(fail)
  go_cut [16] from 9 to 115 (λtv w=>tv=.bool true/\w=wr)
  case first=>
   by_cases h1:0<n1
   .have g1:(n1:Int)>0:=by omega
    clear h1
    go_wp2_with fail
    go_meet
    case rel=>exact⟨rfl,rfl⟩
   .obtain rfl:n1=0:=by omega
    have g2:(n2:Int)>0:=by have:=al_.o;omega
    clear h1
    go_wp2_with fail
    go_meet
    case rel=>exact⟨by have:=al_.o;simp;omega,rfl⟩
  obtain⟨rfl,rfl⟩:=hcut
  go_wp2_with fail
  go_upto_region 3 with(fail)
  obtain⟨w0,rfl⟩:∃w,w=wc:=⟨_,rfl⟩
  go_cut [6] from 9 to 115 (λlv w=>∃b c p'' q'',nx p' q'=some (b,c,p'',q'')/\lv=.bool b/\Below w0.heap.size w0 w)
  case first=>
   refine dD (S:=Below w0.heap.size w0) ((af6 _ _).drew) λwq S0=>?_
   rcases q' with _|⟨d,q2⟩
   .obtain rfl:n2=0:=by have:=HN.o.2;simpa using this.symm
    obtain⟨a,p2,rfl⟩:∃a p2,p'=a::p2:=by
     cases p' with
     |nil=>exact absurd ⟨rfl,rfl⟩ dR.o
     |cons a p2=>exact⟨a,p2,rfl⟩
    refine tk4 0 1 2 3 ?_
    refine aJ.sk 4 ?_
    refine aJ.sk 5 ?_
    refine aJ.sk 6 ?_
    refine aJ.sk 7 ?_
    refine aJ.sk 8 ?_
    refine aJ.sk 9 ?_
    refine aJ.sk 10 ?_
    refine aJ.sk 11 ?_
    refine aJ.sk 12 ?_
    refine aJ.sk 13 ?_
    refine aJ.sk 14 ?_
    refine aJ.sk 15 ?_
    refine aJ.sk 16 ?_
    refine aJ.sk 17 ?_
    refine tk2 18 19 ?_
    refine aO ?_
    go_wp2_with fail
    go_meet
    case rel=>exact⟨true,a,p2,[],rfl,rfl,S0⟩
   .have hn2:0<n2:=by have:=HN.o.2;simp at this;omega
    have e1:((n2:Int)==0)=false:=agh.2 (by omega)
    clear hn2
    rcases p' with _|⟨a,p2⟩
    .obtain rfl:n1=0:=by have:=HN.o.1;simpa using this.symm
     refine bJ 0 1 2 3 4 5 ?_
     refine tk2 6 7 ?_
     refine aJ.sk 8 ?_
     refine aJ.sk 9 ?_
     refine aJ.sk 10 ?_
     refine aJ.sk 11 ?_
     refine aJ.sk 12 ?_
     refine aJ.sk 13 ?_
     refine aJ.sk 14 ?_
     refine aJ.sk 15 ?_
     refine aJ.sk 16 ?_
     refine tk3 17 18 19 ?_
     refine aO ?_
     go_wp2_with fail
     go_meet
     case rel=>exact⟨false,d,[],q2,rfl,rfl,S0⟩
    .have hn1:0<n1:=by have:=HN.o.1;simp at this;omega
     have e2:decide ((n1:Int)>0)=true:=agw (by omega)
     have e3:decide (0<n1)=true:=agw hn1
     obtain⟨b1,k1,hv1,-⟩:=U6.o.head
     obtain⟨b2,k2,hv2,-⟩:=HRQ.o.head
     simp only[agn]at hv1 hv2
     obtain⟨rfl,-,-⟩:=hv1
     obtain⟨rfl,-,-⟩:=hv2
     have m1:∀w,Below w0.heap.size w0 w->w.cell? b1=some (.int .i64 a.pos):=λw hw=>(HI.o.rp w (HI.o.Dx.trans (hw.mono HI.o.Dx.size))).hd.1
     have m2:∀w,Below w0.heap.size w0 w->w.cell? b2=some (.int .i64 d.pos):=λw hw=>(HI.o.rq w (HI.o.Dx.trans (hw.mono HI.o.Dx.size))).hd.1
     have hn1i:(0:Int)<(n1:Int):=by omega
     have hn2:0<n2:=by have:=HN.o.2;simp at this;omega
     have hn2i:(0:Int)<(n2:Int):=by have:=HN.o.2;simp at this;omega
     by_cases hle:a.pos<=d.pos
     .have e4:decide (a.pos<=d.pos)=true:=agw hle
      have uT:=ak hle
      clear hle
      refine bJ 0 1 2 3 4 5 ?_
      refine bJ 6 7 8 9 10 11 ?_
      refine bJ 12 13 14 15 16 17 ?_
      refine tk2 18 19 ?_
      refine aO ?_
      go_wp2_with fail
      go_meet
      case rel=>exact⟨true,a,p2,d::q2,by show(if a.pos<=d.pos then _ else _)=_;rw[af5 uT.o],rfl,S0⟩
     .have e4:decide (a.pos<=d.pos)=false:=agD hle
      have uT:=ak hle
      clear hle
      refine bJ 0 1 2 3 4 5 ?_
      refine bJ 6 7 8 9 10 11 ?_
      refine bJ 12 13 14 15 16 17 ?_
      refine tk2 18 19 ?_
      refine aO ?_
      go_wp2_with fail
      go_meet
      case rel=>exact⟨false,d,a::p2,q2,by show(if a.pos<=d.pos then _ else _)=_;rw[af4 (by have:=uT.o;omega)],rfl,S0⟩
  obtain⟨b,c,p'',q'',hnx,rfl,hbw⟩:=hcut
  obtain⟨gc,hgc⟩:=ay (wc.heap.size)
  obtain⟨wz,hz⟩:=ay (wc.alloc (.cells #[.int .i64 0,.int .i64 0,.int .i64 0] 107))
  have kz:IG wz gc ⟨0,0,0⟩:=by rw[<-hz,<-hgc];exact aD _ _
  have bz:Below wc.heap.size wc wz:=by rw[<-hz];exact(af6 _ _).alloc (af7 _) _
  have ac8:=ak hnx;have vk:=ak hbw;have W9:=ak kz;have HBZ:=ak bz;have Jc:=ak hgc
  clear hnx hbw kz bz
  go_upto_if 36 with(fail)
  try rw[hgc]
  clear hz hgc
  obtain⟨w1,rfl⟩:∃w,w=wc:=⟨_,rfl⟩
  go_cut [0,1] from 9 to 115 (λpv2 qv2 w=>(∀w2,Below W.heap.size W w2->abg w2 pv2 p'')/\(∀w2,Below W.heap.size W w2->abg w2 qv2 q'')/\IG w gc c/\Below w0.heap.size w0 w)
  case first=>
   have HBX:aA (∀w,Below w1.heap.size w1 w->Below W.heap.size W w):=ak λw hw=>(HI.o.Dx.trans (vk.o.mono HI.o.Dx.size)).trans (hw.mono (af9 HI.o.Dx.size vk.o.size))
   obtain⟨wq,hwq⟩:=ay (wz.drew)
   have bq':Below wz.heap.size wz wq:=by rw[<-hwq];exact(af6 _ _).drew
   have S0:Below w1.heap.size w1 wq:=Below.after HBZ.o bq'
   have kq:IG wq gc ⟨0,0,0⟩:=au bq' W9.o
   clear bq'
   cases b with
   |true=>
    obtain⟨rfl,rfl⟩:p'=c::p''/\q''=q':=by
     rcases aaO ac8.o with⟨-,h1,h2,-⟩|⟨h,-⟩
     .exact⟨h1,h2⟩
     .cases h
    obtain⟨b1,k1,hv1,hk1,hk2,-⟩:=U6.o.head
    simp only[agn]at hv1
    obtain⟨rfl,hn1,rfl⟩:=hv1
    have m0:∀w,Below w1.heap.size w1 w->w.cell? b1=some (.int .i64 c.pos):=λw hw=>(HI.o.rp w (HBX.o w hw)).hd.1
    have m1:∀w,Below w1.heap.size w1 w->w.cell? ⟨b1.block,b1.off+1,none⟩=some (.int .i64 c.n):=λw hw=>(HI.o.rp w (HBX.o w hw)).hd.2.1
    have m2:∀w,Below w1.heap.size w1 w->w.cell? ⟨b1.block,b1.off+2,none⟩=some (.int .i64 c.id):=λw hw=>(HI.o.rp w (HBX.o w hw)).hd.2.2
    have hp:0<n1:=by omega
    have hpi:(0:Int)<(n1:Int):=by omega
    obtain⟨A',c',hsl,hrow⟩:=afO (some b1) c1 (x:=c) (l:=p'') hk1
    rw[<-hn1]at hsl hrow
    have WL:aA (∀w,Below W.heap.size W w->abg w (.slice A' p''.length c') p''):=ak λw hw=>hrow w (HI.o.rp w hw)
    obtain⟨q0,q1,q2⟩:=kq.cells
    have r0:=kq.free 0;have r1:=kq.free 1;have r2:=kq.free 2
    obtain⟨w3,hw3⟩:=ay (((wq.setCell ⟨gc,0,none⟩ (.int .i64 c.pos)).setCell ⟨gc,1,none⟩ (.int .i64 c.n)).setCell ⟨gc,2,none⟩ (.int .i64 c.id))
    have qH:aA (IG w3 gc c):=ak (by rw[<-hw3];exact aC _ (aC _ (aC _ kq)))
    have abW:w1.heap.size<=gc:=by rw[Jc.o];exact af7 _
    have S3:Below w1.heap.size w1 w3:=by rw[<-hw3];exact((S0.setCell (p:=⟨gc,0,none⟩) abW _).setCell (p:=⟨gc,1,none⟩) abW _).setCell (p:=⟨gc,2,none⟩) abW _
    obtain⟨ln,hln⟩:=ay (p''.length)
    rw[hln]at hsl WL
    clear hrow kq hk1 hk2 hn1 abW hln
    go_wp2_with fail
    refine aU (Below w1.heap.size w1) ?_
    try rw[hwq]
    clear hwq
    refine zD 0 1 2 3 4 ?_
    refine aT 5 λK hK=>?_
    go_simp
    refine hK _ _ S3 ?_
    clear hK K
    refine tk1 6 ?_
    refine aO ?_
    clear m0 m1 m2 hsl q0 q1 q2 r0 r1 r2
    go_wp2_with fail
    go_meet
    case rel=>exact⟨WL.o,λw hw=>HI.o.rq w hw,qH.o,vk.o.trans (S3.mono vk.o.size)⟩
   |false=>
    obtain⟨rfl,rfl⟩:q'=c::q''/\p''=p':=by
     rcases aaO ac8.o with⟨h,-⟩|⟨-,h1,h2,-⟩
     .cases h
     .exact⟨h1,h2⟩
    obtain⟨b2,k1,hv1,hk1,hk2,-⟩:=HRQ.o.head
    simp only[agn]at hv1
    obtain⟨rfl,hn1,rfl⟩:=hv1
    have m0:∀w,Below w1.heap.size w1 w->w.cell? b2=some (.int .i64 c.pos):=λw hw=>(HI.o.rq w (HBX.o w hw)).hd.1
    have m1:∀w,Below w1.heap.size w1 w->w.cell? ⟨b2.block,b2.off+1,none⟩=some (.int .i64 c.n):=λw hw=>(HI.o.rq w (HBX.o w hw)).hd.2.1
    have m2:∀w,Below w1.heap.size w1 w->w.cell? ⟨b2.block,b2.off+2,none⟩=some (.int .i64 c.id):=λw hw=>(HI.o.rq w (HBX.o w hw)).hd.2.2
    have hp:0<n2:=by omega
    have hpi:(0:Int)<(n2:Int):=by omega
    obtain⟨A',c',hsl,hrow⟩:=afO (some b2) c2 (x:=c) (l:=q'') hk1
    rw[<-hn1]at hsl hrow
    have WL:aA (∀w,Below W.heap.size W w->abg w (.slice A' q''.length c') q''):=ak λw hw=>hrow w (HI.o.rq w hw)
    obtain⟨q0,q1,q2⟩:=kq.cells
    have r0:=kq.free 0;have r1:=kq.free 1;have r2:=kq.free 2
    obtain⟨w3,hw3⟩:=ay (((wq.setCell ⟨gc,0,none⟩ (.int .i64 c.pos)).setCell ⟨gc,1,none⟩ (.int .i64 c.n)).setCell ⟨gc,2,none⟩ (.int .i64 c.id))
    have qH:aA (IG w3 gc c):=ak (by rw[<-hw3];exact aC _ (aC _ (aC _ kq)))
    have abW:w1.heap.size<=gc:=by rw[Jc.o];exact af7 _
    have S3:Below w1.heap.size w1 w3:=by rw[<-hw3];exact((S0.setCell (p:=⟨gc,0,none⟩) abW _).setCell (p:=⟨gc,1,none⟩) abW _).setCell (p:=⟨gc,2,none⟩) abW _
    obtain⟨ln,hln⟩:=ay (q''.length)
    rw[hln]at hsl WL
    clear hrow kq hk1 hk2 hn1 abW hln
    go_wp2_with fail
    refine aU (Below w1.heap.size w1) ?_
    try rw[hwq]
    clear hwq
    refine zD 0 1 2 3 4 ?_
    refine aT 5 λK hK=>?_
    go_simp
    refine hK _ _ S3 ?_
    clear hK K
    refine tk1 6 ?_
    refine aO ?_
    clear m0 m1 m2 hsl q0 q1 q2 r0 r1 r2
    go_wp2_with fail
    go_meet
    case rel=>exact⟨λw hw=>HI.o.rp w hw,WL.o,qH.o,vk.o.trans (S3.mono vk.o.size)⟩
  obtain⟨ama,amb,hkc,hbc⟩:=hcut
  have amc:=ak ama;have amd:=ak amb;have HKC:=ak hkc;have um:=ak hbc
  have HI2:aA (Pts W.heap.size wc (.slice g9 xn c9) (X.map (·.1))/\aaG wc W.heap.size w0.heap.size X/\Below W.heap.size W wc/\w0.heap.size<=gc):=ak ⟨HI.o.pts.below hbc,HI.o.gs.keep (abm.of hbc),HI.o.Dx.trans (hbc.mono HI.o.Dx.size),by rw[<-Jc.o];exact vk.o.size⟩
  obtain⟨p0,p1,-⟩:=hkc.cells
  clear ama amb hkc hbc HBZ W9 U6 HRQ
  go_wp2_with fail
  go_upto_region 8 with(fail)
  obtain⟨w1,rfl⟩:∃w,w=wc:=⟨_,rfl⟩
  go_cut [63] from 9 to 115 (λtv w=>∃op,tv=.bool op/\((op=true/\(X=[]\/∃X0 x,X=X0++[x]/\x.2.en<c.pos))\/(op=false/\∃X0 x,X=X0++[x]/\c.pos<=x.2.en))/\Below w1.heap.size w1 w)
  case first=>
   have y0:∀w,Below w1.heap.size w1 w->w.cell? ⟨gc,0,none⟩=some (.int .i64 c.pos):=λw hw=>(IG.cells (show IG w gc c from au hw HKC.o)).1
   refine dD (S:=Below w1.heap.size w1) ((af6 _ _).drew) λwq S0=>?_
   rcases agR X with hX|⟨X0,x,hX⟩
   .obtain rfl:xn=0:=by rw[<-HXN.o,hX];rfl
    have HX:=ak hX
    clear hX
    refine tk4 0 1 2 3 ?_
    refine aJ.sk 4 ?_
    refine aJ.sk 5 ?_
    refine aJ.sk 6 ?_
    refine aJ.sk 7 ?_
    refine aJ.sk 8 ?_
    refine aJ.sk 9 ?_
    refine aJ.sk 10 ?_
    refine aJ.sk 11 ?_
    refine aJ.sk 12 ?_
    refine aJ.sk 13 ?_
    refine aJ.sk 14 ?_
    refine aJ.sk 15 ?_
    refine tk1 16 ?_
    refine aO ?_
    go_wp2_with fail
    go_meet
    case rel=>exact⟨true,rfl,.inl ⟨rfl,.inl HX.o⟩,S0⟩
   .rw[agO]at hX
    obtain⟨n,hn⟩:=ay (X0.length)
    obtain rfl:xn=n+1:=by rw[<-HXN.o,hX,af8,hn];rfl
    have e1:(((n+1:Nat):Int)==0)=false:=agh.2 (by omega)
    have hw:IntKind.i64.wrap (((n+1:Nat):Int)-1)=(n:Int):=by rw[agd];have:=HI.o.num;have:=HXN.o;omega
    have hw2:IntKind.i64.wrap (n:Int)=(n:Int):=by rw[agd];have:=HI.o.num;have:=HXN.o;omega
    have hnn:(n:Int)<((n+1:Nat):Int):=by omega
    have hnn2:(n:Int)<(n:Int)+1:=by omega
    have hn0:(0:Int)<=(n:Int):=by omega
    have hnl:n<(X.map (·.1)).length:=by rw[agM,HXN.o];omega
    have hxe:(X.map (·.1))[n]'hnl=x.1:=by subst hX;simp[<-hn]
    obtain⟨g2,k2,hv,-⟩:=abN HI2.o.1 hnl
    simp only[agn]at hv
    obtain⟨rfl,-,rfl⟩:=hv
    have z0:∀w,Below w1.heap.size w1 w->w.cell? ⟨g2,n,none⟩=some (.pointer (some ⟨x.1,0,none⟩)):=λw hw=>by
     obtain⟨g3,k3,hv,hc⟩:=abN (aP.below HI2.o.1 hw) hnl
     simp only[agn]at hv
     obtain⟨hv,-,-⟩:=hv
     cases hv
     rw[<-hxe];exact hc
    have z1:∀w,Below w1.heap.size w1 w->w.cell? ⟨x.1,3,none⟩=some (.int .i64 x.2.en):=λw hw=>by
     have hg:=HI2.o.2.1
     rw[hX]at hg
     obtain⟨vl,vr,h1,-⟩:=hg.last.2
     exact(GpC.cells (show GpC w x.1 vl vr x.2 0 0 false from au hw h1)).2.2.2.1
    have HX:=ak hX
    clear hX hxe hnl hn
    by_cases hgt:x.2.en<c.pos
    .have e2:decide (c.pos>x.2.en)=true:=agw hgt
     have e3:decide (x.2.en<c.pos)=true:=agw hgt
     have HGT:=ak hgt
     clear hgt
     refine bJ 0 1 2 3 4 5 ?_
     refine bJ 6 7 8 9 10 11 ?_
     refine zD 12 13 14 15 16 ?_
     refine aO ?_
     go_wp2_with fail
     go_meet
     case rel=>exact⟨true,rfl,.inl ⟨rfl,.inr ⟨X0,x,HX.o,HGT.o⟩⟩,S0⟩
    .have e2:decide (c.pos>x.2.en)=false:=agD hgt
     have e3:decide (x.2.en<c.pos)=false:=agD hgt
     have HGT:aA (c.pos<=x.2.en):=ak (by omega)
     clear hgt
     refine bJ 0 1 2 3 4 5 ?_
     refine bJ 6 7 8 9 10 11 ?_
     refine zD 12 13 14 15 16 ?_
     refine aO ?_
     go_wp2_with fail
     go_meet
     case rel=>exact⟨false,rfl,.inr ⟨rfl,X0,x,HX.o,HGT.o⟩,S0⟩
  obtain⟨op,rfl,hop,hbq⟩:=hcut
  have HOP:=ak hop;have HBQ:=ak hbq
  have hkc:=au hbq HKC.o
  have alO:aA (IG wc gc c):=ak hkc
  obtain⟨p0,p1,-⟩:=IG.cells (show IG wc gc c from hkc)
  have hfc:=(afd ac8.o HFP.o HFQ.o)
  clear hop hbq hkc
  obtain⟨w2,rfl⟩:∃w,w=wc:=⟨_,rfl⟩
  go_upto_if 63 with(fail)
  go_cut [5] from 9 to 115 (λgv w=>∃X0 gb gg,Pts W.heap.size w gv ((X0++[(gb,gg)]).map (·.1))/\aaG w W.heap.size w.heap.size (X0++[(gb,gg)])/\aae p q=X0.map (·.2)++grow (p''.length+q''.length) (gg.add b c) p'' q''/\IG w gc c/\(∀vl vr,GpC w gb vl vr gg 0 0 false->vl.ownBlock≠some gc/\vr.ownBlock≠some gc)/\Below W.heap.size W w/\X0.length+1+p''.length+q''.length<=1000)
  case first=>
   cases op with
   |true=>
    have hop:X=[]\/∃X0 x,X=X0++[x]/\x.2.en<c.pos:=by
     rcases HOP.o with⟨-,h⟩|⟨h,-⟩
     .exact h
     .cases h
    have HFL:=ak (alb ac8.o HI.o.flow hop)
    obtain⟨gb,hgb⟩:=ay (w2.heap.size)
    obtain⟨wb,hwb⟩:=ay (w2.alloc (.cells #[.slice none 0 0,.slice none 0 0,.int .i64 c.pos,.int .i64 (c.pos+c.n),.int .i64 0,.int .i64 0,.bool false] 170))
    have kb:GpC wb gb (.slice none 0 0) (.slice none 0 0) ⟨[],[],c.pos,c.pos+c.n⟩ 0 0 false:=by rw[<-hwb,<-hgb];exact aD _ _
    have bb:Below w2.heap.size w2 wb:=by rw[<-hwb];exact(af6 _ _).alloc (af7 _) _
    have P5:=ak kb;have HBB:=ak bb
    have ZR:aA (Pts W.heap.size wb (.slice g9 xn c9) (X.map (·.1))):=ak (aP.below (aP.below HI2.o.1 HBQ.o) bb)
    have G5:aA (w1.heap.size<=gb):=ak (by rw[<-hgb];exact HBQ.o.size)
    have hws:IntKind.i64.wrap (c.pos+c.n)=c.pos+c.n:=by rw[agd];have:=hfc.1;have:=hfc.2.1;have:=hfc.2.2.1;omega
    have hbase:W.heap.size<=wb.heap.size:=by have:=HI2.o.2.2.1.size;have:=HBQ.o.size;have:=bb.size;omega
    clear hop kb bb hfc
    go_wp2_with (first
     | (at_builtin;refine bP (v:=.slice g9 xn c9) ala abY rfl _ _ rfl rfl ZR.o gb rfl rfl ?c1 ?c2 hbase ?_))
    case c1=>simp[acJ,Value.oneCell']
    case c2=>have:=HI.o.num;simp;omega
    intro v5 w5 hS5 hg5 hb5
    have HR:aA (Pts W.heap.size w5 v5 ((X++[(gb,(⟨[],[],c.pos,c.pos+c.n⟩:Grp))]).map (·.1))/\aaG w5 W.heap.size w5.heap.size (X++[(gb,(⟨[],[],c.pos,c.pos+c.n⟩:Grp))])/\aae p q=X.map (·.2)++grow (p''.length+q''.length) ((⟨[],[],c.pos,c.pos+c.n⟩:Grp).add b c) p'' q''/\IG w5 gc c/\(∀vl vr,GpC w5 gb vl vr ⟨[],[],c.pos,c.pos+c.n⟩ 0 0 false->vl.ownBlock≠some gc/\vr.ownBlock≠some gc)/\Below W.heap.size W w5/\X.length+1+p''.length+q''.length<=1000):=ak (by
     have k5:GpC w5 gb (.slice none 0 0) (.slice none 0 0) ⟨[],[],c.pos,c.pos+c.n⟩ 0 0 false:=aah P5.o ZR.o hg5 (by decide)
     have hg:acf w5 gb w5.heap.size ⟨[],[],c.pos,c.pos+c.n⟩:=⟨_,_,k5,(aga.1 k5).1,aP.nil _ _ _ _ _,aP.nil _ _ _ _ _,(λk h=>by cases h),(λk h=>by cases h)⟩
     have h2:aaG w5 W.heap.size w0.heap.size X:=((HI2.o.2.1.keep (abm.of HBQ.o)).keep (abm.of HBB.o)).keep (abm.app ZR.o hg5 (by decide) (by decide))
     refine⟨by rw[ag2];exact hS5,aaG.snoc hg h2 (by have:=G5.o;have:=um.o.size;omega),by rw[alD];exact HFL.o,aah (au HBB.o alO.o) ZR.o hg5 (by decide),λvl vr h=>by obtain⟨rfl,rfl⟩:=ale k5 h;exact⟨(λq=>by cases q),(λq=>by cases q)⟩,?_,?_⟩
     .exact((HI2.o.2.2.1.trans (HBQ.o.mono HI2.o.2.2.1.size)).trans (HBB.o.mono (by have:=HI2.o.2.2.1.size;have:=HBQ.o.size;omega))).trans hb5
     .have:=HI.o.num;have:=abC ac8.o;omega)
    clear hS5 hg5 hb5 hbase hgb hwb hws
    go_wp2_with fail
    go_meet
    case rel=>exact⟨X,gb,_,HR.o⟩
   |false=>
    obtain⟨X0,x,hX,hle⟩:∃X0 x,X=X0++[x]/\c.pos<=x.2.en:=by
     rcases HOP.o with⟨h,-⟩|⟨-,h⟩
     .cases h
     .exact h
    subst hX
    have HR:aA (Pts W.heap.size w2 (.slice g9 xn c9) ((X0++[(x.1,x.2)]).map (·.1))/\aaG w2 W.heap.size w2.heap.size (X0++[(x.1,x.2)])/\aae p q=X0.map (·.2)++grow (p''.length+q''.length) (x.2.add b c) p'' q''/\IG w2 gc c/\(∀vl vr,GpC w2 x.1 vl vr x.2 0 0 false->vl.ownBlock≠some gc/\vr.ownBlock≠some gc)/\Below W.heap.size W w2/\X0.length+1+p''.length+q''.length<=1000):=ak
     ⟨aP.below HI2.o.1 HBQ.o,(HI2.o.2.1.keep (abm.of HBQ.o)).mono (by have:=um.o.size;have:=HBQ.o.size;omega),alc ac8.o HI.o.flow hle,alO.o,(λvl vr h=>by
      have hg2:=HI2.o.2.1
      obtain⟨vl',vr',h1,-,-,-,h2,h3⟩:=hg2.last.2
      obtain⟨rfl,rfl⟩:=ale (show GpC w2 x.1 vl' vr' x.2 0 0 false from au HBQ.o h1) h
      have:=HI2.o.2.2.2
      exact⟨λq=>by have:=(h2 _ q).1;omega,λq=>by have:=h3 _ q;omega⟩),HI2.o.2.2.1.trans (HBQ.o.mono HI2.o.2.2.1.size),by have e1:=HI.o.num;have e2:=abC ac8.o;rw[af8]at e1;simp at e1;omega⟩
    clear hle hfc
    go_wp2_with fail
    go_meet
    case rel=>exact⟨X0,x.1,x.2,HR.o⟩
  obtain⟨X0,gb,gg,abo,hgs,hfl,hkc,hne,hbx,ame⟩:=hcut
  obtain⟨w3,rfl⟩:∃w,w=wc:=⟨_,rfl⟩
  obtain⟨n,hn⟩:=ay (X0.length)
  have hlen:((X0++[(gb,gg)]).map (·.1)).length=n+1:=by simp[hn]
  have hnl:n<((X0++[(gb,gg)]).map (·.1)).length:=by omega
  have hxe:((X0++[(gb,gg)]).map (·.1))[n]'hnl=gb:=by simp[<-hn]
  obtain⟨g5,c5,hv5,z0⟩:=abN abo hnl
  rw[hxe]at z0
  rw[hlen]at hv5
  subst hv5
  obtain⟨hgs0,vl,vr,kg,hlt,hcl,hcr,ho1,ho2⟩:=hgs.last
  have xu:=ak (hne vl vr kg)
  clear hne
  have hw1:IntKind.i64.wrap (((n+1:Nat):Int)-1)=(n:Int):=by rw[agd];omega
  have hw2:IntKind.i64.wrap (n:Int)=(n:Int):=by rw[agd];omega
  have hnn:(n:Int)<((n+1:Nat):Int):=by omega
  have hnn2:(n:Int)<(n:Int)+1:=by omega
  have hws:IntKind.i64.wrap (c.pos+c.n)=c.pos+c.n:=by rw[agd];have:=hfc.1;have:=hfc.2.1;have:=hfc.2.2.1;omega
  have HFC:=ak hfc
  have HS:=ak (And.intro abo (And.intro hgs0 (And.intro kg (And.intro hlt (And.intro hcl (And.intro hcr (And.intro ho1 (And.intro ho2 (And.intro hfl (And.intro hkc (And.intro hbx (And.intro ame hn))))))))))))
  clear abo hgs hgs0 kg hlt hcl hcr ho1 ho2 hfl hkc hbx ame hn hlen hnl hxe hfc HOP HBQ HKC alO um HI2 p0 p1
  go_wp2_with fail
  clear z0 hw1 hw2 hnn hnn2
  have z3:∀w,Below w3.heap.size w3 w->w.cell? ⟨gb,3,none⟩=some (.int .i64 gg.en):=λw hw=>(GpC.cells (show GpC w gb vl vr gg 0 0 false from au hw HS.o.2.2.1)).2.2.2.1
  have y0:∀w,Below w3.heap.size w3 w->w.cell? ⟨gc,0,none⟩=some (.int .i64 c.pos):=λw hw=>(IG.cells (show IG w gc c from au hw HS.o.2.2.2.2.2.2.2.2.2.1)).1
  have y1:∀w,Below w3.heap.size w3 w->w.cell? ⟨gc,1,none⟩=some (.int .i64 c.n):=λw hw=>(IG.cells (show IG w gc c from au hw HS.o.2.2.2.2.2.2.2.2.2.1)).2.1
  refine dD (S:=Below w3.heap.size w3) ((af6 _ _).drew) λwq S0=>?_
  have hmx:(if gg.en<c.pos+c.n then c.pos+c.n else gg.en)=max gg.en (c.pos+c.n):=by split<;>omega
  refine bJ 0 1 2 3 4 5 ?_
  refine bJ 6 7 8 9 10 11 ?_
  refine tk1 12 ?_
  refine aJ.cK 13 (by kernel_rfl) ?_
  simp only[agr,agj]
  have kq:GpC wq gb vl vr gg 0 0 false:=au S0 HS.o.2.2.1
  obtain⟨-,-,-,x3,-,-,-,xf⟩:=kq.cells
  have xf3:=xf 3
  obtain⟨w4,hw4⟩:=ay (wq.setCell ⟨gb,3,none⟩ (.int .i64 (max gg.en (c.pos+c.n))))
  have k4:GpC w4 gb vl vr ⟨gg.l,gg.r,gg.pos,max gg.en (c.pos+c.n)⟩ 0 0 false:=by rw[<-hw4];exact aC _ kq
  have uF:=ak k4
  have xZ:aA (wq.grownBy w4 (some gb)):=ak (by rw[<-hw4];exact aK _ _ _)
  have cB:=ak S0
  clear z3 y0 y1 xf k4 kq S0
  obtain⟨g4,hg4⟩:∃g:Grp,⟨gg.l,gg.r,gg.pos,max gg.en (c.pos+c.n)⟩=g:=⟨_,rfl⟩
  rw[hg4]at uF
  have HGE:=ak hg4
  have HC4:aA (IG w4 gc c):=ak (aI xZ.o (au cB.o HS.o.2.2.2.2.2.2.2.2.2.1) (λq=>by
   have h1:=au cB.o HS.o.2.2.2.2.2.2.2.2.2.1
   have h2:wq.heap[gb]?=_:=au cB.o HS.o.2.2.1
   rw[q,h2]at h1
   injection h1 with h1;injection h1 with _ h1 _;cases h1))
  have amf:aA (gb<w4.heap.size):=ak (aga.1 uF.o).1
  have H6:aA (gg.l.length<=1000/\gg.r.length<=1000):=ak (by have h:=ald HS.o.2.2.2.2.2.2.2.2.1;have:=HPQ.o;omega)
  have HCW:aA (∀w,Below w4.heap.size w4 w->mg (gb+1) w vl gg.l/\mg (gb+1) w vr gg.r):=ak λw hw=>⟨aP.below (aP.grown (aP.below HS.o.2.2.2.2.1 cB.o) xZ.o (.inr λq=>by have:=(aP.blk HS.o.2.2.2.2.1 q).1;omega)) hw,aP.below (aP.grown (aP.below HS.o.2.2.2.2.2.1 cB.o) xZ.o (.inr λq=>by have:=(aP.blk HS.o.2.2.2.2.2.1 q).1;omega)) hw⟩
  gi_wp2_with fail
  clear hmx x3 xf3 hw4 hws hg4
  cases b with
  |true=>
   go_wp2_with fail
   refine aU (λw=>GpC w gb vl vr g4 0 0 false/\IG w gc c) ?_
   obtain⟨we,bU⟩:=ay (w4.drew)
   have be:Below w4.heap.size w4 we:=by rw[<-bU];exact(af6 _ _).drew
   rw[bU]
   clear bU
   have S0:GpC we gb vl vr g4 0 0 false/\IG we gc c:=⟨au be uF.o,au be HC4.o⟩
   have x0:∀w,(GpC w gb vl vr g4 0 0 false/\IG w gc c)->w.cell? ⟨gb,0,none⟩=some vl:=λw hw=>hw.1.cells.1
   have y0:∀w,(GpC w gb vl vr g4 0 0 false/\IG w gc c)->w.cell? ⟨gc,0,none⟩=some (.int .i64 c.pos):=λw hw=>hw.2.cells.1
   have y1:∀w,(GpC w gb vl vr g4 0 0 false/\IG w gc c)->w.cell? ⟨gc,1,none⟩=some (.int .i64 c.n):=λw hw=>hw.2.cells.2.1
   have y2:∀w,(GpC w gb vl vr g4 0 0 false/\IG w gc c)->w.cell? ⟨gc,2,none⟩=some (.int .i64 c.id):=λw hw=>hw.2.cells.2.2
   have kV:=ak be;have zf:=ak S0
   clear be
   refine bJ 0 1 2 3 4 5 ?_
   refine aT 6 λK hK=>?_
   go_simp
   have qI:GpC (we.alloc (.cells #[.int .i64 c.pos,.int .i64 c.n,.int .i64 c.id] 107)) gb vl vr g4 0 0 false/\IG (we.alloc (.cells #[.int .i64 c.pos,.int .i64 c.n,.int .i64 c.id] 107)) gc c:=⟨au ((af6 _ _).alloc (af7 _) _) zf.o.1,au ((af6 _ _).alloc (af7 _) _) zf.o.2⟩
   refine hK _ _ qI ?_
   clear hK K qI
   have hcw:=(HCW.o we kV.o).1
   obtain⟨v2,w6,hrun,hS2,hgr,hb6,EI⟩:=eB vg iV 62 hcw c 1 (cs:=#[.int .i64 c.pos,.int .i64 c.n,.int .i64 c.id]) rfl (by simp[w_,Value.oneCell']) (by have:=H6.o;omega) (by have:=kV.o.size;have:=amf.o;omega)
   obtain⟨a6,n6,cap6,rfl⟩:∃a m c,v2=.slice a m c:=by obtain⟨a,c,h⟩:=hS2.len;exact⟨_,_,_,h⟩
   have G7:GpC w6 gb vl vr g4 0 0 false/\IG w6 gc c:=⟨aah zf.o.1 hcw hgr (by decide),iZ hgr (au ((af6 _ _).alloc (af7 _) _) zf.o.2) xu.o.1⟩
   have xX:=ak G7;have HS2:=ak hS2;have HGR:=ak hgr;have zH:=ak hb6;have HOO:=ak EI
   clear G7 hS2 hgr hb6 EI hcw
   refine aT 7 λK hK=>?_
   simp[execOp,resolve,invoke,builtin,hrun,Result.andThen,Act.eval,Oper.uponIn]
   have S6:=xX.o
   refine hK _ _ S6 ?_
   clear hK K hrun
   refine tk2 8 9 ?_
   refine aJ.cK 10 (by kernel_rfl) ?_
   simp only[agr,agj]
   have x6:w6.cell? ⟨gb,0,none⟩=some vl:=x0 w6 xX.o
   have f6:w6.frozen? ⟨gb,0,none⟩=false:=(GpC.cells xX.o.1).2.2.2.2.2.2.2 0
   obtain⟨w7,hw7⟩:=ay (w6.setCell ⟨gb,0,none⟩ (.slice a6 n6 cap6))
   have xH:aA (GpC w7 gb (.slice a6 n6 cap6) vr (gg.add true c) 0 0 false):=ak (by have h:=xX.o.1;rw[<-HGE.o]at h;rw[<-hw7];exact aC _ h)
   have Qd:aA (w6.grownBy w7 (some gb)):=ak (by rw[<-hw7];exact aK _ _ _)
   clear x0 y0 y1 y2 S0 S6
   gi_wp2_with fail
   clear x6 f6 hw7
   have R_:aA (alC W len p q p'' q'' (X0++[(gb,gg.add true c)]) u0 u1 (.slice (some ⟨g5,0,none⟩) (n+1) c5) w7):=ak (by
    obtain⟨r1,r2,r3,r4,r5,r6,r7,r8,r9,r10,r11,r12,r13⟩:=HS.o
    obtain⟨n1,n2,n3,n4,n5,n6⟩:=afQ r3 xX.o.1 cB.o xZ.o kV.o HGR.o zH.o Qd.o HS2.o r5 r6 HOO.o (λk q=>(r7 k q).2) r8
    have hg:acf w7 gb w7.heap.size (gg.add true c):=⟨_,_,xH.o,(aga.1 xH.o).1,n1,n2,n3,n4⟩
    have hle:=r2.le
    refine⟨amc.o,amd.o,HFC.o.2.2.2.1,HFC.o.2.2.2.2,?_,aaG.snoc hg (r2.keep (λk _ hk t _ cs fz e=>by rw[n5.block k hk];exact e)) (af7 _),.inr ⟨X0,_,rfl,r9⟩,r11.trans (n5.mono hle),by rw[af8];simp;omega⟩
    have:=aP.keep r1 n6
    rw[ag2]at this⊢
    exact this)
   clear HS2 HGR HOO xX kV zf
   go_wp2_with fail
   go_roundw
   case rel=>exact⟨p'',q'',_,R_.o⟩
   case measure=>
    obtain⟨_,_,h1,-⟩:=R_.o.rp W (af6 _ _)
    obtain⟨_,_,h2,-⟩:=R_.o.rq W (af6 _ _)
    have:=abC ac8.o
    have h3:=HN.o
    rw[h1,h2]
    simp only[slN]
    omega
  |false=>
   go_wp2_with fail
   refine aU (λw=>GpC w gb vl vr g4 0 0 false/\IG w gc c) ?_
   obtain⟨we,bU⟩:=ay (w4.drew)
   have be:Below w4.heap.size w4 we:=by rw[<-bU];exact(af6 _ _).drew
   rw[bU]
   clear bU
   have S0:GpC we gb vl vr g4 0 0 false/\IG we gc c:=⟨au be uF.o,au be HC4.o⟩
   have x0:∀w,(GpC w gb vl vr g4 0 0 false/\IG w gc c)->w.cell? ⟨gb,1,none⟩=some vr:=λw hw=>hw.1.cells.2.1
   have y0:∀w,(GpC w gb vl vr g4 0 0 false/\IG w gc c)->w.cell? ⟨gc,0,none⟩=some (.int .i64 c.pos):=λw hw=>hw.2.cells.1
   have y1:∀w,(GpC w gb vl vr g4 0 0 false/\IG w gc c)->w.cell? ⟨gc,1,none⟩=some (.int .i64 c.n):=λw hw=>hw.2.cells.2.1
   have y2:∀w,(GpC w gb vl vr g4 0 0 false/\IG w gc c)->w.cell? ⟨gc,2,none⟩=some (.int .i64 c.id):=λw hw=>hw.2.cells.2.2
   have kV:=ak be;have zf:=ak S0
   clear be
   refine bJ 0 1 2 3 4 5 ?_
   refine aT 6 λK hK=>?_
   go_simp
   have qI:GpC (we.alloc (.cells #[.int .i64 c.pos,.int .i64 c.n,.int .i64 c.id] 107)) gb vl vr g4 0 0 false/\IG (we.alloc (.cells #[.int .i64 c.pos,.int .i64 c.n,.int .i64 c.id] 107)) gc c:=⟨au ((af6 _ _).alloc (af7 _) _) zf.o.1,au ((af6 _ _).alloc (af7 _) _) zf.o.2⟩
   refine hK _ _ qI ?_
   clear hK K qI
   have hcw:=(HCW.o we kV.o).2
   obtain⟨v2,w6,hrun,hS2,hgr,hb6,EI⟩:=eB vg iV 62 hcw c 1 (cs:=#[.int .i64 c.pos,.int .i64 c.n,.int .i64 c.id]) rfl (by simp[w_,Value.oneCell']) (by have:=H6.o;omega) (by have:=kV.o.size;have:=amf.o;omega)
   obtain⟨a6,n6,cap6,rfl⟩:∃a m c,v2=.slice a m c:=by obtain⟨a,c,h⟩:=hS2.len;exact⟨_,_,_,h⟩
   have G7:GpC w6 gb vl vr g4 0 0 false/\IG w6 gc c:=⟨aah zf.o.1 hcw hgr (by decide),iZ hgr (au ((af6 _ _).alloc (af7 _) _) zf.o.2) xu.o.2⟩
   have xX:=ak G7;have HS2:=ak hS2;have HGR:=ak hgr;have zH:=ak hb6;have HOO:=ak EI
   clear G7 hS2 hgr hb6 EI hcw
   refine aT 7 λK hK=>?_
   simp[execOp,resolve,invoke,builtin,hrun,Result.andThen,Act.eval,Oper.uponIn]
   have S6:=xX.o
   refine hK _ _ S6 ?_
   clear hK K hrun
   refine tk2 8 9 ?_
   refine aJ.cK 10 (by kernel_rfl) ?_
   simp only[agr,agj]
   have x6:w6.cell? ⟨gb,1,none⟩=some vr:=x0 w6 xX.o
   have f6:w6.frozen? ⟨gb,1,none⟩=false:=(GpC.cells xX.o.1).2.2.2.2.2.2.2 1
   obtain⟨w7,hw7⟩:=ay (w6.setCell ⟨gb,1,none⟩ (.slice a6 n6 cap6))
   have xH:aA (GpC w7 gb vl (.slice a6 n6 cap6) (gg.add false c) 0 0 false):=ak (by have h:=xX.o.1;rw[<-HGE.o]at h;rw[<-hw7];exact aC _ h)
   have Qd:aA (w6.grownBy w7 (some gb)):=ak (by rw[<-hw7];exact aK _ _ _)
   clear x0 y0 y1 y2 S0 S6
   gi_wp2_with fail
   clear x6 f6 hw7
   have R_:aA (alC W len p q p'' q'' (X0++[(gb,gg.add false c)]) u0 u1 (.slice (some ⟨g5,0,none⟩) (n+1) c5) w7):=ak (by
    obtain⟨r1,r2,r3,r4,r5,r6,r7,r8,r9,r10,r11,r12,r13⟩:=HS.o
    obtain⟨n1,n2,n3,n4,n5,n6⟩:=afQ r3 xX.o.1 cB.o xZ.o kV.o HGR.o zH.o Qd.o HS2.o r6 r5 HOO.o (λk q e=>(r7 k e).2 q) (λk q=>(r7 k q).1)
    have hg:acf w7 gb w7.heap.size (gg.add false c):=⟨_,_,xH.o,(aga.1 xH.o).1,n2,n1,(λk q=>⟨n4 k q,λe=>(n3 k e).2 q⟩),(λk q=>(n3 k q).1)⟩
    have hle:=r2.le
    refine⟨amc.o,amd.o,HFC.o.2.2.2.1,HFC.o.2.2.2.2,?_,aaG.snoc hg (r2.keep (λk _ hk t _ cs fz e=>by rw[n5.block k hk];exact e)) (af7 _),.inr ⟨X0,_,rfl,r9⟩,r11.trans (n5.mono hle),by rw[af8];simp;omega⟩
    have:=aP.keep r1 n6
    rw[ag2]at this⊢
    exact this)
   clear HS2 HGR HOO xX kV zf
   go_wp2_with fail
   go_roundw
   case rel=>exact⟨p'',q'',_,R_.o⟩
   case measure=>
    obtain⟨_,_,h1,-⟩:=R_.o.rp W (af6 _ _)
    obtain⟨_,_,h2,-⟩:=R_.o.rq W (af6 _ _)
    have:=abC ac8.o
    have h3:=HN.o
    rw[h1,h2]
    simp only[slN]
    omega
end M
end Go.Proofs.YtgbhohfabhilgaaGreatDoor
namespace Go.Proofs.YtgbhohfabhilgaaGreatDoor
open Go.RowKit Go.Lib
namespace M
attribute [local go_sem] Oper.semAt_some
section
variable {n0 B g pa mb kb:Nat} {E:List En} {W:World}
variable{s t:List Nat}{a b i k:Nat}
theorem adx(hwf:iE E)(hb:fT E i t)(ht:t.length<=600):∃L:List Sy,L.length<=26*t.length/\(∀y∈L,(aV y).length<=600)/\∀F:List Sy,(∀y∈L,y∈F)->i=0\/Need F E i:=by
 rcases agP i with h0|h0
 .exact⟨[],by simp,by simp,λ_ _=> .inl h0⟩
 .have hd:(aF E i).depth<=12:=by
   have h1:=(hb.Ig h0).least hwf
   apply ahk
   intro hn
   have h2:=o9 ((aF E i).depth-13) 13
   rw[show 13+((aF E i).depth-13)=(aF E i).depth by omega]at h2
   have h3:(Aw 13).1=610:=by decide
   omega
  obtain⟨L,l1,l2,l3⟩:=VN hwf 12 (hb.Ig h0) hd
  exact⟨L,by omega,λy hy=>af9 (l2 y hy) ht,λF hF=> .inr (l3 F hF)⟩
theorem abH(h:jO n0 W B g pa mb kb E)(hA:fT E a s)(hB:fT E b t)(hs:s.length<=600)(ht:t.length<=600)(hk:26*(s.length+t.length)<=k)(hE:E.length+k<=1048575):
    Calls Tryz.prog 27 #[.pointer (some ⟨mb,0,none⟩),vI a,vI b] W λe w'=>∃E',e=.returned (.tuple #[.bool (decide (s=t)),.nilIface])/\mM n0 B g pa mb kb k E E' W w':=by
 obtain⟨L1,a1,a2,a3⟩:=adx h.wf hA hs
 obtain⟨L2,b1,b2,b3⟩:=adx h.wf hB ht
 obtain⟨K,hm⟩:=h.mem
 have hP:gV n0 B 1048576 g (syms E++(L1++L2)) E W:=h.pst (λy hy=>by simp[hy]) (by rw[af8,af8,bN];omega) (λy hy=>by
  rcases ags.1 hy with q|q
  .exact Uj h.wf.wf y q
  .rcases ags.1 q with q|q
   .have:=a2 y q;omega
   .have:=b2 y q;omega)
 have:=T9 hP hm (a3 _ (λy hy=>by simp[hy])) (by rw[hA.txt];omega) (b3 _ (λy hy=>by simp[hy])) (by rw[hB.txt];omega)
 rw[hA.txt,hB.txt]at this
 refine this.mono ?_
 rintro e w' ⟨E',K',rfl,hg,hm'⟩
 have dW:=WZ hg.st
 rw[af8,af8,bN]at dW
 exact⟨E',rfl,⟨⟨hg.st.st,hg.st.wf,hg.st.kt,K',hm'⟩,hg.ext,by omega,hg.below,.km hg.km⟩⟩
theorem aaZ(h:jO n0 W B g pa mb kb E):Calls Tryz.prog 48 #[.pointer (some ⟨mb,0,none⟩)] W λe w'=>e=.returned (ku pa)/\w'=W:=by
 obtain⟨K,hm⟩:=h.mem
 obtain⟨p0,-⟩:=hm.cells
 clear h hm
 go_enter Tryz.func48,Tryz.ntmps48
 go_wp2_with fail
 refine af_ (v:=ku pa) (by simp[results,Tryz.results48,go_sem]) rfl ⟨rfl,rfl⟩
theorem abt(h:jO n0 W B g pa mb kb E):Calls Tryz.prog 16 #[ku pa] W λe w'=>e=.returned (.pointer (some ⟨B,0,none⟩))/\w'=W:=by
 obtain⟨K,hm⟩:=h.mem
 exact iQ hm.par
theorem abI(h:jO n0 W B g pa mb kb E)(hb:fT E i t)(hE:E.length<=1048576):∃u:Wt,u.len=t.length/\∀w,Below W.heap.size W w->Calls Tryz.prog 36 #[.pointer (some ⟨B,0,none⟩),vI i] w λe w'=>e=.returned (.tuple #[wK u,.nilIface])/\Below w.heap.size w w':=by
 refine⟨(aF E i).w,(hb.len h.wf).2,λw hw=>?_⟩
 exact dS (h.st.below hw) hb.le hE
def EqP(n0 B g pa mb kb k:Nat)(E:List En)(W:World)(s t:List Nat)(e:Ending)(w':World):Prop:=∃E',e=.returned (.tuple #[.bool (decide (s=t)),.nilIface])/\mM n0 B g pa mb kb k E E' W w'
theorem aff(h:jO n0 W B g pa mb kb E)(hA:fT E a s)(hB:fT E b t)(hs:s.length<=600)(ht:t.length<=600)(hk:26*(s.length+t.length)<=k)(hE:E.length+k<=1048575):
    Calls Tryz.prog 159 #[.pointer (some ⟨mb,0,none⟩),.int .i64 a,.int .i64 b] W (EqP n0 B g pa mb kb k E W s t):=by
 have HF:∀f,Fence.wide.fn f:=λ_=>trivial
 by_cases hab:a=b
 .subst hab
  obtain rfl:s=t:=by rw[<-hA.txt,<-hB.txt]
  have HR:aA (EqP n0 B g pa mb kb k E W s s (.returned (.tuple #[.bool true,.nilIface])) W):=ak ⟨E,by simp,(mM.of h (af6 _ _)).mono (agb _)⟩
  clear h hA hB
  go_enter Tryz.func159,Tryz.ntmps159
  go_wp2_with fail
  exact af_ (v:=.tuple #[.bool true,.nilIface]) (by simp[results,Tryz.results159,go_sem]) rfl HR.o
 have g1:¬(a:Int)=(b:Int):=by omega
 have g2:((a:Int)==(b:Int))=false:=agh.2 g1
 have HP:=ak (aaZ h)
 have HS:=ak (abt h)
 obtain⟨u,hu,hwu⟩:=abI h hA (by omega)
 obtain⟨v,hv,hwv⟩:=abI h hB (by omega)
 have HW1:=ak (hwu W (af6 _ _));have HW2:=ak hwv
 have HX:=ak (And.intro h (And.intro hA (And.intro hB (And.intro hs (And.intro ht (And.intro hk (And.intro hE (And.intro hu hv))))))))
 clear h hA hB hwu hwv hu hv hab
 go_enter Tryz.func159,Tryz.ntmps159
 go_wp2_with fail
 refine HP.o.mono ?_;rintro e w' ⟨rfl,hw⟩;rw[hw];clear hw w'
 go_wp2_with fail
 refine HS.o.mono ?_;rintro e w' ⟨rfl,hw⟩;rw[hw];clear hw w'
 go_wp2_with fail
 refine HW1.o.mono ?_
 rintro e w1 ⟨rfl,b1⟩
 obtain⟨wz,w2,hz,hss,k2,b2,⟨q0,q1,q2,q3,q4,q5⟩,r0,r1,r2,r3,r4,r5⟩:=kE w1 u
 have HB2:=ak (Below.after b1 b2);have nY:=ak k2
 have Oz:=ak (aaZ (HX.o.1.below HB2.o));have HS2:=ak (abt (HX.o.1.below HB2.o))
 clear b1 b2 k2
 go_wp2_with fail
 clear hz hss q0 q1 q2 q3 q4 q5 r0 r1 r2 r3 r4 r5
 refine Oz.o.mono ?_;rintro e w' ⟨rfl,hw⟩;rw[hw];clear hw w'
 go_wp2_with fail
 refine HS2.o.mono ?_;rintro e w' ⟨rfl,hw⟩;rw[hw];clear hw w'
 go_wp2_with fail
 refine(HW2.o w2 HB2.o).mono ?_
 rintro e w3 ⟨rfl,b3⟩
 obtain⟨wz,w4,hz,hss,k4,b4,⟨q0,q1,q2,q3,q4,q5⟩,r0,r1,r2,r3,r4,r5⟩:=kE w3 v
 have cB:=ak (Below.after HB2.o (Below.after b3 b4));have x0:=(dz.cells (au (Below.after b3 b4) nY.o)).1
 have y0:=k4.cells.1
 clear b3 b4 k4
 by_cases hlen:u.len=v.len
 rotate_left
 .have HR:aA (EqP n0 B g pa mb kb k E W s t (.returned (.tuple #[.bool false,.nilIface])) w4):=ak ⟨E,by
   obtain⟨-,-,-,-,-,-,-,h1,h2⟩:=HX.o
   rw[agD (λq=>hlen (by rw[h1,h2,q]))],(mM.of HX.o.1 cB.o).mono (agb _)⟩
  have e1:((u.len:Int)==(v.len:Int))=false:=agh.2 (by omega)
  have e2:((u.len:Int) !=(v.len:Int))=true:=by simp;omega
  clear hlen
  go_wp2_with fail
  exact af_ (v:=.tuple #[.bool false,.nilIface]) (by simp[results,Tryz.results159,go_sem]) rfl HR.o
 have uh:aA (Calls Tryz.prog 27 #[.pointer (some ⟨mb,0,none⟩),vI a,vI b] w4 λe w'=>∃E',e=.returned (.tuple #[.bool (decide (s=t)),.nilIface])/\mM n0 B g pa mb kb k E E' w4 w'):=ak (by
  obtain⟨h,hA,hB,hs,ht,hk,hE,-⟩:=HX.o
  exact abH (h.below cB.o) hA hB hs ht hk hE)
 have e1:((u.len:Int)==(v.len:Int))=true:=ahf.2 (by omega)
 have e2:((u.len:Int) !=(v.len:Int))=false:=by simp;omega
 clear hlen
 go_wp2_with fail
 clear hz hss q0 q1 q2 q3 q4 q5 r0 r1 r2 r3 r4 r5 x0 y0
 refine uh.o.mono ?_
 rintro e w5 ⟨E5,rfl,h5⟩
 have HR:aA (EqP n0 B g pa mb kb k E W s t (.returned (.tuple #[.bool (decide (s=t)),.nilIface])) w5):=ak ⟨E5,rfl,((mM.of HX.o.1 cB.o).trans h5).mono (by omega)⟩
 clear h5
 go_wp2_with fail
 exact af_ (v:=.tuple #[.bool (decide (s=t)),.nilIface]) (by simp[results,Tryz.results159,go_sem]) rfl HR.o
theorem acQ{gb:Nat}{vl vr:Value}{gr:Grp}{lt rt:Nat}{cf:Bool}(h:GpC W gb vl vr gr lt rt cf)(hv:∃a c,vl=.slice a gr.l.length c):
    Calls Tryz.prog 79 #[.pointer (some ⟨gb,0,none⟩)] W λe w'=>e=.returned (vI (if gr.l=[]then rt else lt))/\w'=W:=by
 obtain⟨a,c,rfl⟩:=hv
 obtain⟨x0,x1,x2,x3,x4,x5,x6,-⟩:=h.cells
 clear h
 cases hl:gr.l with
 |nil=>
  rw[hl]at x0
  replace x0:W.cell? ⟨gb,0,none⟩=some (.slice a 0 c):=x0
  rw[af5 rfl]
  clear hl
  go_enter Tryz.func79,Tryz.ntmps79
  go_wp2_with fail
  refine af_ (v:=vI rt) (by simp[results,Tryz.results79,go_sem]) rfl ⟨rfl,rfl⟩
 |cons d L=>
  obtain⟨n,hn⟩:=ay (gr.l.length)
  rw[hn]at x0
  have hp:(n:Int)>0:=by rw[hl]at hn;simp at hn;omega
  have hp2:0<n:=by omega
  rw[af4 (by simp)]
  clear hl hn
  go_enter Tryz.func79,Tryz.ntmps79
  go_wp2_with fail
  refine af_ (v:=vI lt) (by simp[results,Tryz.results79,go_sem]) rfl ⟨rfl,rfl⟩
end
end M
end Go.Proofs.YtgbhohfabhilgaaGreatDoor
