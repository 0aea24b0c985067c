import Derived.Test.YtgbhohfabhilgaaGreatDoorPart17
set_option maxRecDepth 100000
set_option maxHeartbeats 8000000
set_option linter.unusedVariables false
set_option linter.unusedSimpArgs false
namespace Go.Proofs.YtgbhohfabhilgaaGreatDoor
section
open Go.RowKit
namespace M
def PcQ(E:List En)(len:Nat)(x:dL):Prop:=x.t<=E.length/\(aF E x.t).even=true/\(x.t≠0->x.f+x.n<=(txt E x.t).length)/\(x.t=0->x.f+x.n<=len)
def Gy(E:List En)(len:Nat)(l:List dL):Prop:=∀y∈l,PcQ E len y
theorem PcQ.part{E:List En}{len:Nat}{x:dL}(h:PcQ E len x)(f n:Nat)(h2:f+n<=x.f+x.n):PcQ E len ⟨x.t,f,n⟩:=
 ⟨h.1,h.2.1,λht=>af9 h2 (h.2.2.1 ht),λht=>af9 h2 (h.2.2.2 ht)⟩
theorem Gy.b{E:List En}{len:Nat}{l:List dL}(hwf:iE E)(hE:E.length<=1048576)(hl:len<=1152921504606846976)(h:Gy E len l):PcB l:=λx hx=>by
 obtain⟨h1,-,h3,h4⟩:=h x hx
 refine⟨by omega,?_⟩
 by_cases ht:x.t=0
 .have:=h4 ht;omega
 .have:=h3 ht
  have:=(hwf.wf.len h1).2
  have h5:(txt E x.t).length<=1152921504606846976:=this
  omega
theorem xQ{E:List En}{len:Nat}:∀(l:List dL) (u a T:Nat),Pz l u->Gy E len l->Gy E len (aY l u a T).em/\Gy E len (aY l u a T).l
 | [],_,_,_,_,_=>⟨λy hy=>by simp[aY]at hy,λy hy=>by simp[aY]at hy⟩
 |x::l,u,a,T,h,hq=>by
  have hu:u<=x.n:=h
  have hle:kF x u a T<=x.n-u:=akf _ _
  have hx:=hq x (by simp)
  have hl:Gy E len l:=λy hy=>hq y (by simp[hy])
  have he:Gy E len (lK x u a T):=by
   unfold lK
   split
   .intro y hy;simp at hy;subst hy;exact hx.part _ _ (by omega)
   .intro y hy;simp at hy
  unfold aY
  by_cases ha:a<T
  .rw[af5 ha]
   by_cases hf:u+kF x u a T=x.n
   .rw[af5 hf]
    obtain⟨i1,i2⟩:=xQ l 0 (a+kF x u a T) T (by cases l<;>simp[Pz]) hl
    exact⟨λy hy=>(ags.1 hy).elim (he y) (i1 y),i2⟩
   .rw[af4 hf];exact⟨he,hq⟩
  .rw[af4 ha];exact⟨λy hy=>by simp at hy,hq⟩
structure Gz(E:List En)(len:Nat)(l:List dL)(L:List bH)(j:Nat)(em lr:List dL)(u a:Nat):Prop where
 WJ:Pz lr u
 dr:(jv lr).drop u=(jv l).drop a
 al:a<=(jv l).length
 qe:Gy E len em
 ql:Gy E len lr
 ln:em.length+lr.length<=l.length+3*j
 pos:∀y∈em,0<y.n
 eq:jv em++iA (fF E) (jv l) a (L.drop j)=iA (fF E) (jv l) 0 L
 fm:∃last:Int,bC (jv l).length last (L.drop j)=true/\(a:Int)<=last+1
theorem Gz.zero{E:List En}{len:Nat}{l:List dL}{L:List bH}(h:Gy E len l)(hf:bC (jv l).length (-1) L=true):Gz E len l L 0 [] l 0 0:=
 ⟨by cases l<;>simp[Pz],rfl,agb _,λy hy=>by simp at hy,h,by simp,λy hy=>by simp at hy,by simp[jv], -1,hf,by omega⟩
def Ak(E:List En)(c:bH):List dL:=if 0<(txt E c.id).length then[⟨c.id,0,(txt E c.id).length⟩]else[]
theorem WK(E:List En)(c:bH):jv (Ak E c)=fF E c:=by
 unfold Ak fF;split
 .show vY _++[]=_;rw[agi]
 .rw[show(txt E c.id).length=0 by omega];rfl
theorem Gz.step{E:List En}{len:Nat}{l:List dL}{L:List bH}{j:Nat}{em lr:List dL}{u a:Nat}(h:Gz E len l L j em lr u a)(hT:zZ E L)(hj:j<L.length)(x y:Nat)(hx:L[j].pos=(x:Int))(hy:L[j].pos+L[j].n=(y:Int)):
    Gz E len l L (j+1) (em++(aY lr u a x).em++Ak E L[j]) (aY (aY lr u a x).l (aY lr u a x).u (aY lr u a x).a y).l (aY (aY lr u a x).l (aY lr u a x).u (aY lr u a x).a y).u (aY (aY lr u a x).l (aY lr u a x).u (aY lr u a x).a y).a/\Pz (aY lr u a x).l (aY lr u a x).u/\(aY lr u a x).em.length+(aY lr u a x).l.length<=lr.length+1/\(aY lr u a x).a<=x:=by
 obtain⟨WJ,dr,al,qe,ql,ln,pos,eq,last,fm,fl⟩:=h;have hd:=ahc hj;rw[hd]at eq fm;have ht:=hT L[j] (ag0 hj);generalize L[j]=c at *;obtain⟨g1,g2,g3,g4,g5,g6⟩:=gG fm;obtain⟨s1,s2,s3,s4,s5,s6⟩:=nE lr u a x WJ;obtain⟨q1,q2⟩:=xQ lr u a x WJ ql;have hln:(jv lr).length-u=(jv l).length-a:=by rw[<-agp,dr,agp]
 have ha1:(aY lr u a x).a=x:=by rw[s3,hln];omega
 generalize aY lr u a x=r at *;obtain⟨t1,t2,t3,t4,t5,t6⟩:=nE r.l r.u r.a y s6;obtain⟨p1,p2⟩:=xQ r.l r.u r.a y s6 q2;have hdx:(jv r.l).drop r.u=(jv l).drop x:=by rw[s2,dr,ahn];congr 1;omega
 have hlx:(jv r.l).length-r.u=(jv l).length-x:=by rw[<-agp,hdx,agp]
 have ha2:(aY r.l r.u r.a y).a=y:=by rw[t3,hlx,ha1];omega
 generalize aY r.l r.u r.a y=r2 at *;have pV:(Ak E c).length<=1:=by unfold Ak;split<;>simp
 refine⟨⟨t6,?_,by omega,?_,p2,?_,?_,?_,c.pos+c.n,g5,by omega⟩,s6,s5,by omega⟩
 .rw[t2,hdx,ahn,ha1,ha2];congr 1;omega
 .intro z hz;rcases ags.1 hz with hz|hz
  .exact(ags.1 hz).elim (qe z) (q1 z)
  .unfold Ak at hz;split at hz
   .simp at hz;subst hz;refine⟨ht.1,ht.2,λ_=>by simp,λh0=>?_⟩;rename_i hp;have h0:c.id=0:=h0;rw[h0,cZ]at hp;simp at hp
   .simp at hz
 .rw[af8,af8];omega
 .intro z hz;rcases ags.1 hz with hz|hz
  .exact(ags.1 hz).elim (pos z) (s4 z)
  .unfold Ak at hz;split at hz
   .simp at hz;subst hz;assumption
   .simp at hz
 .rw[AZ,AZ,WK,s1,dr,<-eq,ha2];show _=jv em++(((jv l).drop a).take (c.pos.toNat-a)++(fF E c++iA (fF E) (jv l) (c.pos+c.n).toNat (L.drop (j+1))));rw[show c.pos.toNat=x by omega,show(c.pos+c.n).toNat=y by omega,agf,agf]
theorem Gz.last{E:List En}{len:Nat}{l:List dL}{L:List bH}{em lr:List dL}{u a:Nat}(h:Gz E len l L L.length em lr u a)(T:Nat)(hT:(jv l).length<=T):
    jv (em++(aY lr u a T).em)=iA (fF E) (jv l) 0 L/\Gy E len (em++(aY lr u a T).em)/\(∀y∈em++(aY lr u a T).em,0<y.n)/\(em++(aY lr u a T).em).length<=l.length+3*L.length+1:=by
 obtain⟨WJ,dr,al,qe,ql,ln,pos,eq,last,fm,fl⟩:=h
 obtain⟨s1,s2,s3,s4,s5,s6⟩:=nE lr u a T WJ
 obtain⟨q1,q2⟩:=xQ lr u a T WJ ql
 refine⟨?_,λz hz=>(ags.1 hz).elim (qe z) (q1 z),λz hz=>(ags.1 hz).elim (pos z) (s4 z),by rw[af8];omega⟩
 rw[AZ,s1,dr,<-eq,ag9 (af7 _)]
 show _=jv em++(jv l).drop a
 rw[agI (by rw[agp];omega)]
theorem TF{A B:World}(hb:Below A.heap.size A B){p:Addr}{v:Value}(h:A.cell? p=some v):B.cell? p=some v:=by
 rw[hb.cell ?_]
 .exact h
 .apply Nat.lt_of_not_le;intro hh;have e:A.heap[p.block]?=none:=aia hh;simp[World.cell?,e]at h
theorem ou.below{W:World}{v:Value}{l:List dL}(h:ou W v l){w:World}(hb:Below W.heap.size W w):ou w v l:=by
 obtain⟨a,cap,rfl,h1,h2,h3⟩:=h
 refine⟨a,cap,rfl,h1,h2,λi hi=>?_⟩
 obtain⟨b,rfl,c0,c1,c2⟩:=h3 i hi
 exact⟨b,rfl,TF hb c0,TF hb c1,TF hb c2⟩
end M
end
section
open Go.RowKit Go.Lib
namespace M
attribute [local go_sem] Oper.semAt_some
def TG(W:World)(E:List En)(len:Nat)(l:List dL)(L:List bH)(e:Ending)(w':World):Prop:=
 ∃v' l',e=.returned (.tuple #[v',.nilIface])/\nO W.heap.size w' v' l'/\jv l'=iA (fF E) (jv l) 0 L/\Gy E len l'/\(∀y∈l',0<y.n)/\l'.length<=l.length+3*L.length+1/\Below W.heap.size W w'
theorem afA(w:World)(v:Value):∃wz w2,w.alloc (.cells #[.slice none 0 0,.int .i64 0,.int .i64 0] 208)=wz/\
    ((wz.setCell ⟨w.heap.size,0,none⟩ v).setCell ⟨w.heap.size,1,none⟩ (.int .i64 0)).setCell ⟨w.heap.size,2,none⟩ (.int .i64 0)=w2/\fU w2 w.heap.size v 0 0/\Below w.heap.size w w2/\
    (wz.cell? ⟨w.heap.size,0,none⟩=some (.slice none 0 0)/\wz.cell? ⟨w.heap.size,1,none⟩=some (.int .i64 0)/\wz.cell? ⟨w.heap.size,2,none⟩=some (.int .i64 0))/\(wz.frozen? ⟨w.heap.size,0,none⟩=false/\wz.frozen? ⟨w.heap.size,1,none⟩=false/\wz.frozen? ⟨w.heap.size,2,none⟩=false):=by
 have k0:fU (w.alloc (.cells #[.slice none 0 0,.int .i64 0,.int .i64 0] 208)) w.heap.size (.slice none 0 0) 0 0:=aD _ _
 have b0:Below w.heap.size w (w.alloc (.cells #[.slice none 0 0,.int .i64 0,.int .i64 0] 208)):=(af6 _ _).alloc (af7 _) _
 exact⟨_,_,rfl,rfl,((k0.LM v).zq 0).LP 0,((b0.setCell (p:=⟨w.heap.size,0,none⟩) (af7 _) _).setCell (p:=⟨w.heap.size,1,none⟩) (af7 _) _).setCell (p:=⟨w.heap.size,2,none⟩) (af7 _) _,⟨k0.cells.1,k0.cells.2.1,k0.cells.2.2.1⟩,k0.cells.2.2.2⟩
theorem TH{n0 B most b0 len:Nat}{W:World}{E:List En}(hs:aW n0 W B most E)(hwf:iE E)(hE:E.length<=1048576){vl:Value}{l:List dL}(hrow:ou W vl l)(hq:Gy E len l)(hl:len<=1152921504606846976)(hll:l.length<=1000){v:Value}{L:List bH}(hC:mg b0 W v L)(hT:zZ E L)(OC:L.length<=100)(hf:bC (jv l).length (-1) L=true)(hex:(jv l).length<=1152921504606846976):
    Calls Tryz.prog 73 #[.pointer (some ⟨B,0,none⟩),vl,v] W (TG W E len l L):=by
 have Gp:=ak (tO L (-1) hf);obtain⟨va,vc,rfl⟩:=hC.len;obtain⟨wz,w2,hz,sG,kr,bw,⟨p0,p1,p2⟩,q0,q1,q2⟩:=afA W vl;obtain⟨gr,hgr⟩:=ay (W.heap.size);rw[hgr]at sG kr p0 p1 p2 q0 q1 q2;have HS:=ak hs;have gW:=ak hwf;have HC:=ak hC;have HT:=ak hT;have HE:=ak hE;have jX:=ak (And.intro OC hll);have XM:=ak (And.intro hex hl);have HG:=ak hgr;have HI0:aA (fU w2 gr vl 0 0/\Gz E len l L 0 [] l 0 0/\(∀w,BX gr W.heap.size w2 w->ou w vl l)/\Below W.heap.size W w2):=ak ⟨kr,.zero hq hf,λw hw=>hrow.below (bw.trans (hw.below (aiq hgr))),bw⟩;obtain⟨la,lc,rfl,-⟩:=hrow;clear hs hwf hC hT hE OC hll hf hq hl hex kr bw;go_enter Tryz.func73,Tryz.ntmps73;go_wp2_with fail
 clear hz sG p0 p1 p2 q0 q1 q2 hgr;go_loopw [8,18] (λp c wr=>∃(j:Nat) (em lr:List dL) (u a:Nat) (sa:Option Addr) (sc:Nat),j<=L.length/\c=.int .i64 j/\nO W.heap.size wr p em/\fU wr gr (.slice sa lr.length sc) u a/\(∀w,BX gr W.heap.size wr w->ou w (.slice sa lr.length sc) lr)/\Gz E len l L j em lr u a/\Below W.heap.size W wr) (λ_ c _=>L.length-(intOf c).toNat)
 case atStart=>
  obtain⟨h1,h2,h3,h4⟩:=HI0.o;exact⟨0,[],l,0,0,la,lc,agb _,rfl,aP.nil _ _ _ _ _,h1,h3,h2,h4⟩
 obtain⟨j,em,lr,u,a,sa,sc,hj,rfl,hem,hR,hrow,hS,hbw⟩:=hrel;obtain⟨pa,pc,hpv⟩:=hem.len;obtain⟨pn,hpn⟩:=ay (em.length);rw[hpn]at hpv;subst hpv;have oG:aA (em.length+lr.length<=1400):=ak (by have:=hS.ln;have:=jX.o;omega);have HPC:=ak (hS.ql.b gW.o HE.o XM.o.2);have vk:=ak hbw;have P8:aA (a<=1152921504606846976):=ak (af9 hS.al XM.o.1);by_cases hlt:j<L.length
 .have hlt2:(j:Int)<(L.length:Int):=by omega
  obtain⟨g,cap,e1,-,-,hcc⟩:=mg.at (HC.o.below hbw) hlt;simp only[agn]at e1;obtain⟨rfl,-,rfl⟩:=e1;obtain⟨m0,m1,m2⟩:=hcc wr (af6 _ _) j hlt;have hmem:=Gp.o _ (ag0 hlt);have hct:=HT.o _ (ag0 hlt);have hst:=λx y h1 h2=>hS.step HT.o hlt x y h1 h2;have HJ:=ak hlt;have hj100:j<=100:=by have:=jX.o;omega
  generalize L[j]=c at *;obtain⟨cx,hcx⟩:∃n:Nat,c.pos=(n:Int):=⟨c.pos.toNat,by omega⟩;obtain⟨cy,hcy⟩:∃n:Nat,c.pos+c.n=(n:Int):=⟨(c.pos+c.n).toNat,by omega⟩;obtain⟨n1,n2,n3,n4⟩:=hst cx cy hcx hcy;obtain⟨r1,hr1⟩:=ay (aY lr u a cx);rw[hr1]at n1 n2 n3 n4;have HR1:=ak hr1;obtain⟨r2,hr2⟩:=ay (aY r1.l r1.u r1.a cy);rw[hr2]at n1;have HR2:=ak hr2;have HN:=ak (And.intro n1 (And.intro n2 (And.intro n3 n4)));have hw1:IntKind.i64.wrap (c.pos+c.n)=(cy:Int):=by rw[agd];have:=XM.o.1;omega
  have hq1:Gy E len r1.l:=by rw[<-hr1];exact(xQ lr u a cx hS.WJ hS.ql).2
  have HPC1:=ak (hq1.b gW.o HE.o XM.o.2);obtain⟨wz,w2,hz,sG,kc,bw,⟨p0,p1,p2⟩,q0,q1,q2⟩:=xg wr c;obtain⟨gc,hgc⟩:=ay (wr.heap.size);rw[hgc]at sG kc p0 p1 p2 q0 q1 q2;obtain⟨x0,x1,x2⟩:=kc.cells;have HKC:=ak kc;have HB2:aA (Below W.heap.size W w2):=ak (hbw.trans (bw.mono hbw.size));have iF:=ak (tL (HS.o.below HB2.o) hct.1 HE.o);have htx:(aF E c.id).w.len=(txt E c.id).length:=by
   have h:=(gW.o.wf.len hct.1).1;rw[h];rfl
  rw[htx]at iF;obtain⟨tn,htn⟩:=ay ((txt E c.id).length);rw[htn]at iF;have HTN:=ak htn;have HUOK:=ak hS.WJ;have Jc:aA (gr≠gc):=ak (by have:=(aga.1 hR).1;omega);have HE2:=ak (show nO W.heap.size w2 (.slice pa pn pc) em from hem.below bw);have HRR2:=ak (show fU w2 gr (.slice sa lr.length sc) u a from au bw hR);have WL:=ak (show ∀w,BX gr W.heap.size w2 w->ou w (.slice sa lr.length sc) lr from λw hw=>hrow w ((BX.of (bw.mono hbw.size)).trans hw));have HCX:=ak (And.intro hcx hcy);rw[hcx]at sG m0 x0 hw1;have hmn:c.n=((cy-cx:Nat):Int)/\cx<=cy:=by omega
  have HMN:=ak hmn;have HCB:=ak (show cx<=1152921504606846976/\cy<=1152921504606846976 by have:=XM.o;omega);clear hem hR hrow hS hbw kc bw htx htn hmem hct hst hr1 hr2 n1 n2 n3 n4 hq1 hcc hcx hcy hmn;go_wp2_with fail
  clear hz sG p0 p1 p2 q0 q1 q2 m0 m1 m2 hgc;refine iF.o.mono ?_;rintro e w3 ⟨rfl,b3⟩;have HB3:aA (Below W.heap.size W w3):=ak (HB2.o.trans (b3.mono HB2.o.size));have qH:=ak (show IG w3 gc c from au b3 HKC.o);obtain⟨x0',x1',x2'⟩:=qH.o.cells;rw[HCX.o.1]at x0';have SQ:=ak (CS (lo2:=W.heap.size) (lo:=W.heap.size) (p:=gr) (W:=w3) HB3.o.size (af7 _) (au b3 HRR2.o) (λw hw=>WL.o w ((BX.of (b3.mono HB2.o.size)).trans hw)) HUOK.o HPC.o (HE2.o.below b3) cx (by have:=HCB.o;omega) (by have:=P8.o;omega) (by have:=oG.o;omega));unfold Jy at SQ;rw[HR1.o]at SQ;clear b3 x0 x1 x2;go_wp2_with fail
  refine SQ.o.mono ?_;rintro e w4 ⟨v4,vt4,rfl,EU,hrow4,nP,WM,TI⟩;have cB:aA (Below W.heap.size W w4):=ak (HB3.o.trans (TI.below (aiq HG.o)));have uF:=ak (show IG w4 gc c from WM.cells qH.o (by decide));have hlm:(em++r1.em).length+r1.l.length<=1402:=by rw[af8];have:=HN.o.2.2.1;have:=oG.o;omega
  have HLM:=ak hlm;have WO:=ak (CS (lo2:=W.heap.size) (lo:=w4.heap.size) (p:=gr) (W:=w4) (af7 _) cB.o.size EU hrow4 HN.o.2.1 HPC1.o (aP.nil _ _ _ _ _) cy (by have:=HCB.o;omega) (by have:=HN.o.2.2.2;have:=HCB.o;omega) (by rw[af8]at hlm;simp only[ahX];omega));unfold Jy at WO;rw[HR2.o]at WO;obtain⟨z0,z1,z2⟩:=uF.o.cells;rw[HCX.o.1]at z0;obtain⟨a4,c4,rfl⟩:=nP.len;obtain⟨n4,hn4⟩:=ay ((em++r1.em).length);rw[hn4]at nP⊢;have HN4:=ak hn4;have U3:=ak nP;have HR4:=ak EU;clear EU hrow4 nP WM TI hlm hn4 SQ x0' x1' x2';go_wp2_with fail
  refine WO.o.mono ?_;rintro e w5 ⟨v5,vt5,rfl,ND,Y2,-,afB,aa9⟩;have mG:aA (Below W.heap.size W w5):=ak (cB.o.trans ((aa9.mono cB.o.size).below (aiq HG.o)));have uJ:=ak (show IG w5 gc c from afB.cells uF.o (by decide));have hE5:nO W.heap.size w5 (.slice a4 n4 c4) (em++r1.em):=U3.o.keep (λk cs fz e=>(aa9.block k (aga.1 e).1 (λe'=>by
   subst e';have h:=HR4.o;unfold fU at h;rw[h]at e;cases e)).trans e)
  have Hf:=ak hE5;have nL:=ak ND;have TJ:=ak Y2;have aa0:W.heap.size<=w5.heap.size:=mG.o.size;obtain⟨y0,y1,y2⟩:=uJ.o.cells;clear ND Y2 afB aa9 hE5 WO z0 z1 z2;by_cases ht0:0<tn
  .have hti:(tn:Int)>0:=by omega
   have Wh:aA (Ak E c=[⟨c.id,0,tn⟩]):=ak (by unfold Ak;rw[HTN.o,af5 ht0]);have xB:(em++r1.em).length+1<=2000:=by have:=HLM.o;omega
   clear ht0;go_wp2_with (first
    | (at_builtin;refine bP (v:=.slice a4 n4 c4) CR fJ rfl _ _ rfl rfl Hf.o ⟨c.id,0,tn⟩ rfl rfl ?c1 ?c2 aa0 ?_))
   case c1=>simp[ET,Value.oneCell']
   case c2=>omega
   intro v6 w6 G7 lu hb6;have zY:aA (fU w6 gr v5 r2.u r2.a):=ak (g_ Hf.o lu nL.o (by decide));have zH:aA (Below W.heap.size W w6):=ak (mG.o.trans hb6);have xX:aA (nO W.heap.size w6 v6 (em++r1.em++Ak E c)):=ak (by rw[Wh.o];first|exact G7|(rw[agf];exact G7));have Y3:aA (∀w,BX gr W.heap.size w6 w->ou w v5 r2.l):=ak (λw hw=>TJ.o w ((BX.of hb6).trans hw));clear G7 lu hb6 y0 y1 y2;go_wp2_with fail
   go_roundw
   case rel=>
    obtain⟨a5,c5,e5,-⟩:=Y3.o w6 (BX.refl _ _ _);exact⟨j+1,_,r2.l,r2.u,r2.a,a5,c5,HJ.o,by go_num,xX.o,e5▸zY.o,e5▸Y3.o,HN.o.1,zH.o⟩
   case measure=>have:=HJ.o;simp[intOf];omega
  have hti:¬(tn:Int)>0:=by omega
  have Wh:aA (Ak E c=[]):=ak (by unfold Ak;rw[HTN.o,af4 ht0]);clear ht0;go_wp2_with fail
  go_roundw
  case rel=>
   obtain⟨a5,c5,e5,-⟩:=TJ.o w5 (BX.refl _ _ _);exact⟨j+1,_,r2.l,r2.u,r2.a,a5,c5,HJ.o,by go_num,by rw[Wh.o,agi];exact Hf.o,e5▸nL.o,e5▸TJ.o,HN.o.1,mG.o⟩
  case measure=>have:=HJ.o;simp[intOf];omega
 obtain rfl:j=L.length:=by omega
 obtain⟨r1,hr1⟩:=ay (aY lr u a 9223372036854775807);have hfin:=hS.last 9223372036854775807 (by have:=XM.o.1;omega);rw[hr1]at hfin;have mh:=ak hfin;have SQ:=ak (CS (lo2:=W.heap.size) (lo:=W.heap.size) (p:=gr) (W:=wr) hbw.size (af7 _) hR hrow hS.WJ HPC.o hem 9223372036854775807 (by omega) (by have:=P8.o;omega) (by have:=oG.o;omega));unfold Jy at SQ;rw[hr1]at SQ;rw[show((9223372036854775807:Nat):Int)=9223372036854775807 from rfl]at SQ;clear hem hR hrow hS hbw hr1 hfin hj;go_wp2_with fail
 refine SQ.o.mono ?_;rintro e w4 ⟨v4,vt4,rfl,EU,hrow4,nP,WM,TI⟩;obtain⟨f1,f2,f3,f4⟩:=mh.o;have HZ:aA (TG W E len l L (.returned (.tuple #[vt4,.nilIface])) w4):=ak ⟨vt4,_,rfl,nP,f1,f2,f3,f4,vk.o.trans (TI.below (aiq HG.o))⟩;clear EU hrow4 nP WM TI f1 f2 f3 f4;go_wp2_with fail
 go_ret2;exact HZ.o
end M
end
section
open Go.RowKit
namespace M
def vP(E:List En):Nat->Nat->List dL->List bH->Prop
 |_,_,[],M=>M=[]
 |dn,k,x::l,M=>if x.t=0 then(if dn<x.f\/0<k then ∃c M2,M=c::M2/\LK E dn x.f k c/\vP E (x.f+x.n) 0 l M2 else vP E (x.f+x.n) 0 l M)else vP E dn (k+x.n) l M
theorem vP.col{E:List En}{len:Nat}:∀{l:List dL} {dn k:Nat} {M:List bH},vP E dn k (l++[⟨0,len,0⟩]) M->Col E len dn k l M
 | [],dn,k,M,h=>by
  have h':vP E dn k [⟨0,len,0⟩] M:=h
  unfold vP at h'
  rw[af5 rfl]at h'
  unfold Col
  split
  .rename_i hc
   rw[af5 hc]at h'
   obtain⟨c,M2,rfl,hcc,hz⟩:=h'
   unfold vP at hz
   subst hz
   exact⟨c,rfl,hcc⟩
  .rename_i hc
   rw[af4 hc]at h'
   exact h'
 |x::l,dn,k,M,h=>by
  have h':vP E dn k (x::(l++[⟨0,len,0⟩])) M:=h
  unfold vP at h'
  unfold Col
  split
  .rename_i ht
   rw[af5 ht]at h'
   split
   .rename_i hc
    rw[af5 hc]at h'
    obtain⟨c,M2,rfl,hcc,hz⟩:=h'
    exact⟨c,M2,rfl,hcc,hz.col⟩
   .rename_i hc
    rw[af4 hc]at h'
    exact h'.col
  .rename_i ht
   rw[af4 ht]at h'
   exact h'.col
def zt(len:Nat):Nat->List dL->Prop
 |_,[]=>True
 |dn,x::l=>if x.t=0 then dn<=x.f/\x.f+x.n<=len/\zt len (x.f+x.n) l else 0<x.n/\zt len dn l
theorem uM.s{len:Nat}:∀{l:List dL} {dn:Nat},uM len dn l->dn<=len->zt len dn (l++[⟨0,len,0⟩])
 | [],dn,_,h=>by
  show zt len dn [⟨0,len,0⟩]
  unfold zt
  rw[af5 rfl]
  exact⟨h,by dsimp only;omega,trivial⟩
 |x::l,dn,h,h2=>by
  obtain⟨h0,h⟩:=h
  show zt len dn (x::(l++[⟨0,len,0⟩]))
  unfold zt
  split
  .rename_i ht
   rw[af5 ht]at h
   exact⟨h.1,h.2.1,h.2.2.s h.2.1⟩
  .rename_i ht
   rw[af4 ht]at h
   exact⟨h0,h.s h2⟩
def sN:List dL->Nat
 | []=>0
 |x::l=>(if x.t=0 then 0 else x.n)+sN l
theorem LK.ext{E E2:List En}{dn f k:Nat}{c:bH}(h:LK E dn f k c)(hx:Ext E E2):LK E2 dn f k c:=by
 obtain⟨h1,h2,h3,h4,h5,h6⟩:=h
 exact⟨h1,h2,by rw[hx.txt h4];exact h3,af9 h4 hx.le,by rw[hx.ent h4];exact h5,h6⟩
def WQ(E:List En)(t:List Nat)(x:dL):List Nat:=((if x.t=0 then t else txt E x.t).drop x.f).take x.n
def zu(E:List En)(t:List Nat)(l:List dL):List Nat:=l.flatMap (WQ E t)
theorem zw(E:List En)(t:List Nat)(l:List dL){j:Nat}(hj:j<l.length):zu E t (l.take (j+1))=zu E t (l.take j)++WQ E t l[j]:=by
 unfold zu
 rw[kI hj,ag_];simp
def ltX(E:List En)(t:List Nat)(a:Nat×Nat):Nat:=(if a.1=0 then t else txt E a.1).getD a.2 0
theorem TK(t:List Nat)(f n:Nat)(h:f+n<=t.length):(t.drop f).take n=(List.range n).map λk=>t.getD (f+k) 0:=by
 apply aj9
 .rw[agB,agp,agM,List.length_range];omega
 .intro i h1 h2;rw[agM,List.length_range]at h2;rw[List.getElem_take,List.getElem_drop,aiK,aj3,ah8,agt (by omega)];rfl
theorem GH{E:List En}{t:List Nat}{x:dL}(h:x.f+x.n<=(if x.t=0 then t else txt E x.t).length):WQ E t x=(vY x).map (ltX E t):=by
 unfold WQ vY
 rw[TK _ _ _ h,aiO];rfl
theorem JF{E:List En}{t:List Nat}:∀{l:List dL},Gy E t.length l->zu E t l=(jv l).map (ltX E t)
 | [],_=>rfl
 |x::l,h=>by
  obtain⟨-,-,h1,h2⟩:=h x (by simp)
  show WQ E t x++zu E t l=_
  rw[nD,ag2,JF (λy hy=>h y (by simp[hy])),GH (by
   by_cases h0:x.t=0
   .rw[af5 h0];exact h2 h0
   .rw[af4 h0];exact h1 h0)]
theorem GI{α β:Type}(g:α->β)(ins:bH->List α)(t:List α):∀(L:List bH) (f:Nat),(iA ins t f L).map g=iA (λc=>(ins c).map g) (t.map g) f L
 | [],f=>by show(t.drop f).map g=(t.map g).drop f;rw[ai8]
 |c::L,f=>by
  show((t.drop f).take (c.pos.toNat-f)++(ins c++iA ins t (c.pos+c.n).toNat L)).map g=((t.map g).drop f).take (c.pos.toNat-f)++((ins c).map g++iA (λc=>(ins c).map g) (t.map g) (c.pos+c.n).toNat L)
  rw[ag2,ag2,GI g ins t L,aiM,ai8]
theorem LU{E:List En}{ins:bH->List Nat}(t:List Nat):∀(L:List bH) (f:Nat),(∀c,ins c=txt E c.id)->iA ins t f L=cO E t f L
 | [],_,_=>rfl
 |c::L,f,h=>by
  show(t.drop f).take (c.pos.toNat-f)++(ins c++iA ins t (c.pos+c.n).toNat L)=(t.drop f).take (c.pos.toNat-f)++(txt E c.id++cO E t (c.pos+c.n).toNat L)
  rw[LU t L _ h,h c]
theorem TL(E:List En)(t:List Nat):(gH t.length).map (ltX E t)=t:=by
 have:=GH (E:=E) (t:=t) (x:=⟨0,0,t.length⟩) (by show 0+t.length<=t.length;omega)
 unfold gH
 rw[<-this]
 show(t.drop 0).take t.length=t
 rw[agj,ahe]
theorem NH(E:List En)(t:List Nat)(c:bH):(fF E c).map (ltX E t)=txt E c.id:=by
 by_cases h0:c.id=0
 .unfold fF vY;rw[h0,cZ];rfl
 .have:=GH (E:=E) (t:=t) (x:=⟨c.id,0,(txt E c.id).length⟩) (by show 0+(txt E c.id).length<=(if c.id=0 then t else txt E c.id).length;rw[af4 h0];omega);unfold fF;rw[<-this];show((if c.id=0 then t else txt E c.id).drop 0).take (txt E c.id).length=txt E c.id;rw[af4 h0,agj,ahe]
theorem PG{E:List En}{t:List Nat}{p q:List bH}{l:List dL}(hq:Gy E t.length l)(hl:jv l=nG E t.length p q):zu E t l=cO E (cO E t 0 p) 0 q:=by
 rw[JF hq,hl]
 unfold nG
 rw[GI,GI,TL,LU (E:=E) _ _ _ (λc=>NH E t c),LU (E:=E) _ _ _ (λc=>NH E t c)]
structure sO(E0:List En)(K1 K2 len Mx:Nat)(l:List dL)(j:Nat)(E1:List En)(M1:List bH)(ids:List Nat)(ts:List (List Nat))(dn:Nat):Prop where
 Ig:Wv E1 ids ts
 ord:zt len dn (l.drop j)
 mx:ts.flatten.length+sN (l.drop j)<=Mx
 kp:0<ids.length↔0<ts.flatten.length
 room:E1.length+ids.length*K2<=E0.length+j*(K1+K2)
 ext:Ext E0 E1
 il:ids.length<=j
 ml:M1.length<=j
 al:dn<=len
 col:∀E2,Ext E1 E2->∀M2,vP E2 dn ts.flatten.length (l.drop j) M2->vP E2 0 0 l (M1++M2)
 res:∀t0:List Nat,t0.length=len->∃e A,e<=dn/\(∀E2,Ext E1 E2->∀M2,cO E2 t0 0 (M1++M2)=A++cO E2 t0 e M2)/\A++((t0.drop e).take (dn-e)++ts.flatten)=zu E0 t0 (l.take j)
 Aw:∀x,0<j->l[j-1]?=some x->x.t=0->dn=x.f+x.n/\ts=[]
theorem sO.zero{E0:List En}{K1 K2 len Mx:Nat}{l:List dL}(ho:zt len 0 l)(hm:sN l<=Mx):sO E0 K1 K2 len Mx l 0 E0 [] [] [] 0:=
 ⟨⟨rfl,λj h=>by simp at h⟩,ho,by simpa using hm,by simp,by simp,Ext.refl _,af7 _,af7 _,agb _,λE2 _ M2 h=>h,λt0 _=>⟨0,[],af7 _,λE2 _ M2=>rfl,rfl⟩,λx h=>absurd h (ahh 0)⟩
theorem sO.ins{E0:List En}{K1 K2 len Mx:Nat}{l:List dL}{j:Nat}{E1 E2:List En}{M1:List bH}{ids:List Nat}{ts:List (List Nat)}{dn i:Nat}{t:List Nat}(h:sO E0 K1 K2 len Mx l j E1 M1 ids ts dn)(hj:j<l.length)(hx:Ext E1 E2)(hn:E2.length<=E1.length+K1)(ht:l[j].t≠0)(hb:fT E2 i t)(hl:t.length=l[j].n)(hG:t=((txt E0 l[j].t).drop l[j].f).take l[j].n):
    sO E0 K1 K2 len Mx l (j+1) E2 M1 (ids++[i]) (ts++[t]) dn:=by
 obtain⟨Ig,ord,mx,kp,room,ext,il,ml,al,col,res,Aw⟩:=h;have hsn:=λt0=>zw E0 t0 l hj;have hgj:l[j+1-1]?=some l[j]:=agt hj;rw[ahc hj]at ord mx col;generalize l[j]=x at *;unfold zt at ord;rw[af4 ht]at ord;have hi:sN (x::l.drop (j+1))=x.n+sN (l.drop (j+1)):=by show(if x.t=0 then 0 else x.n)+_=_;rw[af4 ht]
 have hfl:(ts++[t]).flatten.length=ts.flatten.length+x.n:=by rw[ais,af8];simp[hl]
 rw[hi]at mx;refine⟨⟨by rw[af8,af8,Ig.1];rfl,?_⟩,ord.2,by omega,by rw[hfl,af8];simp;omega,?_,ext.trans hx,by rw[af8];simp;omega,by omega,al,?_,λt0 ht0=>?_,λy _ hy hy0=>?_⟩
 .intro q h1 h2;by_cases hq:q<ids.length
  .rw[ajk hq,ajk (by have:=Ig.1;omega)];exact(Ig.2 q hq (by have:=Ig.1;omega)).ext hx
  .have hqe:q=ids.length:=by rw[af8]at h1;simp at h1;omega
   subst hqe;rw[ah_ (af7 _),ah_ (by have:=Ig.1;omega)];simpa using hb
 .rw[af8,ag6,aha];simp;omega
 .intro E3 hx3 M2 hc;refine col E3 (hx.trans hx3) M2 ?_;unfold vP;rw[af4 ht,<-hfl];exact hc
 .obtain⟨e,A,q1,q2,q3⟩:=res t0 ht0;refine⟨e,A,q1,λE3 hx3 M2=>q2 E3 (hx.trans hx3) M2,?_⟩;rw[hsn t0,<-q3];unfold WQ;rw[af4 ht,<-hG];simp
 .rw[hgj]at hy;injection hy with hy;exact absurd (by rw[hy];exact hy0) ht
theorem sO.chg{E0:List En}{K1 K2 len Mx:Nat}{l:List dL}{j:Nat}{E1 E2:List En}{M1:List bH}{ids:List Nat}{ts:List (List Nat)}{dn i:Nat}(h:sO E0 K1 K2 len Mx l j E1 M1 ids ts dn)(hj:j<l.length)(hx:Ext E1 E2)(hn:E2.length<=E1.length+ids.length*K2)(ht:l[j].t=0)(hc:dn<l[j].f\/0<ids.length)(hb:fT E2 i ts.flatten):
    sO E0 K1 K2 len Mx l (j+1) E2 (M1++[⟨dn,((l[j].f-dn:Nat):Int),i⟩]) [] [] (l[j].f+l[j].n):=by
 obtain⟨Ig,ord,mx,kp,room,ext,il,ml,al,col,res,Aw⟩:=h;have hsn:=λt0=>zw E0 t0 l hj;have hgj:l[j+1-1]?=some l[j]:=agt hj;rw[ahc hj]at ord mx col;generalize l[j]=x at *;unfold zt at ord;rw[af5 ht]at ord;have hi:sN (x::l.drop (j+1))=0+sN (l.drop (j+1)):=by show(if x.t=0 then 0 else x.n)+_=_;rw[af5 ht]
 rw[hi]at mx;refine⟨⟨rfl,λq h=>by simp at h⟩,ord.2.2,by simp;omega,by simp,?_,ext.trans hx,by simp,by rw[af8];simp;omega,ord.2.1,?_,λt0 ht0=>?_,λy _ hy _=>?_⟩
 .rw[ag6];simp;omega
 .intro E3 hx3 M2 hcc;rw[agf];refine col E3 (hx.trans hx3) _ ?_;unfold vP;rw[af5 ht,af5 (hc.elim .inl (λh=> .inr (kp.1 h)))];refine⟨_,M2,rfl,LK.ext ⟨rfl,rfl,?_,hb.le,hb.even,?_⟩ hx3,hcc⟩
  .show(txt E2 i).length=_;rw[hb.txt]
  .intro h0;have h0:i=0:=h0;have:=hb.txt;rw[h0,cZ]at this;rw[<-this];rfl
 .obtain⟨e,A,q1,q2,q3⟩:=res t0 ht0;refine⟨x.f,A++((t0.drop e).take (dn-e)++ts.flatten),akc _ _,λE3 hx3 M2=>?_,?_⟩
  .rw[agf,q2 E3 (hx.trans hx3)];show A++((t0.drop e).take (((dn:Nat):Int).toNat-e)++(txt E3 i++cO E3 t0 (((dn:Nat):Int)+((x.f-dn:Nat):Int)).toNat M2))=_;rw[show(((dn:Nat):Int)+((x.f-dn:Nat):Int)).toNat=x.f by omega,aj6,hx3.txt hb.le,hb.txt];simp
  .rw[hsn t0,<-q3];unfold WQ;rw[af5 ht,ajo];simp
 .rw[hgj]at hy;injection hy with hy;rw[<-hy];exact⟨rfl,rfl⟩
theorem sO.skip{E0:List En}{K1 K2 len Mx:Nat}{l:List dL}{j:Nat}{E1:List En}{M1:List bH}{ids:List Nat}{ts:List (List Nat)}{dn:Nat}(h:sO E0 K1 K2 len Mx l j E1 M1 ids ts dn)(hj:j<l.length)(ht:l[j].t=0)(hc:¬dn<l[j].f)(hc2:¬0<ids.length):
    sO E0 K1 K2 len Mx l (j+1) E1 M1 [] [] (l[j].f+l[j].n):=by
 obtain⟨Ig,ord,mx,kp,room,ext,il,ml,al,col,res,Aw⟩:=h;have hsn:=λt0=>zw E0 t0 l hj;have hgj:l[j+1-1]?=some l[j]:=agt hj;rw[ahc hj]at ord mx col;generalize l[j]=x at *;unfold zt at ord;rw[af5 ht]at ord;have hi:sN (x::l.drop (j+1))=0+sN (l.drop (j+1)):=by show(if x.t=0 then 0 else x.n)+_=_;rw[af5 ht]
 rw[hi]at mx;refine⟨⟨rfl,λq h=>by simp at h⟩,ord.2.2,by simp;omega,by simp,?_,ext,by simp,by omega,ord.2.1,?_,λt0 ht0=>?_,λy _ hy _=>?_⟩
 .rw[ag6];simp;omega
 .intro E3 hx3 M2 hcc;refine col E3 hx3 _ ?_;unfold vP;rw[af5 ht,af4 (λh=>h.elim hc (λh=>hc2 (kp.2 h)))];exact hcc
 .obtain⟨e,A,q1,q2,q3⟩:=res t0 ht0;have hat:dn=x.f:=by have:=ord.1;omega
  have hts:ts.flatten=[]:=ahw (by
   rcases agP ts.flatten.length with g|g
   .exact g
   .exact absurd (kp.2 g) hc2)
  refine⟨e,A,by omega,λE3 hx3 M2=>q2 E3 hx3 M2,?_⟩;rw[hsn t0,<-q3,hts];unfold WQ;rw[af5 ht,show x.f+x.n-e=(dn-e)+x.n by omega,List.take_add,ahn,show e+(dn-e)=x.f by omega];simp
 .rw[hgj]at hy;injection hy with hy;rw[<-hy];exact⟨rfl,rfl⟩
theorem sO.done{E0:List En}{K1 K2 len Mx:Nat}{l:List dL}{j:Nat}{E1:List En}{M1:List bH}{ids:List Nat}{ts:List (List Nat)}{dn:Nat}(h:sO E0 K1 K2 len Mx (l++[⟨0,len,0⟩]) j E1 M1 ids ts dn)(hj:j=(l++[(⟨0,len,0⟩:dL)]).length):Col E1 len 0 0 l M1:=by
 subst hj
 have:=h.col E1 (Ext.refl _) [] (by rw[ajE];rfl)
 rw[agi]at this
 exact this.col
theorem sO.text{E0:List En}{K1 K2 len Mx:Nat}{l:List dL}{j:Nat}{E1:List En}{M1:List bH}{ids:List Nat}{ts:List (List Nat)}{dn:Nat}(h:sO E0 K1 K2 len Mx (l++[⟨0,len,0⟩]) j E1 M1 ids ts dn)(hj:j=(l++[(⟨0,len,0⟩:dL)]).length){t:List Nat}(ht:t.length=len):cO E1 t 0 M1=zu E0 t l:=by
 obtain⟨e,A,q1,q2,q3⟩:=h.res t ht
 have hlen:(l++[(⟨0,len,0⟩:dL)]).length=l.length+1:=by simp
 obtain⟨r1,r2⟩:=h.Aw ⟨0,len,0⟩ (by omega) (by rw[hj,hlen];simp) rfl
 have h1:=q2 E1 (Ext.refl _) []
 rw[agi]at h1
 rw[h1]
 show A++t.drop e=_
 rw[hj,ahe]at q3
 have h2:zu E0 t (l++[⟨0,len,0⟩])=zu E0 t l:=by
  unfold zu
  rw[ag_]
  simp[WQ]
 rw[h2,r2,r1]at q3
 rw[<-q3,agI (by rw[agp];dsimp only;omega)]
 simp
structure Ka(B:Nat)(A C:World):Prop where
 cells:∀t:TypeId,t≠140->t≠136->t≠155->∀(k:Nat) (cs:Array Value) (fz:Nat×Nat),A.heap[k]?=some (.cells cs t fz)->C.heap[k]?=some (.cells cs t fz)
 map:∀v,Dq B A v->Dq B C v
 others:∀(k:Nat) es c,A.heap[k]?=some (.map es c)->(∃v,Dq B A v/\v≠ .map (some k))->C.heap[k]?=some (.map es c)
theorem Ka.of{B:Nat}{A C:World}(h:Kt B A C):Ka B A C:=⟨λt a b _ k cs fz e=>h.cells t a b k cs fz e,h.map,h.others⟩
theorem Ka.trans{B:Nat}{A C D:World}(h:Ka B A C)(k:Ka B C D):Ka B A D:=⟨λt a b c i cs fz e=>k.cells t a b c i cs fz (h.cells t a b c i cs fz e),λv e=>k.map v (h.map v e),λi es c e ⟨v,h1,h2⟩=>k.others i es c (h.others i es c e ⟨v,h1,h2⟩) ⟨v,h.map v h1,h2⟩⟩
end M
end
section
open Go.RowKit Go.Lib
namespace M
attribute [local go_sem] Oper.semAt_some
def afC(n0 B most k:Nat)(E:List En)(W:World)(len:Nat)(l:List dL)(e:Ending)(w':World):Prop:=
 ∃E' M v',e=.returned (.tuple #[v',.nilIface])/\aW n0 w' B most E'/\iE E'/\Ext E E'/\E'.length<=E.length+k/\mg W.heap.size w' v' M/\Col E' len 0 0 l M/\(∀t:List Nat,t.length=len->cO E' t 0 M=zu E t l)/\M.length<=l.length+1/\Below n0 W w'/\Ka B W w'
theorem Ka.own{n1:Nat}{b9:Nat}{A C:World}{α:Type}{size:Nat}{enc:α->List Value}{v:Value}{l:List α}{o:Obj}(hS:aP n1 A 155 size enc v l)(hg:(A.alloc o).grownBy C v.ownBlock):Ka b9 A C:=by
 have hb:=(af6 A.heap.size A).alloc (af7 _) o;refine⟨λt _ _ h3=>(jd.below hb).trans (qY (hS.below hb) hg h3),λv ⟨cs,fz,e1,e2⟩=>⟨cs,fz,(jd.below hb).trans (qY (hS.below hb) hg (by decide)) _ _ _ e1,e2⟩,λk es c hk _=>?_⟩
 .have hlt:=(aga.1 hk).1;rw[hg.block k (by simp;omega) ?_,ahM _ _ _ hlt]
  .exact hk
  .rcases hS.2 with⟨rfl,_⟩|⟨g,cap,cur,rfl,_,hgb,_⟩
   .simp[Value.ownBlock]
   .intro e';obtain rfl:k=g:=(by simpa[Value.ownBlock]using e');rw[hgb]at hk;cases hk
theorem aP.app2{α β:Type}{n1 n2:Nat}{A C:World}{e e2:TypeId}{size Y4:Nat}{enc:α->List Value}{enc2:β->List Value}{v v2:Value}{l:List α}{l2:List β}{o:Obj}(h:aP n2 A e2 Y4 enc2 v2 l2)(hS:aP n1 A e size enc v l)(hg:(A.alloc o).grownBy C v.ownBlock)(ht:e2≠e):aP n2 C e2 Y4 enc2 v2 l2:=
 h.keep ((jd.below ((af6 _ _).alloc (af7 _) _)).trans (qY (hS.below ((af6 _ _).alloc (af7 _) o)) hg ht))
theorem aa_{B:Nat}{W:World}{v:Value}{l:List dL}(h:nO B W v l){i:Nat}(hi:i<l.length):∃g cap,v=.slice (some ⟨g,0,none⟩) l.length cap/\W.cell? ⟨g,i*3,none⟩=some (.int .i64 (l[i].t:Int))/\W.cell? ⟨g,i*3+1,none⟩=some (.int .i64 (l[i].f:Int))/\W.cell? ⟨g,i*3+2,none⟩=some (.int .i64 (l[i].n:Int)):=by
 rcases h.shape with⟨-,rfl⟩|⟨g,cap,rfl,h1,h2⟩
 .simp at hi
 .have e0:=aP.cell fJ h hi (j:=0) (by omega);have e1:=aP.cell fJ h hi (j:=1) (by omega);have e2:=aP.cell fJ h hi (j:=2) (by omega);exact⟨g,cap,rfl,e0,e1,e2⟩
theorem aP.lower{α:Type}{B₀ B₁:Nat}{A:World}{e:TypeId}{size:Nat}{enc:α->List Value}{v:Value}{l:List α}(h:aP B₀ A e size enc v l)(hb:B₁<=B₀):aP B₁ A e size enc v l:=
 ⟨h.1,h.2.imp id (λ⟨g,cap,cur,hv,hg,r⟩=>⟨g,cap,cur,hv,af9 hb hg,r⟩)⟩
theorem JG{D Mx:Nat}(hD:GZ D Mx){n0 B most b0 len:Nat}{W:World}{E:List En}(hs:aW n0 W B most E)(hwf:iE E){vl:Value}{l:List dL}(hl:nO b0 W vl l)(hnb:n0<=b0)(hb0:b0<=W.heap.size)(hq:Gy E len l)(ho:uM len 0 l)(hlen:len<=1152921504606846976)(hll:l.length<=200)(hM:sN l<=Mx)(hMt:∀y∈l,(txt E y.t).length<=Mx)
    (hroom:E.length+(l.length+1)*(bZ D+(3*D+1))<=most) (hE:E.length+(l.length+1)*(bZ D+(3*D+1))<=1048576):
    Calls Tryz.prog 74 #[.pointer (some ⟨B,0,none⟩),.int .i64 (len:Nat),vl] W (afC n0 B most ((l.length+1)*(bZ D+(3*D+1))) E W len l):=by
 obtain⟨va,vc,rfl⟩:=hl.len;have hn0:=hs.lt;have HS:=ak hs;have gW:=ak hwf;have HL:=ak hl;have gJ:=ak hn0;have jU:=ak (And.intro hroom (And.intro hE (And.intro hD.2 (And.intro hll (And.intro hlen (And.intro hnb hb0))))));have HQ:aA (∀y∈l++[(⟨0,len,0⟩:dL)],y.t<=E.length/\(aF E y.t).even=true/\(y.t≠0->y.f+y.n<=(txt E y.t).length)/\(txt E y.t).length<=Mx/\y.f+y.n<=1152921504606846976):=ak (λy hy=>by
  rcases ags.1 hy with hy|hy
  .obtain⟨h1,h2,h3,h4⟩:=hq y hy;refine⟨h1,h2,h3,hMt y hy,?_⟩;by_cases ht:y.t=0
   .exact af9 (h4 ht) hlen
   exact af9 (h3 ht) (hwf.wf.len h1).2
  simp at hy;subst hy;exact⟨agb _,rfl,λh=>absurd rfl h,by rw[cZ];simp,hlen⟩)
 have hiN:∀(a b:List dL),sN (a++b)=sN a+sN b:=λa b=>by
  induction a with
  |nil=>simp[sN]
  |cons x a ih=>simp only[agZ,sN,ih];omega
 have HI0:aA (sO E (bZ D) (3*D+1) len Mx (l++[⟨0,len,0⟩]) 0 E [] [] [] 0):=ak (.zero (ho.s (agb _)) (by rw[hiN];simpa[sN]using hM));have hl20:l.length+1<=2000:=by omega
 clear hs hwf hl hn0 hq ho hlen hll hM hMt hroom hE hnb hiN;go_enter Tryz.func74,Tryz.ntmps74;go_wp2_with (first
  | (at_builtin;refine bP (v:=.slice va l.length vc) CR fJ rfl _ _ rfl rfl HL.o ⟨0,len,0⟩ rfl rfl ?c1 ?c2 hb0 ?_))
 case c1=>simp[ET,Value.oneCell']
 case c2=>omega
 intro v1 w1 hS1 hg1 hb1;obtain⟨a1,c1,rfl⟩:=hS1.len;have hl1:(l++[(⟨0,len,0⟩:dL)]).length=l.length+1:=by simp
 obtain⟨l1,abb⟩:=ay (l++[(⟨0,len,0⟩:dL)]);have uT:=ak abb;rw[abb]at hS1 hl1 HI0 HQ⊢;have YO:=ak hl1;have sG:aW n0 w1 B most E:=HS.o.app' HL.o hg1 (by decide) (by decide);have HST1:=ak sG;have HW1:aA (Below n0 W w1/\Ka B W w1/\W.heap.size<=w1.heap.size):=ak ⟨hb1.mono jU.o.2.2.2.2.2.1,Ka.own HL.o hg1,hb1.size⟩;have HP1:=ak hS1;clear hS1 hg1 hb1 sG hb0 hl20 abb;have hl1b:l1.length<=201:=by have:=jU.o.2.2.2.1;omega
 clear hl1;go_wp2_with fail
 go_loopw [8,9,10,23] (λp tx at' c wr=>∃(j:Nat) (E1:List En) (M1:List bH) (ids:List Nat) (ts:List (List Nat)) (dn:Nat),j<=l1.length/\c=.int .i64 j/\at'=.int .i64 (dn:Nat)/\mg w1.heap.size wr p M1/\Ids w1.heap.size wr tx ids/\aW n0 wr B most E1/\iE E1/\sO E (bZ D) (3*D+1) len Mx l1 j E1 M1 ids ts dn/\Below n0 w1 wr/\Kt B w1 wr) (λ_ _ _ c _=>l1.length-(intOf c).toNat)
 case atStart=>exact⟨0,E,[],[],[],0,agb _,rfl,rfl,aP.nil _ _ _ _ _,aP.nil _ _ _ _ _,HST1.o,gW.o,HI0.o,af6 _ _,Kt.of (af6 _ _)⟩
 obtain⟨j,E1,M1,ids,ts,dn,hj,rfl,rfl,hR,hI,hs1,oH,hci,hbw,hkt⟩:=hrel;obtain⟨pa,pc,hpv⟩:=hR.len;obtain⟨pn,hpn⟩:=ay (M1.length);rw[hpn]at hpv;subst hpv;obtain⟨ia,ic,hiv⟩:=hI.len;obtain⟨im,him⟩:=ay (ids.length);rw[him]at hiv;subst hiv;have HR:=ak hR;have HI:=ak hI;have j_:=ak hs1;have HF1:=ak oH;have Ho:=ak hci;have vk:=ak hbw;have RP:=ak hkt;have HIM:=ak him;have Qc:=ak hpn;have hlow:W.heap.size<=wr.heap.size:=af9 HW1.o.2.2 hbw.size;have hlo1:w1.heap.size<=wr.heap.size:=hbw.size;clear hR hI hs1 oH hci hbw hkt him hpn;by_cases hlt:j<l1.length
 .have hlt2:(j:Int)<(l1.length:Int):=by omega
  obtain⟨g,cap,e1,m0,m1,m2⟩:=aa_ (show nO b0 wr (.slice a1 l1.length c1) l1 from HP1.o.keep (RP.o.lX (by decide) (by decide))) hlt;simp only[agn]at e1;obtain⟨rfl,-,rfl⟩:=e1;have HJ:=ak hlt;obtain⟨hx1,hx2,hx3,hxm,hxb⟩:=HQ.o _ (ag0 hlt);have hmul:(j+1)*(bZ D+(3*D+1))<=(l.length+1)*(bZ D+(3*D+1)):=agY _ (by have:=YO.o;omega);have hsucc:(j+1)*(bZ D+(3*D+1))=j*(bZ D+(3*D+1))+(bZ D+(3*D+1)):=ag6 _ _;have hrm:=Ho.o.room;have hnn:=jU.o;have hSI:=λE2 i t h1 h2 h3 h4 h5 h6=>Ho.o.ins (E2:=E2) (i:=i) (t:=t) hlt h1 h2 h3 h4 h5 h6;have hSC:=λE2 i h1 h2 h3 h4 h5=>Ho.o.chg (E2:=E2) (i:=i) hlt h1 h2 h3 h4 h5;have hSK:=λh1 h2 h3=>Ho.o.skip hlt h1 h2 h3;have Gv:=Ho.o.ord;rw[ahc hlt]at Gv;generalize l1[j]=x at *;unfold zt at Gv;obtain⟨wz,w2,hz,sG,kc,bw,⟨p0,p1,p2⟩,q0,q1,q2⟩:=Y0 wr x;obtain⟨gc,hgc⟩:=ay (wr.heap.size);rw[hgc]at sG kc p0 p1 p2 q0 q1 q2;obtain⟨x0,x1,x2⟩:=kc.cells;have HKC:=ak kc;have hlo2:w1.heap.size<=w2.heap.size:=af9 hlo1 bw.size;have HB2:aA (Below n0 w1 w2):=ak (vk.o.trans (bw.mono j_.o.lt));have nY:aA (Kt B w1 w2):=ak (RP.o.trans (Kt.of bw));have hs2:=j_.o.below bw;have HS2:=ak hs2;have HR2:=ak (HR.o.below bw);have HI2:=ak (HI.o.below bw);have hj200:j<=201:=by omega
  clear kc bw;by_cases ht:x.t=0;rotate_left
  .have htb:((x.t:Int)==0)=false:=agh.2 (by omega);rw[af4 ht]at Gv;have zf:=ak (Jv hD hs2 HF1.o (fT.ext (A:=E) ⟨hx1,rfl,hx2⟩ Ho.o.ext) (hx3 ht) hxm (by omega) (by omega));have iI:aA ((((txt E x.t).drop x.f).take x.n).length=x.n):=ak (by rw[agB,agp];have:=hx3 ht;omega);have HST:=ak (λE2 i h1 h2 h3=>hSI E2 i (((txt E x.t).drop x.f).take x.n) h1 h2 ht h3 iI.o rfl);have him:im+1<=2000:=by rw[<-HIM.o];have:=Ho.o.il;omega
   generalize((txt E x.t).drop x.f).take x.n=G at *;clear ht hx1 hx2 hx3 hxm hxb hmul hsucc hrm hnn hSI hSC hSK Gv hs2;go_wp2_with fail
   clear hz sG p0 p1 p2 q0 q1 q2 m0 m1 m2 hgc;refine zf.o.mono ?_;rintro e w4 ⟨E4,i4,rfl,s4,f4,x4,n4,xW,CL,zm⟩;have HI4:=ak (show Ids w1.heap.size w4 (.slice ia im ic) ids from HI2.o.keep (zm.lX (by decide) (by decide)));have HR4:=ak (show mg w1.heap.size w4 (.slice pa pn pc) M1 from zk HR2.o zm);have Rv:=ak (And.intro f4 (And.intro x4 (And.intro n4 (And.intro xW (And.intro CL zm)))));have lU:=ak s4;have uE:w1.heap.size<=w4.heap.size:=af9 hlo2 CL.size;clear s4 f4 x4 n4 xW CL zm x0 x1 x2;go_wp2_with (first
    | (at_builtin;refine bP (v:=.slice ia im ic) elemId bX rfl _ _ rfl rfl HI4.o i4 rfl rfl ?c1 ?c2 uE ?_))
   case c1=>simp[gF,Value.oneCell']
   case c2=>have:=HIM.o;omega
   intro v5 w5 hS5 hg5 hb5;have qU:=ak hS5;have LJ:=ak (lU.o.app' HI4.o hg5 (by decide) (by decide));have nL:=ak (show mg w1.heap.size w5 (.slice pa pn pc) M1 from aP.app2 HR4.o HI4.o hg5 (by decide));have mG:=ak hb5;clear hS5 hg5 hb5;go_wp2_with fail
   go_roundw
   case rel=>
    obtain⟨f4,x4,n4,xW,CL,zm⟩:=Rv.o;exact⟨j+1,E4,M1,_,_,dn,HJ.o,by go_num,rfl,nL.o,qU.o,LJ.o,f4,HST.o E4 i4 x4 n4 xW,(HB2.o.trans CL).trans (mG.o.mono (af9 gJ.o HW1.o.2.2)),(nY.o.trans zm).then mG.o⟩
   case measure=>have:=HJ.o;simp[intOf];omega
  have htb:((x.t:Int)==0)=true:=by rw[ht];rfl
  rw[af5 ht]at Gv;obtain⟨fn,hfn⟩:=ay (x.f+x.n);obtain⟨fd,hfd⟩:∃z:Int,((x.f-dn:Nat):Int)=z:=⟨_,rfl⟩;have hw1:IntKind.i64.wrap ((x.f:Int)+(x.n:Int))=(fn:Int):=by rw[agd];omega
  have hw2:IntKind.i64.wrap ((x.f:Int)-(dn:Int))=fd:=by rw[agd];omega
  have HFN:=ak hfn;have PY:=ak hfd;have uo:=Ho.o.Ig;have hcm:=Ho.o.mx;have afD:=Ho.o.il;have HCN:=ak (JE hD hs2 HF1.o HI2.o uo (by omega) (by omega) (by omega) (by omega));rw[HIM.o]at HCN hrm afD;have HST:=ak (λE2 i h1 (h2:E2.length<=E1.length+im*(3*D+1)) h4 h5=>hSC E2 i h1 (by rw[HIM.o];exact h2) ht h4 h5);have Y5:=ak (hSK ht);clear hcm afD ht hx1 hx2 hx3 hmul hsucc hrm hnn hSI hSC hSK Gv hfn hfd;by_cases hc1:dn<x.f
  .have UA:=ak (show dn<x.f\/0<ids.length from .inl hc1);have hg1:(x.f:Int)>(dn:Int):=by omega
   clear hxm hxb hs2 uo;go_wp2_with fail
   clear hz sG p0 p1 p2 q0 q1 q2 m0 m1 m2 hgc;refine HCN.o.mono ?_;rintro e w4 ⟨E4,i4,rfl,s4,f4,x4,n4,xW,CL,zm⟩;have hk4:jh w4 gc x:=zm.cells _ (by decide) (by decide) _ _ _ HKC.o;obtain⟨y0,y1,y2⟩:=hk4.cells;have uF:=ak hk4;have HR4:=ak (show mg w1.heap.size w4 (.slice pa pn pc) M1 from zk HR2.o zm);have Rv:=ak (And.intro f4 (And.intro x4 (And.intro n4 (And.intro xW (And.intro CL zm)))));have lU:=ak s4;have uE:w1.heap.size<=w4.heap.size:=af9 hlo2 CL.size;clear hk4 s4 f4 x4 n4 xW CL zm x0 x1 x2;go_wp2_with (first
    | (at_builtin;refine bP (v:=.slice pa pn pc) vg iV rfl _ _ rfl rfl HR4.o ⟨dn,fd,i4⟩ rfl rfl ?c1 ?c2 uE ?_))
   case c1=>simp[w_,Value.oneCell']
   case c2=>have:=Qc.o;have:=Ho.o.ml;omega
   intro v5 w5 hS5 hg5 hb5;have qU:=ak hS5;have LJ:=ak (lU.o.app' HR4.o hg5 (by decide) (by decide));have mG:=ak hb5;have uJ:=ak (show jh w5 gc x from g_ HR4.o hg5 uF.o (by decide));obtain⟨y0',y1',y2'⟩:=uJ.o.cells;clear hS5 hg5 hb5 y0 y1 y2;go_wp2_with fail
   clear y0' y1' y2';go_roundw
   case rel=>
    obtain⟨f4,x4,n4,xW,CL,zm⟩:=Rv.o;have hst:=HST.o E4 i4 x4 n4 UA.o xW;rw[HFN.o,PY.o]at hst;exact⟨j+1,E4,_,[],[],fn,HJ.o,by go_num,rfl,qU.o,aP.nil _ _ _ _ _,LJ.o,f4,hst,(HB2.o.trans CL).trans (mG.o.mono (af9 gJ.o HW1.o.2.2)),(nY.o.trans zm).then mG.o⟩
   case measure=>have:=HJ.o;simp[intOf];omega
  by_cases hc2:0<im
  .have UA:=ak (show dn<x.f\/0<ids.length from .inr (by rw[HIM.o];exact hc2));have hg1:¬(x.f:Int)>(dn:Int):=by omega
   have hg2:(im:Int)>0:=by omega
   clear hxm hxb hs2 uo;go_wp2_with fail
   clear hz sG p0 p1 p2 q0 q1 q2 m0 m1 m2 hgc;refine HCN.o.mono ?_;rintro e w4 ⟨E4,i4,rfl,s4,f4,x4,n4,xW,CL,zm⟩;have hk4:jh w4 gc x:=zm.cells _ (by decide) (by decide) _ _ _ HKC.o;obtain⟨y0,y1,y2⟩:=hk4.cells;have uF:=ak hk4;have HR4:=ak (show mg w1.heap.size w4 (.slice pa pn pc) M1 from zk HR2.o zm);have Rv:=ak (And.intro f4 (And.intro x4 (And.intro n4 (And.intro xW (And.intro CL zm)))));have lU:=ak s4;have uE:w1.heap.size<=w4.heap.size:=af9 hlo2 CL.size;clear hk4 s4 f4 x4 n4 xW CL zm x0 x1 x2;go_wp2_with (first
    | (at_builtin;refine bP (v:=.slice pa pn pc) vg iV rfl _ _ rfl rfl HR4.o ⟨dn,fd,i4⟩ rfl rfl ?c1 ?c2 uE ?_))
   case c1=>simp[w_,Value.oneCell']
   case c2=>have:=Qc.o;have:=Ho.o.ml;omega
   intro v5 w5 hS5 hg5 hb5;have qU:=ak hS5;have LJ:=ak (lU.o.app' HR4.o hg5 (by decide) (by decide));have mG:=ak hb5;have uJ:=ak (show jh w5 gc x from g_ HR4.o hg5 uF.o (by decide));obtain⟨y0',y1',y2'⟩:=uJ.o.cells;clear hS5 hg5 hb5 y0 y1 y2;go_wp2_with fail
   clear y0' y1' y2';go_roundw
   case rel=>
    obtain⟨f4,x4,n4,xW,CL,zm⟩:=Rv.o;have hst:=HST.o E4 i4 x4 n4 UA.o xW;rw[HFN.o,PY.o]at hst;exact⟨j+1,E4,_,[],[],fn,HJ.o,by go_num,rfl,qU.o,aP.nil _ _ _ _ _,LJ.o,f4,hst,(HB2.o.trans CL).trans (mG.o.mono (af9 gJ.o HW1.o.2.2)),(nY.o.trans zm).then mG.o⟩
   case measure=>have:=HJ.o;simp[intOf];omega
  have UA:=ak (show ¬dn<x.f/\¬0<ids.length from⟨hc1,by rw[HIM.o];exact hc2⟩);have hg1:¬(x.f:Int)>(dn:Int):=by omega
  have hg2:¬(im:Int)>0:=by omega
  clear hxm hxb hs2 uo;go_wp2_with fail
  go_roundw
  case rel=>
   have hst:=Y5.o UA.o.1 UA.o.2;rw[HFN.o]at hst;exact⟨j+1,E1,M1,[],[],fn,HJ.o,by go_num,rfl,HR2.o,aP.nil _ _ _ _ _,HS2.o,HF1.o,hst,HB2.o,nY.o⟩
  case measure=>have:=HJ.o;simp[intOf];omega
 obtain rfl:j=l1.length:=by omega
 have kM:=Ho.o.ml;have hfin:=Ho.o;rw[<-uT.o]at hfin;have TM:=hfin.done (by rw[uT.o]);have afE:=λ(t:List Nat) (ht:t.length=len)=>hfin.text (by rw[uT.o]) ht;have mh:aA (afC n0 B most ((l.length+1)*(bZ D+(3*D+1))) E W len l (.returned (.tuple #[.slice pa pn pc,.nilIface])) wr):=ak (by
  refine⟨E1,M1,_,rfl,j_.o,HF1.o,Ho.o.ext,?_,?_,TM,afE,by have:=YO.o;omega,HW1.o.1.trans vk.o,HW1.o.2.1.trans (.of RP.o)⟩
  .have:=Ho.o.room;rw[YO.o]at this;omega
  exact aP.lower HR.o HW1.o.2.2)
 clear kM hfin TM afE;go_wp2_with fail
 go_ret2;exact mh.o
theorem abd(w:World)(len:Nat):nO w.heap.size (w.alloc (.cells #[.int .i64 0,.int .i64 0,.int .i64 (len:Int)] 155)) (.slice (some ⟨w.heap.size,0,none⟩) 1 1) [⟨0,0,len⟩]:=
 aP.lit (l:=[(⟨0,0,len⟩:dL)]) fJ rfl (by unfold maxLen;simp)
def nk(l:List (Nat×Nat)):Nat:=(l.filter λp=>p.1 !=0).length
theorem CZ(a b:List (Nat×Nat)):nk (a++b)=nk a+nk b:=by unfold nk;rw[List.filter_append,af8]
theorem afF(a:List (Nat×Nat)):nk a<=a.length:=aiX _ _
theorem TN(x:dL):nk (vY x)=if x.t=0 then 0 else x.n:=by
 unfold nk vY;rw[List.filter_map];split
 .rename_i h;have:(List.range x.n).filter ((λp:Nat×Nat=>p.1 !=0) ∘λk=>(x.t,x.f+k))=[]:=by
   rw[ajV];intro a _;simp[h]
  rw[this];rfl
 .rename_i h;have:(List.range x.n).filter ((λp:Nat×Nat=>p.1 !=0) ∘λk=>(x.t,x.f+k))=List.range x.n:=by
   rw[akK];intro a _;simp[h]
  rw[this];simp
theorem NI:∀(l:List dL),sN l=nk (jv l)
 | []=>rfl
 |x::l=>by
  rw[nD,CZ,TN,<-NI l];rfl
theorem GJ{E:List En}{t:List (Nat×Nat)}{len:Int}:∀(L:List bH) (last:Int) (f:Nat),bC len last L=true->(f:Int)<=last+1->nk (iA (fF E) t f L)<=nk (t.drop f)+dN E L
 | [],_,f,_,_=>akc _ _
 |c::L,last,f,h,hf=>by
  obtain⟨g1,g2,g3,g4,g5,g6⟩:=gG h
  show nk ((t.drop f).take (c.pos.toNat-f)++(fF E c++iA (fF E) t (c.pos+c.n).toNat L))<=_
  rw[CZ,CZ]
  have ih:=GJ (E:=E) (t:=t) L (c.pos+c.n) (c.pos+c.n).toNat g5 (by omega)
  have hi:nk (fF E c)<=(txt E c.id).length:=by have:=afF (fF E c);rw[pQ]at this;exact this
  have hd:t.drop (c.pos+c.n).toNat=((t.drop f).drop (c.pos.toNat-f)).drop c.n.toNat:=by
   rw[ahn,ahn];congr 1;omega
  have e:nk (t.drop f)=nk ((t.drop f).take (c.pos.toNat-f))+nk ((t.drop f).drop (c.pos.toNat-f)):=by rw[<-CZ,ahr]
  have e2:nk ((t.drop f).drop (c.pos.toNat-f))=nk (((t.drop f).drop (c.pos.toNat-f)).take c.n.toNat)+nk (((t.drop f).drop (c.pos.toNat-f)).drop c.n.toNat):=by rw[<-CZ,ahr]
  rw[hd]at ih
  have e3:dN E (c::L)=(txt E c.id).length+dN E L:=rfl
  rw[e3]
  omega
def abe(n0 B most k:Nat)(E:List En)(W:World)(len:Nat)(p q:List bH)(e:Ending)(w':World):Prop:=
 ∃E' M l v',e=.returned (.tuple #[v',.nilIface])/\aW n0 w' B most E'/\iE E'/\Ext E E'/\E'.length<=E.length+k/\mg W.heap.size w' v' M/\jv l=nG E len p q/\(∀y∈l,0<y.n)/\Col E' len 0 0 l M/\(∀t:List Nat,t.length=len->cO E' t 0 M=cO E (cO E t 0 p) 0 q)/\M.length<=80/\Below n0 W w'/\Ka B W w'
theorem C8{E:List En}{t:List (Nat×Nat)}{a:Nat×Nat}:∀(L:List bH) (f:Nat),a∈iA (fF E) t f L->a∈t\/∃c∈L,a.1=c.id
 | [],_,h=> .inl (aie h)
 |c::L,f,h=>by
  rcases ags.1 h with h|h
  .exact .inl (aie (ahJ h))
  .rcases ags.1 h with h|h
   .obtain⟨k,-,rfl⟩:=agz.1 h
    exact .inr ⟨c,by simp,rfl⟩
   .rcases C8 L _ h with h|⟨d,hd,e⟩
    .exact .inl h
    .exact .inr ⟨d,by simp[hd],e⟩
theorem TP{E:List En}{len Mx:Nat}{p q:List bH}(h40:40<=Mx)(htp:∀c∈p++q,(txt E c.id).length<=40){l:List dL}(hl:jv l=nG E len p q)(hn:∀y∈l,0<y.n):∀y∈l,(txt E y.t).length<=Mx:=by
 intro y hy;have hm:(y.t,y.f)∈jv l:=ah4.2 ⟨y,hy,agz.2 ⟨0,ahN.2 (hn y hy),rfl⟩⟩;rw[hl]at hm;rcases C8 q 0 hm with hm|⟨c,hc,e⟩
 .rcases C8 p 0 hm with hm|⟨c,hc,e⟩
  .obtain⟨k,-,e⟩:=agz.1 hm;have e1:0=y.t:=agC Prod.fst e;rw[<-e1,cZ];simp
  .have e1:y.t=c.id:=e;rw[e1];have:=htp c (by simp[hc]);omega
 .have e1:y.t=c.id:=e;rw[e1];have:=htp c (by simp[hc]);omega
def stX(E:List En)(len:Nat)(p q:List bH):Nat->List (Nat×Nat)
 |0=>gH len
 |1=>iA (fF E) (gH len) 0 p
 |_=>nG E len p q
theorem JH{D Mx:Nat}(hD:GZ D Mx){n0 B most bp bq len:Nat}{W:World}{E:List En}(hs:aW n0 W B most E)(hwf:iE E){vp vq:Value}{p q:List bH}(Y6:mg bp W vp p)(Y7:zZ E p)(hLp:p.length<=12)(Y8:mg bq W vq q)(Y9:zZ E q)(hLq:q.length<=12){n nl:Int}(hp:gK E len p=(n,0))(hq:gK E n q=(nl,0))
    (hM:dN E p+dN E q<=Mx) (WR:40<=Mx) (htp:∀c∈p++q,(txt E c.id).length<=40) (hroom:E.length+80*(bZ D+(3*D+1))<=most) (hE:E.length+80*(bZ D+(3*D+1))<=1048576):
    Calls Tryz.prog 26 #[.pointer (some ⟨B,0,none⟩),.int .i64 (len:Nat),vp,vq] W (abe n0 B most (80*(bZ D+(3*D+1))) E W len p q):=by
 have hE':E.length<=1048576:=by omega
 have hp0:(gK E len p).2=0:=by rw[hp]
 have hq0:(gK E n q).2=0:=by rw[hq]
 obtain⟨o1,o2,o3,o4,o5⟩:=qA hp0;obtain⟨u1,u2,u3,u4,u5⟩:=qA hq0;rw[hp]at o5;rw[hq]at u5;dsimp only at o5 u5;have hlp:=xO (ins:=fF E) (E:=E) (t:=gH len) p (-1) 0 (λc _=>pQ E c) (by rw[jL];exact o3) (by omega) (agb _);rw[jL]at hlp;have hnp:((iA (fF E) (gH len) 0 p).length:Int)=n:=by omega
 have HP:=ak (rR hs hwf.wf hE' Y6 Y7 (by omega) (len:Int));rw[hp,show lS 0=.nilIface from rfl]at HP;have HQ:=ak (λw (hw:Below W.heap.size W w)=>rR (hs.below hw) hwf.wf hE' (Y8.below hw) Y9 (by omega) n);rw[hq,show lS 0=.nilIface from rfl]at HQ;obtain⟨pa,pc,rfl⟩:=Y6.len;obtain⟨qa,qc,rfl⟩:=Y8.len;have hnk:nk (nG E len p q)<=Mx:=by
  have h1:=GJ (E:=E) (t:=gH len) p (-1) 0 o3 (by omega);have h2:=GJ (E:=E) (t:=iA (fF E) (gH len) 0 p) q (-1) 0 u3 (by omega);rw[agj]at h1 h2;have h0:nk (gH len)=0:=by unfold gH;rw[TN];rfl
  unfold nG;omega
 have HST:aA (∀j,j<2->∃vj b L,(#[Value.slice pa p.length pc,Value.slice qa q.length qc]:Array Value)[j]?=some vj/\mg b W vj L/\zZ E L/\L.length<=12/\bC (stX E len p q j).length (-1) L=true/\stX E len p q (j+1)=iA (fF E) (stX E len p q j) 0 L/\(stX E len p q j).length<=1152921504606846976):=ak (λj hj=>by
  match j,hj with
  |0,_=>exact⟨_,bp,p,rfl,Y6,Y7,hLp,by show bC (gH len).length (-1) p=true;rw[jL];exact o3,rfl,by show(gH len).length<=_;rw[jL];omega⟩
  |1,_=>exact⟨_,bq,q,rfl,Y8,Y9,hLq,by show bC (iA (fF E) (gH len) 0 p).length (-1) q=true;rw[hnp];exact u3,rfl,by show(iA (fF E) (gH len) 0 p).length<=_;omega⟩)
 have hMt:∀l:List dL,Gy E len l->True:=λ_ _=>trivial;have HS:=ak hs;have gW:=ak hwf;have HD:=ak hD;have gJ:=ak hs.lt;have jU:=ak (And.intro hroom (And.intro hE (And.intro hE' (And.intro hnk (show len<=1152921504606846976 by omega)))));have HORD:=ak (λ(l:List dL) (h:jv l=nG E len p q) (hn:∀y∈l,0<y.n)=>Jw o3 u3 h hn);have I9:=ak (And.intro htp WR);clear hs hwf Y6 Y7 hLp Y8 Y9 hLq hp hq hM htp WR hroom hE hE' hp0 hq0 o1 o2 o3 o4 o5 u1 u2 u3 u4 u5 hlp hnp hnk hMt hD;go_enter Tryz.func26,Tryz.ntmps26;go_wp2_with fail
 refine HP.o.mono ?_;rintro e w1 ⟨rfl,b1⟩;have B1:=ak b1;clear b1;go_wp2_with fail
 refine(HQ.o w1 B1.o).mono ?_;rintro e w2 ⟨rfl,b2⟩;have B2:=ak (Below.after B1.o b2);clear b2;obtain⟨gp,hgp⟩:=ay (w2.heap.size);obtain⟨w3,hw3⟩:=ay (w2.alloc (.cells #[.int .i64 0,.int .i64 0,.int .i64 (len:Int)] 155));obtain⟨gl,hgl⟩:=ay (w3.heap.size);obtain⟨w4,hw4⟩:=ay (w3.alloc (.cells #[.slice pa p.length pc,.slice qa q.length qc] 62));have b3:Below w2.heap.size w2 w3:=by rw[<-hw3];exact(af6 _ _).alloc (af7 _) _
 have b4:Below w3.heap.size w3 w4:=by rw[<-hw4];exact(af6 _ _).alloc (af7 _) _
 have hP3:nO w2.heap.size w3 (.slice (some ⟨w2.heap.size,0,none⟩) 1 1) [⟨0,0,len⟩]:=by rw[<-hw3];exact abd w2 len
 rw[hgp]at hP3;have B4:=ak (B2.o.trans ((Below.after b3 b4).mono B2.o.size));have HP4:aA (nO W.heap.size w4 (.slice (some ⟨gp,0,none⟩) 1 1) [⟨0,0,len⟩]):=ak (aP.lower (hP3.below b4) (by rw[<-hgp];exact B2.o.size));have HL4:aA (w4.heap[gl]?=some (.cells #[.slice pa p.length pc,.slice qa q.length qc] 62)):=ak (by rw[<-hw4,<-hgl];exact aD _ _);clear b3 b4 hP3;go_wp2_with fail
 clear hw3 hw4 hgp hgl;go_loopw [14,44] (λv c wr=>∃(j:Nat) (l:List dL),j<=2/\c=.int .i64 j/\nO W.heap.size wr v l/\jv l=stX E len p q j/\Gy E len l/\(0<j->∀y∈l,0<y.n)/\l.length<=1+37*j/\Below w4.heap.size w4 wr) (λ_ c _=>2-(intOf c).toNat)
 case atStart=>exact⟨0,[⟨0,0,len⟩],by omega,rfl,HP4.o,by show vY _++[]=_;rw[agi];rfl,λy hy=>by simp at hy;subst hy;exact⟨agb _,rfl,λh=>absurd rfl h,λ_=>by simp⟩,λh=>absurd h (ahh _),by simp,af6 _ _⟩
 obtain⟨j,l,hj,rfl,hl,hex,hq,hpos,hln,hbw⟩:=hrel;obtain⟨la,lc,hlv⟩:=hl.len;obtain⟨ln,TQ⟩:=ay (l.length);rw[TQ]at hlv;subst hlv;have cB:aA (Below W.heap.size W wr):=ak (B4.o.trans (hbw.mono B4.o.size));by_cases hlt:j<2
 .have hlt2:(j:Int)<2:=by omega
  obtain⟨vj,b,L,hvj,hCL,hTL,hLL,YY,hst,hsz⟩:=HST.o j hlt;have hcell:wr.cell? ⟨gl,j,none⟩=some vj:=by
   have:=au hbw HL4.o;simp only[World.cell?,this];simpa using hvj
  obtain⟨va,vc,rfl⟩:=hCL.len;have hdt:=And.intro hTL (And.intro hLL YY);rw[<-hex]at YY hst hsz;have U6:=ak (TH (HS.o.below cB.o) gW.o jU.o.2.2.1 (nO.row hl) hq jU.o.2.2.2.2 (by omega) (hCL.below cB.o) hTL (by omega) YY hsz);unfold TG at U6;rw[<-hst]at U6;have HJ:=ak (And.intro hlt (And.intro hln hLL));have vk:=ak hbw;obtain⟨G,hG⟩:=ay (stX E len p q (j+1));rw[hG]at hst U6;have HG:=ak hG;clear hG;have hlo:W.heap.size<=wr.heap.size:=cB.o.size;clear hl hex hq hpos hln hbw hvj hCL hTL hLL YY hst hsz hdt TQ;go_wp2_with fail
  clear hcell;refine U6.o.mono ?_;rintro e w5 ⟨v5,l5,rfl,hP5,f1,f2,f3,f4,b5⟩;have HX:=ak (And.intro (aP.lower hP5 hlo) (And.intro f1 (And.intro f2 (And.intro f3 (And.intro f4 b5)))));clear hP5 f1 f2 f3 f4 b5 U6;go_wp2_with fail
  go_roundw
  case rel=>
   obtain⟨f0,f1,f2,f3,f4,b5⟩:=HX.o;have:=HJ.o;exact⟨j+1,l5,by omega,by go_num,f0,f1.trans HG.o.symm,f2,λ_=>f3,by omega,vk.o.trans (b5.mono vk.o.size)⟩
  case measure=>have:=HJ.o.1;simp[intOf];omega
 obtain rfl:j=2:=by omega
 have hps:=hpos (by omega);have JI:jv l=nG E len p q:=hex;have hmul:(l.length+1)*(bZ D+(3*D+1))<=80*(bZ D+(3*D+1)):=agY _ (by omega);have hnn:=jU.o;have HCO:=ak (JG HD.o (HS.o.below cB.o) gW.o hl gJ.o cB.o.size hq (HORD.o l JI hps) hnn.2.2.2.2 (by omega) (by rw[NI,JI];exact hnn.2.2.2.1) (TP I9.o.2 I9.o.1 JI hps) (by omega) (by omega));rw[TQ]at HCO;have HF:=ak (And.intro JI (And.intro hps (And.intro hmul hln)));have HRT:aA (∀t:List Nat,t.length=len->zu E t l=cO E (cO E t 0 p) 0 q):=ak (λt ht=>PG (by rw[ht];exact hq) (by rw[ht];exact JI));have oG:=ak TQ;clear hl hex hq hpos hln hbw TQ hps JI hmul hnn hj;go_wp2_with fail
 refine HCO.o.mono ?_;rintro e w5 ⟨E5,M5,v5,rfl,s5,f5,x5,n5,c5,afG,t5,m5,b5,k5⟩;have mh:aA (abe n0 B most (80*(bZ D+(3*D+1))) E W len p q (.returned (.tuple #[v5,.nilIface])) w5):=ak (by
  obtain⟨JI,hps,hmul,hln⟩:=HF.o;have hl:=oG.o;rw[hl]at hmul;exact⟨E5,M5,l,v5,rfl,s5,f5,x5,by omega,aP.lower c5 cB.o.size,JI,hps,afG,λt ht=>by rw[t5 t ht,HRT.o t ht],by omega,(cB.o.mono gJ.o).trans b5,(Ka.of (Kt.of cB.o)).trans k5⟩)
 clear s5 f5 x5 n5 c5 afG t5 m5 b5 k5;go_wp2_with fail
 go_ret2;exact mh.o
end M
end
end Go.Proofs.YtgbhohfabhilgaaGreatDoor
