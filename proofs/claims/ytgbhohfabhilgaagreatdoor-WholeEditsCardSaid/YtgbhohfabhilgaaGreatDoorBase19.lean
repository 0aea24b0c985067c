import Derived.Test.YtgbhohfabhilgaaGreatDoorBase07
import Derived.Test.YtgbhohfabhilgaaGreatDoorBase18
set_option maxRecDepth 100000
set_option maxHeartbeats 8000000
set_option linter.unusedVariables false
set_option linter.unusedSimpArgs false
namespace Go.Proofs.YtgbhohfabhilgaaGreatDoor
section
open Go.RowKit Go.Lib
namespace M
attribute [local go_sem] Oper.semAt_some
variable{E:List En}{K l:List Nat}{F:List Sy}{B g i most n n0:Nat}{X:Nat->Prop}{v:Value}{A C W:World}
structure Gr where
 x:Nat
 t:Nat
def EB(q:Gr):List Value:=[.int .i64 q.x,.int .i64 q.t]
theorem h_(q:Gr):(EB q).length=2:=rfl
abbrev XF(B:Nat)(W:World)(v:Value)(L:List Gr):Prop:=aP B W 282 2 EB v L
theorem R8:Elem Tryz.prog 274 282 2 16:=gP Tryz.underlying274 (z:=.agg #[.int .i64 0,.int .i64 0]) (by kernel_rfl) rfl (by decide) (by decide)
def DU(L:List Gr)(x:Nat):List Gr:=match L.getLast? with
 |none=>[⟨x,1⟩]
 |some q=>if q.x=x then L.dropLast++[⟨x,q.t+1⟩]else L++[⟨x,1⟩]
def jf(l:List Nat):List Gr:=l.foldl DU []
theorem kS(l:List Nat)(x:Nat):jf (l++[x])=DU (jf l) x:=by unfold jf;rw[ai2];rfl
theorem OT(L:List Gr)(x:Nat):∃M t,DU L x=M++[⟨x,t⟩]/\1<=t:=by
 unfold DU;cases L.getLast? with
 |none=>exact⟨[],1,rfl,af7 1⟩
 |some q=>
  by_cases h:q.x=x
  .exact⟨L.dropLast,q.t+1,by simp[h],by omega⟩
  exact⟨L,1,by simp[h],af7 1⟩
theorem OU{x:Nat}:∃M t,jf (l++[x])=M++[⟨x,t⟩]:=by
 rw[kS];obtain⟨M,t,h,-⟩:=OT (jf l) x;exact⟨M,t,h⟩
theorem Cj(l:List Nat):(jf l).length<=l.length/\∀q∈jf l,q.t<=l.length/\1<=q.t:=by
 rcases agR l with rfl|⟨l',x,rfl⟩
 .exact⟨af7 0,λq h=>by cases h⟩
 .rw[agO];obtain⟨h1,h2⟩:=Cj l';rw[kS,af8,agk];unfold DU;cases hq:(jf l').getLast? with
  |none=>exact⟨by simp,λq hm=>by simp at hm;subst hm;exact⟨by show 1<=_;omega,af7 1⟩⟩
  |some q=>
   have hm:=h2 q (ah1 hq);by_cases h:q.x=x
   .simp only[h,ahv];refine⟨by rw[af8,List.length_dropLast,agk];omega,λp hp=>?_⟩;rcases ags.1 hp with hp|hp
    .have:=h2 p (List.dropLast_subset _ hp);omega
    .rw[agl.1 hp];exact⟨by show q.t+1<=_;omega,by show 1<=q.t+1;omega⟩
   .simp only[h,ahu];refine⟨by rw[af8,agk];omega,λp hp=>?_⟩;rcases ags.1 hp with hp|hp
    .have:=h2 p hp;omega
    .rw[agl.1 hp];exact⟨by show 1<=_;omega,af7 1⟩
termination_by l.length
decreasing_by simp_all
def RdN(W:World)(v:Value)(l:List Nat):Prop:=∃a c,v=.slice a l.length c/\∀(W':World),Below W.heap.size W W'->∀i (hi:i<l.length),∃g,a=some ⟨g,0,none⟩/\W'.cell? ⟨g,i,none⟩=some (.int .i64 l[i])
theorem R9(hl:RdN W v l)(hlen:l.length<=1048576):
    Calls Tryz.prog 170 #[v] W λe w'=>∃v',e=.returned v'/\XF W.heap.size w' v' (jf l)/\Below W.heap.size W w':=by
 obtain⟨a,c,rfl,hc⟩:=hl;obtain⟨n,hn⟩:=ay (l.length);have HC:=ak hc;have HN:=ak hn;have HL:=ak hlen;rw[hn];have hn2:n<=1048576:=by omega
 clear hc hn hlen;go_enter Tryz.func170,Tryz.ntmps170;go_wp2_with fail
 go_loopw [3,8] (λrv iv wr=>∃i:Nat,iv=.int .i64 i/\i<=n/\XF W.heap.size wr rv (jf (l.take i))/\Below W.heap.size W wr) (λ_ iv _=>n-(intOf iv).toNat)
 case atStart=>exact⟨0,rfl,agb _,aP.nil _ _ _ _ _,af6 _ _⟩
 obtain⟨i,rfl,hi,hG,hb⟩:=hrel;by_cases hin:i<n
 .have hi1:(i:Int)<(n:Int):=by omega
  have hi0:(0:Int)<=(i:Int):=by omega
  have hil:i<l.length:=by rw[HN.o];exact hin
  obtain⟨g,rfl,c0⟩:=HC.o wr hb i hil;obtain⟨x,hx⟩:=ay (l[i]);rw[hx]at c0;have htk:l.take (i+1)=l.take i++[x]:=by rw[<-hx,ah7 hil]
  obtain⟨ga,gc,rfl⟩:=hG.len;have hgl:=Cj (l.take i);rw[agB]at hgl;by_cases h0:i=0
  .have z0:((i:Int)==0)=true:=by simp[h0]
   have H0:=ak h0;clear h0;have HG:=ak hG;have XG:=ak hb;have I6:=ak hgl;obtain⟨m,hm⟩:=ay ((jf (l.take i)).length);have yV:=ak hm;rw[hm]at HG⊢;have hbs:W.heap.size<=wr.heap.size:=hb.size;have Ck:aA (jf (l.take (i+1))=jf (l.take i)++[⟨x,1⟩]):=ak (by
    rw[htk,kS];unfold DU;cases hq:(jf (l.take i)).getLast? with
    |none=>rw[aji.1 hq];rfl
    |some q=>
     have:q.x≠x:=(by rw[H0.o]at hq;cases hq);simp[this])
   clear hG hb hgl hm htk;go_wp2_with (first
    | (at_builtin;refine bP (v:=.slice ga m gc) R8 h_ rfl _ _ rfl rfl HG.o ⟨x,0⟩ rfl rfl ?c1 ?c2 hbs ?_))
   case c1=>simp[EB,Value.oneCell']
   case c2=>rw[yV.o];have:=I6.o.1;have:=yV.o;omega
   intro v5 w5 hS5 hg5 hb5;obtain⟨a5,cap,rfl⟩:=hS5.len;have xB:(jf (l.take i)++[(⟨x,0⟩:Gr)]).length=m+1:=by rw[af8,agk,yV.o]
   rw[xB]at hS5⊢;obtain⟨gg,rfl⟩:∃g,a5=some ⟨g,0,none⟩:=by
    rcases hS5.shape with⟨-,h⟩|⟨g,c,h,-⟩
    .simp at h
    simp only[agn]at h;exact⟨g,h.1⟩
   obtain⟨M,hMM⟩:=ay (jf (l.take i));rw[hMM]at hS5 yV Ck;obtain⟨t,ht⟩:∃t:Nat,t=0:=⟨0,rfl⟩;have HS:aA (XF W.heap.size w5 (.slice (some ⟨gg,0,none⟩) (m+1) cap) (M++[⟨x,t⟩])):=ak (by rw[ht];exact hS5);have HM:aA (M.length=m):=yV;have HB:=ak (XG.o.trans hb5);have R_:aA (jf (l.take (i+1))=M++[⟨x,t+1⟩]):=ak (by rw[ht];exact Ck.o);have HT:aA (t<=1048576):=ak (by omega);have I6:aA (m<=1048576/\True):=ak ⟨by have:=I6.o.1;rw[hMM,yV.o]at this;omega,trivial⟩;clear hS5 hg5 hb5 xB hMM ht XG HG yV Ck;have kM:m<=1048576:=I6.o.1;obtain⟨tb,XH⟩:=ay (t+1);have p0:=aP.cell h_ HS.o (i:=m) (by rw[af8,agk,HM.o];omega) (j:=1) (by omega);rw[show(M++[(⟨x,t⟩:Gr)])[m]'(by rw[af8,agk,HM.o];omega)=⟨x,t⟩ by simp[<-HM.o]]at p0;replace p0:w5.cell? ⟨gg,m*2+1,none⟩=some (.int .i64 (t:Int)):=p0;obtain⟨-,hgb,hfr⟩:=aP.free HS.o;have pf:=hfr (m*2+1);obtain⟨w9,dI⟩:=ay (w5.setCell ⟨gg,m*2+1,none⟩ (.int .i64 (tb:Int)));have J5:aA (XF W.heap.size w9 (.slice (some ⟨gg,0,none⟩) (m+1) cap) (M++[⟨x,tb⟩])):=ak (by
    rw[<-dI,<-HM.o];have h:=HS.o;rw[<-HM.o]at h;exact aP.put h_ (b:=⟨x,tb⟩) h (j:=1) (by omega) rfl)
   have HB9:aA (Below W.heap.size W w9):=ak (by rw[<-dI];exact HB.o.setCell (p:=⟨gg,m*2+1,none⟩) hgb _);have u1:(m:Int)<((m+1:Nat):Int):=by omega
   have u0:(0:Int)<=(m:Int):=by omega
   have u2:IntKind.i64.wrap (((m+1:Nat):Int)-1)=(m:Int):=by rw[agd];omega
   have u3:(t:Int)+1=(tb:Int):=by omega
   have u4:tb<=1048577:=by have:=HT.o;omega
   have Sa:=R_.o;rw[XH]at Sa;have Sb:=ak Sa;clear Sa XH hfr hgb;go_wp2_with fail
   clear dI p0 pf;go_roundw
   case rel=>exact⟨i+1,by go_num,by omega,by rw[Sb.o];exact J5.o,HB9.o⟩
   case measure=>simp[intOf];omega
  have z0:((i:Int)==0)=false:=agh.2 (by omega);obtain⟨p,hp⟩:=ay (i-1);have hpi:(i:Int)-1=(p:Int):=by omega
  have hp0:(0:Int)<=(p:Int):=by omega
  have hpn:(p:Int)<(n:Int):=by omega
  have hpl:p<l.length:=by omega
  obtain⟨g',e',c1⟩:=HC.o wr hb p hpl;cases e';obtain⟨y,hy⟩:=ay (l[p]);rw[hy]at c1;have htp:l.take i=l.take p++[y]:=by rw[show i=p+1 by omega,<-hy,ah7 hpl]
  obtain⟨M0,t0,hM0⟩:=OU (l:=l.take p) (x:=y);rw[<-htp]at hM0;clear htp;clear hp hpl hy;by_cases hxy:y=x
  case' _=>
   subst hxy;have z1:((y:Int) !=(y:Int))=false:=by simp
   obtain⟨m,hm⟩:=ay (M0.length);have hG2:=hG;have xB:(M0++[(⟨y,t0⟩:Gr)]).length=m+1:=by rw[af8,agk,hm]
   rw[hM0]at hG2⊢;have Sc:=hgl;rw[hM0]at Sc;rw[xB]at hG2 Sc⊢;obtain⟨gg,rfl⟩:∃g,ga=some ⟨g,0,none⟩:=by
    rcases hG2.shape with⟨-,h⟩|⟨g,c,h,-⟩
    .simp at h
    simp only[agn]at h;exact⟨g,h.1⟩
   have HS:aA (XF W.heap.size wr (.slice (some ⟨gg,0,none⟩) (m+1) gc) (M0++[⟨y,t0⟩])):=ak hG2;have HM:=ak hm;have HB:=ak hb;have R_:aA (jf (l.take (i+1))=M0++[⟨y,t0+1⟩]):=ak (by rw[htk,kS,hM0];unfold DU;simp);have HT:aA (t0<=1048576):=ak (by have:=(Sc.2 ⟨y,t0⟩ (by simp)).1;simp only at this;omega);have I6:aA (m<=1048576/\True):=ak ⟨by have:=Sc.1;omega,trivial⟩;clear hG hG2 hgl Sc hb htk hM0 hm xB;have kM:m<=1048576:=I6.o.1;obtain⟨tb,XH⟩:=ay (t0+1);have p0:=aP.cell h_ HS.o (i:=m) (by rw[af8,agk,HM.o];omega) (j:=1) (by omega);rw[show(M0++[(⟨y,t0⟩:Gr)])[m]'(by rw[af8,agk,HM.o];omega)=⟨y,t0⟩ by simp[<-HM.o]]at p0;replace p0:wr.cell? ⟨gg,m*2+1,none⟩=some (.int .i64 (t0:Int)):=p0;obtain⟨-,hgb,hfr⟩:=aP.free HS.o;have pf:=hfr (m*2+1);obtain⟨w9,dI⟩:=ay (wr.setCell ⟨gg,m*2+1,none⟩ (.int .i64 (tb:Int)));have J5:aA (XF W.heap.size w9 (.slice (some ⟨gg,0,none⟩) (m+1) gc) (M0++[⟨y,tb⟩])):=ak (by
    rw[<-dI,<-HM.o];have h:=HS.o;rw[<-HM.o]at h;exact aP.put h_ (b:=⟨y,tb⟩) h (j:=1) (by omega) rfl)
   have HB9:aA (Below W.heap.size W w9):=ak (by rw[<-dI];exact HB.o.setCell (p:=⟨gg,m*2+1,none⟩) hgb _);have u1:(m:Int)<((m+1:Nat):Int):=by omega
   have u0:(0:Int)<=(m:Int):=by omega
   have u2:IntKind.i64.wrap (((m+1:Nat):Int)-1)=(m:Int):=by rw[agd];omega
   have u3:(t0:Int)+1=(tb:Int):=by omega
  rotate_left
  case' _=>
   have z1:((y:Int) !=(x:Int))=true:=by simp;omega
   have tJ:=ak hM0;have Qb:=ak hxy;clear hM0 hxy;have HG:=ak hG;have XG:=ak hb;have I6:=ak hgl;obtain⟨m,hm⟩:=ay ((jf (l.take i)).length);have yV:=ak hm;rw[hm]at HG⊢;have hbs:W.heap.size<=wr.heap.size:=hb.size;have Ck:aA (jf (l.take (i+1))=jf (l.take i)++[⟨x,1⟩]):=ak (by
    rw[htk,kS];unfold DU;cases hq:(jf (l.take i)).getLast? with
    |none=>rw[aji.1 hq];rfl
    |some q=>
     have:q.x≠x:=(by rw[tJ.o]at hq;simp at hq;rw[<-hq];exact Qb.o);simp[this])
   clear hG hb hgl hm htk;go_wp2_with (first
    | (at_builtin;refine bP (v:=.slice ga m gc) R8 h_ rfl _ _ rfl rfl HG.o ⟨x,0⟩ rfl rfl ?c1 ?c2 hbs ?_))
   case c1=>simp[EB,Value.oneCell']
   case c2=>rw[yV.o];have:=I6.o.1;have:=yV.o;omega
   intro v5 w5 hS5 hg5 hb5;obtain⟨a5,cap,rfl⟩:=hS5.len;have xB:(jf (l.take i)++[(⟨x,0⟩:Gr)]).length=m+1:=by rw[af8,agk,yV.o]
   rw[xB]at hS5⊢;obtain⟨gg,rfl⟩:∃g,a5=some ⟨g,0,none⟩:=by
    rcases hS5.shape with⟨-,h⟩|⟨g,c,h,-⟩
    .simp at h
    simp only[agn]at h;exact⟨g,h.1⟩
   obtain⟨M,hMM⟩:=ay (jf (l.take i));rw[hMM]at hS5 yV Ck;obtain⟨t,ht⟩:∃t:Nat,t=0:=⟨0,rfl⟩;have HS:aA (XF W.heap.size w5 (.slice (some ⟨gg,0,none⟩) (m+1) cap) (M++[⟨x,t⟩])):=ak (by rw[ht];exact hS5);have HM:aA (M.length=m):=yV;have HB:=ak (XG.o.trans hb5);have R_:aA (jf (l.take (i+1))=M++[⟨x,t+1⟩]):=ak (by rw[ht];exact Ck.o);have HT:aA (t<=1048576):=ak (by omega);have I6:aA (m<=1048576/\True):=ak ⟨by have:=I6.o.1;rw[hMM,yV.o]at this;omega,trivial⟩;clear hS5 hg5 hb5 xB hMM ht XG HG yV Ck;have kM:m<=1048576:=I6.o.1;obtain⟨tb,XH⟩:=ay (t+1);have p0:=aP.cell h_ HS.o (i:=m) (by rw[af8,agk,HM.o];omega) (j:=1) (by omega);rw[show(M++[(⟨x,t⟩:Gr)])[m]'(by rw[af8,agk,HM.o];omega)=⟨x,t⟩ by simp[<-HM.o]]at p0;replace p0:w5.cell? ⟨gg,m*2+1,none⟩=some (.int .i64 (t:Int)):=p0;obtain⟨-,hgb,hfr⟩:=aP.free HS.o;have pf:=hfr (m*2+1);obtain⟨w9,dI⟩:=ay (w5.setCell ⟨gg,m*2+1,none⟩ (.int .i64 (tb:Int)));have J5:aA (XF W.heap.size w9 (.slice (some ⟨gg,0,none⟩) (m+1) cap) (M++[⟨x,tb⟩])):=ak (by
    rw[<-dI,<-HM.o];have h:=HS.o;rw[<-HM.o]at h;exact aP.put h_ (b:=⟨x,tb⟩) h (j:=1) (by omega) rfl)
   have HB9:aA (Below W.heap.size W w9):=ak (by rw[<-dI];exact HB.o.setCell (p:=⟨gg,m*2+1,none⟩) hgb _);have u1:(m:Int)<((m+1:Nat):Int):=by omega
   have u0:(0:Int)<=(m:Int):=by omega
   have u2:IntKind.i64.wrap (((m+1:Nat):Int)-1)=(m:Int):=by rw[agd];omega
   have u3:(t:Int)+1=(tb:Int):=by omega
  all_goals
   have u4:tb<=1048577:=by have:=HT.o;omega
   have Sa:=R_.o;rw[XH]at Sa;have Sb:=ak Sa;clear Sa XH hfr hgb;go_wp2_with fail
   clear dI p0 pf;go_roundw
   case rel=>exact⟨i+1,by go_num,by omega,by rw[Sb.o];exact J5.o,HB9.o⟩
   case measure=>simp[intOf];omega
 have hin':n=i:=by omega
 subst hin';obtain⟨ga,gc,rfl⟩:=hG.len;have HG:=ak hG;have HB:=ak hb;have htk:l.take n=l:=by rw[<-HN.o,ahe]
 rw[htk]at HG⊢;clear hG hb;go_wp2_with fail
 go_ret;exact⟨_,rfl,HG.o,HB.o⟩
def XI(W:World)(v:Value)(l:List Nat):Prop:=∃a c,v=.slice a l.length c/\∀(W':World),Below W.heap.size W W'->∀i (hi:i<l.length),∃g,a=some ⟨g,0,none⟩/\W'.cell? ⟨g,i,none⟩=some (.int .u64 l[i])
theorem XI.below{w:World}(h:XI W v l)(hb:Below W.heap.size W w):XI w v l:=by
 obtain⟨a,c,e,h1⟩:=h
 exact⟨a,c,e,λW' hw i hi=>h1 W' (Below.after hb hw) i hi⟩
def Nl(q:Nat×Nat):List Value:=[.int .i64 q.1,.int .i64 q.2]
theorem tX(q:Nat×Nat):(Nl q).length=2:=rfl
abbrev Sqs(B:Nat)(W:World)(v:Value)(L:List (Nat×Nat)):Prop:=aP B W 318 2 Nl v L
theorem Sg:Elem Tryz.prog 315 318 2 16:=gP Tryz.underlying315 (z:=.agg #[.int .i64 0,.int .i64 0]) (by kernel_rfl) rfl (by decide) (by decide)
theorem DV(hl:XI W v l)(hlen:l.length<=1048576):
    Calls Tryz.prog 206 #[v] W λe w'=>∃v',e=.returned v'/\Sqs W.heap.size w' v' (kg l 0 0)/\Below W.heap.size W w':=by
 have HF:∀f,Fence.wide.fn f:=λ_=>trivial
 obtain⟨a,c,rfl,hc⟩:=hl
 obtain⟨n,hn⟩:=ay (l.length)
 have HC:=ak hc;have HN:=ak hn
 have HSL:=ak (xC l 0 0)
 have hn2:n<=1048576:=by omega
 rw[hn]at HSL⊢
 obtain⟨F,hF⟩:=ay (kg l 0 0)
 rw[hF]at HSL⊢
 have lN:=ak hF
 clear hc hn hlen hF
 go_enter Tryz.func206,Tryz.ntmps206
 go_wp2_with fail
 go_loopw [3,4,9] (λrv sv iv wr=>∃(i s:Nat) (L:List (Nat×Nat)),iv=.int .i64 i/\sv=.int .i64 s/\i<=n/\s<=i/\Sqs W.heap.size wr rv L/\L++kg (l.drop i) i s=F/\Below W.heap.size W wr) (λ_ _ iv _=>n-(intOf iv).toNat)
 case atStart=>exact⟨0,0,[],rfl,rfl,agb _,af7 _,aP.nil _ _ _ _ _,by rw[agj,agH];exact lN.o,af6 _ _⟩
 case round=>
  obtain⟨i,s,L,rfl,rfl,hi,hsi,hG,hLF,hb⟩:=hrel
  by_cases hin:i<n
  .have hi1:(i:Int)<(n:Int):=by omega
   have hi0:(0:Int)<=(i:Int):=by omega
   have hil:i<l.length:=by rw[HN.o];exact hin
   obtain⟨i2,hi2⟩:=ay (i+1)
   obtain⟨x,hx⟩:=ay (l[i])
   have hdr:l.drop i=x::l.drop i2:=by rw[<-hx,<-hi2,ahc hil]
   obtain⟨g,rfl,-⟩:=HC.o wr hb i hil
   have c0:∀w,Below wr.heap.size wr w->w.cell? ⟨g,i,none⟩=some (.int .u64 x):=λw hw=>by
    obtain⟨g',e',h⟩:=HC.o w (hb.trans (hw.mono hb.size)) i hil
    cases e'
    rw[hx]at h;exact h
   have q1:IntKind.i64.wrap ((i:Int)+1)=(i2:Int):=by rw[agd];omega
   have q2:(i:Int)+1=(i2:Int):=by omega
   have q4:IntKind.i64.wrap (i2:Int)=(i2:Int):=by rw[agd];omega
   have q3:(0:Int)<=(i2:Int):=by omega
   obtain⟨La,Lc,rfl⟩:=hG.len
   have hLl:L.length<=1048576:=by
    have:=agC List.length hLF
    rw[af8]at this
    have:=HSL.o
    omega
   have HG:=ak hG;have HB:=ak hb;have HLF:=ak hLF;have HDR:=ak hdr;have HI2:=ak hi2
   have H6:=ak hLl
   have OX:=ak (And.intro hi (And.intro hsi hin))
   have hbs:W.heap.size<=wr.heap.size:=hb.size
   by_cases hlast:i2<n
   .have hl2:(i2:Int)<(n:Int):=by omega
    have hl2':decide ((i2:Int)<(n:Int))=true:=agw hl2
    have hl2n:decide (i2<n)=true:=agw hlast
    have Jb:i2<l.length:=by rw[HN.o];exact hlast
    obtain⟨y,hy⟩:=ay (l[i2])
    have c1:∀w,Below wr.heap.size wr w->w.cell? ⟨g,i2,none⟩=some (.int .u64 y):=λw hw=>by
     obtain⟨g',e',h⟩:=HC.o w (HB.o.trans (hw.mono HB.o.size)) i2 Jb
     cases e'
     rw[hy]at h;exact h
    have hhd:(l.drop i2).head?=some y:=by rw[ahc Jb,hy];rfl
    have AL:=ak hhd
    clear hx hdr hG hLF hb hi2 hLl hy Jb hil hhd
    by_cases hyx:y=x
    case' _=>
     have e1:((y:Int)==(x:Int))=true:=by simp[hyx]
     have jW:aA (L++kg (l.drop i2) i2 s=F):=ak (by
      have h:=HLF.o
      rw[HDR.o]at h
      unfold kg at h
      rw[af5 (by rw[AL.o,hyx]),HI2.o]at h
      exact h)
    rotate_left
    case' _=>
     have e1:((y:Int)==(x:Int))=false:=agh.2 (by omega)
     have xu:aA (¬(l.drop i2).head?=some x):=ak (by rw[AL.o];simpa using hyx)
    rotate_left
    all_goals
     clear hyx
     go_wp2_with fail
     refine aU (Below wr.heap.size wr) ?_
     have S0:Below wr.heap.size wr wr.drew:=(af6 _ _).drew
     refine bJ 0 1 2 3 4 5 ?_
     refine bJ 6 7 8 9 10 11 ?_
     refine zD 12 13 14 15 16 ?_
     refine aO ?_
     obtain⟨w5,eH⟩:=ay (wr.drew)
     rw[eH]at S0⊢
     have xY:=ak (HG.o.below S0);have mG:=ak (HB.o.trans (S0.mono hbs))
     clear S0 eH
     clear c0 c1
    .go_wp2_with fail
     go_roundw
     case rel=>exact⟨i2,s,L,by go_num,rfl,by have:=OX.o;have:=HI2.o;omega,by have:=OX.o;have:=HI2.o;omega,xY.o,jW.o,mG.o⟩
     case measure=>have:=OX.o;have:=HI2.o;simp[intOf];omega
    .obtain⟨m,hm⟩:=ay (i2-s)
     have u1:(i2:Int)-(s:Int)=(m:Int):=by have:=OX.o;have:=HI2.o;omega
     have oh:aA (L++(if m>1 then[(s,m)]else[])++kg (l.drop i2) i2 i2=F):=ak (by
      have h:=HLF.o
      rw[HDR.o]at h
      unfold kg at h
      rw[af4 xu.o,HI2.o,hm,<-agf]at h
      exact h)
     have HM:=ak hm
     clear hm
     by_cases hm1:m>1
     .have u2:(m:Int)>1:=by omega
      have Si:W.heap.size<=w5.heap.size:=mG.o.size
      have j_:aA ((L++[(s,m)])++kg (l.drop i2) i2 i2=F):=ak (by have h:=oh.o;rw[af5 hm1]at h;exact h)
      go_wp2_with (first
       | (at_builtin;refine bP (v:=.slice La L.length Lc) Sg tX rfl _ _ rfl rfl xY.o (s,m) rfl rfl ?c1 ?c2 Si ?_))
      case c1=>simp[Nl,Value.oneCell']
      case c2=>have:=H6.o;omega
      intro v6 w6 G7 lu hb6
      have xX:=ak G7;have zH:=ak (mG.o.trans hb6)
      clear G7 lu hb6 Si
      go_wp2_with fail
      go_roundw
      case rel=>exact⟨i2,i2,L++[(s,m)],by go_num,by go_num,by have:=OX.o;have:=HI2.o;omega,af7 _,xX.o,j_.o,zH.o⟩
      case measure=>have:=OX.o;have:=HI2.o;simp[intOf];omega
     .have u2:¬(m:Int)>1:=by omega
      have j_:aA (L++kg (l.drop i2) i2 i2=F):=ak (by have h:=oh.o;rw[af4 hm1,agi]at h;exact h)
      go_wp2_with fail
      go_roundw
      case rel=>exact⟨i2,i2,L,by go_num,by go_num,by have:=OX.o;have:=HI2.o;omega,af7 _,xY.o,j_.o,mG.o⟩
      case measure=>have:=OX.o;have:=HI2.o;simp[intOf];omega
   .have hl2:¬(i2:Int)<(n:Int):=by omega
    have hl2':decide ((i2:Int)<(n:Int))=false:=agD hl2
    have hl2n:decide (i2<n)=false:=agD hlast
    have xu:aA (¬(l.drop i2).head?=some x):=ak (by rw[ag9 (by rw[HN.o];omega)];simp)
    clear hx hdr hG hLF hb hi2 hLl hil
    go_wp2_with fail
    refine aU (Below wr.heap.size wr) ?_
    have S0:Below wr.heap.size wr wr.drew:=(af6 _ _).drew
    refine bJ 0 1 2 3 4 5 ?_
    refine aJ.sk 6 ?_
    refine aJ.sk 7 ?_
    refine aJ.sk 8 ?_
    refine aJ.sk 9 ?_
    refine aJ.sk 10 ?_
    refine aJ.sk 11 ?_
    refine aJ.sk 12 ?_
    refine aJ.sk 13 ?_
    refine aJ.sk 14 ?_
    refine aJ.sk 15 ?_
    refine tk1 16 ?_
    refine aO ?_
    obtain⟨w5,eH⟩:=ay (wr.drew)
    rw[eH]at S0⊢
    have xY:=ak (HG.o.below S0);have mG:=ak (HB.o.trans (S0.mono hbs))
    clear S0 eH
    clear c0
    obtain⟨m,hm⟩:=ay (i2-s)
    have u1:(i2:Int)-(s:Int)=(m:Int):=by have:=OX.o;have:=HI2.o;omega
    have oh:aA (L++(if m>1 then[(s,m)]else[])++kg (l.drop i2) i2 i2=F):=ak (by
     have h:=HLF.o
     rw[HDR.o]at h
     unfold kg at h
     rw[af4 xu.o,HI2.o,hm,<-agf]at h
     exact h)
    have HM:=ak hm
    clear hm
    by_cases hm1:m>1
    .have u2:(m:Int)>1:=by omega
     have Si:W.heap.size<=w5.heap.size:=mG.o.size
     have j_:aA ((L++[(s,m)])++kg (l.drop i2) i2 i2=F):=ak (by have h:=oh.o;rw[af5 hm1]at h;exact h)
     go_wp2_with (first
      | (at_builtin;refine bP (v:=.slice La L.length Lc) Sg tX rfl _ _ rfl rfl xY.o (s,m) rfl rfl ?c1 ?c2 Si ?_))
     case c1=>simp[Nl,Value.oneCell']
     case c2=>have:=H6.o;omega
     intro v6 w6 G7 lu hb6
     have xX:=ak G7;have zH:=ak (mG.o.trans hb6)
     clear G7 lu hb6 Si
     go_wp2_with fail
     go_roundw
     case rel=>exact⟨i2,i2,L++[(s,m)],by go_num,by go_num,by have:=OX.o;have:=HI2.o;omega,af7 _,xX.o,j_.o,zH.o⟩
     case measure=>have:=OX.o;have:=HI2.o;simp[intOf];omega
    .have u2:¬(m:Int)>1:=by omega
     have j_:aA (L++kg (l.drop i2) i2 i2=F):=ak (by have h:=oh.o;rw[af4 hm1,agi]at h;exact h)
     go_wp2_with fail
     go_roundw
     case rel=>exact⟨i2,i2,L,by go_num,by go_num,by have:=OX.o;have:=HI2.o;omega,af7 _,xY.o,j_.o,mG.o⟩
     case measure=>have:=OX.o;have:=HI2.o;simp[intOf];omega
  .have hin':n=i:=by omega
   subst hin'
   obtain⟨ga,gc,rfl⟩:=hG.len
   have HG:=ak hG;have HB:=ak hb
   have e:L=F:=by
    rw[<-hLF,ag9 (by rw[HN.o];exact af7 _)];simp[kg]
   subst e
   clear hG hb hLF
   go_wp2_with fail
   go_ret
   exact⟨_,rfl,HG.o,HB.o⟩
theorem qF(p:Nat×Nat):(Af p).length=p.2/2:=by simp[Af]
theorem VA(p:Nat×Nat){j:Nat}(hj:j<p.2/2):(Af p)[j]'(by rw[qF];exact hj)=p.1+2*j:=by simp[Af]
theorem xE(f:Nat->Nat->Bool):∀(o:Nat) (K:List Nat),(tV f o K).length<=K.length/\∀p∈tV f o K,o<=p/\p+2<=o+K.length
 |_,[]=>⟨af7 0,λp h=>by cases h⟩
 |_,[_]=>⟨agb _,λp h=>by cases h⟩
 |o,x::y::t=>by
  have h1:=xE f (o+2) t
  have h2:=xE f (o+1) (y::t)
  rw[qE]
  simp only[agc]at h2⊢
  cases f x y with
  |true=>
   simp only[ahv,agc]
   refine⟨by omega,λp hp=>?_⟩
   rcases agm.1 hp with rfl|hp
   .omega
   .have:=h1.2 p hp;omega
  |false=>
   simp only[aii,ahu]
   exact⟨by omega,λp hp=>by have:=h2.2 p hp;omega⟩
theorem VB:∀(S:List (Nat×Nat)) (i:Nat),((S.take i).flatMap Af).length<=(S.flatMap Af).length
 |S,i=>by
  conv=>rhs;rw[<-ahr i S]
  rw[ag_,af8];omega
def Ut(W:World)(g:Nat)(q:Nat×Nat):Prop:=W.heap[g]?=some (.cells #[.int .i64 q.1,.int .i64 q.2] 318 (0,0))
theorem Ut.cells{q:Nat×Nat}(h:Ut W g q):W.cell? ⟨g,0,none⟩=some (.int .i64 q.1)/\W.cell? ⟨g,1,none⟩=some (.int .i64 q.2):=by
 unfold Ut at h
 simp[World.cell?,h]
theorem Ut.free{q:Nat×Nat}(h:Ut W g q)(i:Nat):W.frozen? ⟨g,i,none⟩=false:=by
 unfold Ut at h
 simp[World.frozen?,h]
theorem adf(w:World)(q:Nat×Nat):∃wz w2,w.alloc (.cells #[.int .i64 0,.int .i64 0] 318)=wz/\
    (wz.setCell ⟨w.heap.size,0,none⟩ (.int .i64 q.1)).setCell ⟨w.heap.size,1,none⟩ (.int .i64 q.2)=w2/\
    Ut w2 w.heap.size q/\Below w.heap.size w w2/\(wz.cell? ⟨w.heap.size,0,none⟩=some (.int .i64 0)/\wz.cell? ⟨w.heap.size,1,none⟩=some (.int .i64 0))/\
    (wz.frozen? ⟨w.heap.size,0,none⟩=false/\wz.frozen? ⟨w.heap.size,1,none⟩=false):=by
 have k0:Ut (w.alloc (.cells #[.int .i64 0,.int .i64 0] 318)) w.heap.size (0,0):=aD _ _
 have b0:Below w.heap.size w (w.alloc (.cells #[.int .i64 0,.int .i64 0] 318)):=(af6 _ _).alloc (af7 _) _
 exact⟨_,_,rfl,rfl,aC _ (aC _ k0),(b0.setCell (p:=⟨w.heap.size,0,none⟩) (af7 _) _).setCell (p:=⟨w.heap.size,1,none⟩) (af7 _) _,k0.cells,k0.free 0,k0.free 1⟩
theorem OY(hl:XI W v K)(hlen:K.length<=1048576)(ht:f_ n=true)(hn:n<=1099511627776):
    Calls Tryz.prog 172 #[v,.int .i64 n] W λe w'=>∃v',e=.returned v'/\P6 W.heap.size w' v' (tV (fits n) 0 K)/\Below W.heap.size W w':=by
 have hgp:tV (fits n) 0 K=(kg K 0 0).flatMap Af:=by rw[OV];exact yX (λx y=>OW ht x y) 0 K
 have hNB:=ak (λw=>uR w n (by omega))
 have hnb:Au n=(0,0,true):=by
  unfold f_ at ht
  obtain⟨h1,h2,h3⟩:=ahz ht
  unfold Au xV
  rw[af4 (show ¬(n<2\/n%2=1) by omega)]
  simp[h3]
 rw[hnb]at hNB
 have hne:2<=n/\n%2=0:=by
  unfold f_ at ht
  obtain⟨h1,h2,h3⟩:=ahz ht
  exact⟨h2,h1⟩
 have n1:¬(n:Int)<2:=by omega
 have n2:(n:Int)%2=0:=by omega
 have HST:=ak (λw (hw:Below W.heap.size W w)=>DV (hl.below hw) hlen)
 have G5:=ak (xE (fits n) 0 K)
 have I5:=ak (vw K 0 0 (af7 0))
 have HSL:=ak (xC K 0 0)
 obtain⟨a,c,rfl,-⟩:=hl
 rw[hgp]at G5⊢
 obtain⟨S,hS⟩:=ay (kg K 0 0)
 rw[hS]at HST G5 I5 HSL⊢
 have HLEN:=ak hlen
 obtain⟨kl,hkl⟩:=ay (K.length)
 rw[hkl]at HST G5 I5 HSL HLEN⊢
 clear hgp hnb hne ht hn hS hlen hkl
 go_enter Tryz.func172,Tryz.ntmps172
 go_wp2_with fail
 refine(hNB.o W).mono ?_;rintro e w ⟨rfl,h⟩;rw[h];clear h w
 go_wp2_with fail
 refine(HST.o W (af6 _ _)).mono ?_
 rintro e w1 ⟨v1,rfl,hS1,b1⟩
 obtain⟨sa,sc,rfl⟩:=hS1.len
 have j_:=ak hS1;have HB1:=ak b1
 clear hS1 b1 HST hNB
 go_wp2_with fail
 go_loopw [5,30] (λrv iv wr=>∃(i:Nat) (P:List Nat),iv=.int .i64 i/\i<=S.length/\P=(S.take i).flatMap Af/\P6 W.heap.size wr rv P/\Sqs W.heap.size wr (.slice sa S.length sc) S/\Below W.heap.size W wr) (λ_ iv _=>S.length-(intOf iv).toNat)
 case atStart=>exact⟨0,[],rfl,agb _,rfl,aP.nil _ _ _ _ _,j_.o,HB1.o⟩
 case round=>
  obtain⟨i,P,rfl,hi,hPe,hP,hst,hb⟩:=hrel
  obtain⟨pa,pc,rfl⟩:=hP.len
  have Um:=ak hPe;have HP:=ak hP;have HB:=ak hb;have HS2:=ak hst
  clear hPe hP hb hst
  by_cases hin:i<S.length
  .have hi1:(i:Int)<(S.length:Int):=by omega
   have hi0:(0:Int)<=(i:Int):=by omega
   obtain⟨p,hp⟩:=ay (S[i])
   have Uu:aA (S.take (i+1)=S.take i++[p]):=ak (by rw[<-hp,ah7 hin])
   have hbd:=I5.o p (by rw[<-hp];exact ag0 hin)
   obtain⟨ps,pn⟩:=p
   have adg:ps+pn<=kl/\2<=pn:=by have:=hbd.2.1;have:=hbd.2.2;simp only at *;omega
   have hsl:=HS2.o.shape
   obtain⟨gs,rfl⟩:∃g,sa=some ⟨g,0,none⟩:=by
    rcases hsl with⟨-,h⟩|⟨g,c,h,-⟩
    .rw[h]at hin;simp at hin
    .simp only[agn]at h;exact⟨g,h.1⟩
   have c0:=aP.cell tX HS2.o hin (j:=0) (by omega)
   have c1:=aP.cell tX HS2.o hin (j:=1) (by omega)
   rw[hp]at c0 c1
   replace c0:wr.cell? ⟨gs,i*2,none⟩=some (.int .i64 (ps:Int)):=c0
   replace c1:wr.cell? ⟨gs,i*2+1,none⟩=some (.int .i64 (pn:Int)):=c1
   have hsl2:S.length<=1048576:=af9 HSL.o HLEN.o
   have Qc:=ak adg
   have HIN:=ak (And.intro hin hi)
   obtain⟨wz,w3,hz,hs1,kr,br,⟨r0,r1⟩,q0,q1⟩:=adf wr (ps,pn)
   have HB3:=ak (HB.o.trans (br.mono HB.o.size));have KR:=ak kr
   have HP3:=ak (HP.o.below br);have AO:=ak (HS2.o.below br)
   obtain⟨gc,hgc⟩:=ay (wr.heap.size)
   rw[hgc]at hs1 KR r0 r1 q0 q1
   have Jc:aA (W.heap.size<=gc):=ak (by rw[<-hgc];exact HB.o.size)
   have HGC3:aA (gc<w3.heap.size):=ak (aga.1 KR.o).1
   have hkl2:kl<=1048576:=HLEN.o
   have uq:aA (P.length+pn/2<=1048576):=ak (by
    have h1:=G5.o.1
    have h2:=VB S (i+1)
    rw[Uu.o,ag_,af8,<-Um.o]at h2
    have h3:(([(ps,pn)]:List (Nat×Nat)).flatMap Af).length=pn/2:=by simp[qF]
    rw[h3]at h2
    omega)
   clear hp hbd adg kr br hsl hi hin
   go_wp2_with fail
   clear hz hs1 r0 r1 q0 q1 c0 c1 hgc
   go_loopw [5,11] (λrv kv wr2=>∃(j:Nat) (Q:List Nat),kv=.int .i64 ((2*j:Nat):Int)/\j<=pn/2/\Q=P++(Af (ps,pn)).take j/\P6 W.heap.size wr2 rv Q/\Ut wr2 gc (ps,pn)/\Below W.heap.size W wr2/\Sqs W.heap.size wr2 (.slice (some ⟨gs,0,none⟩) S.length sc) S) (λ_ kv _=>pn+2-(intOf kv).toNat)
   case atStart=>exact⟨0,P,rfl,agb _,by simp,HP3.o,KR.o,HB3.o,AO.o⟩
   case round=>
    obtain⟨j,Q,rfl,hj,hQe,hQ,hk,hb,hss⟩:=hrel
    obtain⟨qa,qc,rfl⟩:=hQ.len
    have HQE:=ak hQe;have HQ:=ak hQ;have HK:=ak hk;have HB:=ak hb;have HSS:=ak hss
    obtain⟨d0,d1⟩:=hk.cells
    obtain⟨k2,hk2⟩:=ay (2*j)
    obtain⟨k3,hk3⟩:=ay (k2+1)
    obtain⟨k4,hk4⟩:=ay (k2+2)
    obtain⟨pk,hpk⟩:=ay (ps+k2)
    have s1:(k2:Int)+1=(k3:Int):=by omega
    have s2:(k2:Int)+2=(k4:Int):=by omega
    have s3:(ps:Int)+(k2:Int)=(pk:Int):=by omega
    have hQl:Q.length<=1048576:=by
     have:=uq.o
     rw[hQe,af8,agB];omega
    rw[hk2]
    have HKK:=ak (And.intro hk2 (And.intro hk3 (And.intro hk4 (And.intro hpk hj))))
    have hpnb:pn<=1048576:=by have:=Qc.o;omega
    have hpsb:ps<=1048576:=by have:=Qc.o;omega
    have hk2b:k2<=1048576:=by omega
    have HQL:=ak hQl
    clear hQe hQ hk hb hss hk2 hk3 hk4 hpk hj hQl
    by_cases hlt:k3<pn
    .have s4:(k3:Int)<(pn:Int):=by omega
     have hbs:W.heap.size<=wr.heap.size:=HB.o.size
     have DJ:aA (Q++[pk]=P++(Af (ps,pn)).take (j+1)):=ak (by
      obtain⟨e1,e2,e3,e4,e5⟩:=HKK.o
      have hjl:j<(ps,pn).2/2:=by show j<pn/2;omega
      rw[HQE.o,ah7 (by rw[qF];exact hjl),VA (ps,pn) hjl,agf]
      congr 3
      show pk=ps+2*j
      omega)
     go_wp2_with (first
      | (at_builtin;refine bP (v:=.slice qa Q.length qc) KY bX rfl _ _ rfl rfl HQ.o pk rfl rfl ?c1 ?c2 hbs ?_))
     case c1=>simp[gF,Value.oneCell']
     case c2=>have:=HQL.o;omega
     intro v6 w6 G7 lu hb6
     have own:∀(k:Nat) (o:Obj),wr.heap[k]?=some o->(∀cs t fz,o=.cells cs t fz->t≠3)->w6.heap[k]?=some o:=λk o ho hne=>by
      have hk:=(aga.1 ho).1
      rw[lu.block k (by simp;omega) ?_,ahM _ _ _ hk]
      .exact ho
      .rcases HQ.o.2 with⟨h,-⟩|⟨g',c',cur,h,-,hgb,-⟩
       .rw[h];simp[Value.ownBlock]
       .rw[h]
        intro e'
        have e2:k=g':=by simpa[Value.ownBlock]using e'
        rw[e2,hgb]at ho
        cases ho
        exact hne _ _ _ rfl rfl
     have xX:=ak G7
     have Sj:aA (Ut w6 gc (ps,pn)):=ak (own _ _ HK.o (λcs t fz e=>by cases e;decide))
     have HSS6:aA (Sqs W.heap.size w6 (.slice (some ⟨gs,0,none⟩) S.length sc) S):=ak (HSS.o.keep (λk cs fz e=>own _ _ e (λcs' t ZN e'=>by cases e';decide)))
     have zH:=ak (HB.o.trans hb6)
     clear G7 lu hb6 hbs own
     go_wp2_with fail
     go_roundw
     case rel=>
      obtain⟨e1,e2,e3,e4,e5⟩:=HKK.o
      exact⟨j+1,Q++[pk],by go_num,by omega,DJ.o,xX.o,Sj.o,zH.o,HSS6.o⟩
     case measure=>obtain⟨e1,e2,e3,e4,e5⟩:=HKK.o;simp[intOf];omega
    .have s4:¬(k3:Int)<(pn:Int):=by omega
     have DJ:aA (Q=(S.take (i+1)).flatMap Af):=ak (by
      obtain⟨e1,e2,e3,e4,e5⟩:=HKK.o
      have:(Af (ps,pn)).take j=Af (ps,pn):=agI (by rw[qF];show pn/2<=j;omega)
      rw[HQE.o,this,Um.o,Uu.o,ag_]
      simp)
     go_wp2_with fail
     go_roundw
     case rel=>exact⟨i+1,Q,by go_num,by have:=HIN.o;omega,DJ.o,HQ.o,HSS.o,HB.o⟩
     case measure=>have:=HIN.o;simp[intOf];omega
  .have hin':i=S.length:=by omega
   have hx:¬(i:Int)<(S.length:Int):=by omega
   have IK:aA (P=S.flatMap Af):=ak (by rw[Um.o,hin',ahe])
   have HB2:=HB
   clear hin'
   go_wp2_with fail
   go_ret
   exact⟨_,rfl,by rw[<-IK.o];exact HP.o,HB2.o⟩
theorem VD(f:Nat->Nat->Bool)(o x y:Nat)(t:List Nat):Ni f o (x::y::t)=(if f x y then[o]else[])++Ni f (o+1) (y::t):=by conv=>lhs;unfold Ni
theorem OZ(hl:XI W v K)(hlen:K.length<=1048576)(ht:f_ n=false)(hn:n<=1099511627776)(hn2:2<=n)(hne:n%2=0)(hK:∀k∈K,k<18446744073709551616):
    Calls Tryz.prog 172 #[v,.int .i64 n] W λe w'=>∃v',e=.returned v'/\P6 W.heap.size w' v' (tV (fits n) 0 K)/\Below W.heap.size W w':=by
 rw[<-AP (f:=fits n) (λx y z h=>(sZ ht h).1)]
 have hNB:=ak (λw=>uR w n (by omega))
 obtain⟨c,hc⟩:=ay ((n/2-1)%123)
 have Sk:c≠122:=by
  intro e
  unfold f_ at ht
  exact ai0 ht ⟨hne,hn2,by rw[hc];exact e⟩
 have hcl:c<=122:=by omega
 have hnb:Au n=(c/2,c%2,false):=by
  have:xV n=(c,true):=by unfold xV;rw[af4 (by omega),hc]
  unfold Au
  rw[this]
  simp[Sk]
 have hfit:∀x y,fits n x y=decide (x/2^(c/2)%2=c%2/\y/2^(c/2)%2=1-c%2):=λx y=>by
  rw[Ar hn2 hne]
  unfold qM
  rw[hc,af4 Sk]
 rw[hnb]at hNB
 have n1:¬(n:Int)<2:=by omega
 have n2:(n:Int)%2=0:=by omega
 obtain⟨b,hb⟩:=ay (c/2)
 obtain⟨o,ho⟩:=ay (c%2)
 have ho2:o<2:=by omega
 have hbt:((b:Int)).toNat=b:=by omega
 have hb0:(0:Int)<=(b:Int):=by omega
 have ab5:(b:Int)<=64:=by omega
 rw[hb,ho]at hNB hfit
 have HFIT:=ak hfit
 obtain⟨a,cp,rfl,hrd⟩:=hl
 obtain⟨N,hN⟩:=ay (K.length)
 have HC:=ak hrd;have HN:=ak hN;have P5:=ak hK
 obtain⟨F,hF⟩:=ay (Ni (fits n) 0 K)
 have HFL:aA (F.length<=1048576):=ak (by
  rw[<-hF,AP (f:=fits n) (λx y z h=>(sZ ht h).1)]
  have:=(xE (fits n) 0 K).1
  omega)
 have lN:=ak hF
 rw[hF,hN]
 have hNl:N<=1048576:=by omega
 clear hnb hfit hrd hN hF hc Sk hcl hb ho ht hlen hn hn2 hne hK
 go_enter Tryz.func172,Tryz.ntmps172
 go_wp2_with fail
 refine(hNB.o W).mono ?_;rintro e w ⟨rfl,h⟩;rw[h];clear h w
 go_wp2_with fail
 go_loopw [5,12] (λrv iv wr=>∃(i:Nat) (P:List Nat),iv=.int .i64 i/\i<=N/\P++Ni (fits n) i (K.drop i)=F/\P6 W.heap.size wr rv P/\Below W.heap.size W wr) (λ_ iv _=>N-(intOf iv).toNat)
 case atStart=>exact⟨0,[],rfl,agb _,by rw[agj,agH];exact lN.o,aP.nil _ _ _ _ _,af6 _ _⟩
 case round=>
  obtain⟨i,P,rfl,hi,hPF,hP,hbw⟩:=hrel
  obtain⟨pa,pc,rfl⟩:=hP.len
  obtain⟨i2,hi2⟩:=ay (i+1)
  have q2:(i:Int)+1=(i2:Int):=by omega
  have HP:=ak hP;have HB:=ak hbw;have HPF:=ak hPF;have HI:=ak (And.intro hi hi2)
  have uq:aA (P.length<=1048576):=ak (by
   have:=agC List.length hPF
   rw[af8]at this
   have:=HFL.o
   omega)
  clear hP hPF
  by_cases hin:i2<N
  .have l1:(i2:Int)<(N:Int):=by omega
   have l2:(i:Int)<(N:Int):=by omega
   have l3:(0:Int)<=(i:Int):=by omega
   have l4:(0:Int)<=(i2:Int):=by omega
   have hil:i<K.length:=by rw[HN.o];omega
   have Jb:i2<K.length:=by rw[HN.o];omega
   obtain⟨g,rfl,c0⟩:=HC.o wr hbw i hil
   obtain⟨g',e',c1⟩:=HC.o wr hbw i2 Jb
   cases e'
   obtain⟨x,hx⟩:=ay (K[i])
   obtain⟨y,hy⟩:=ay (K[i2])
   have hxl:=P5.o x (by rw[<-hx];exact ag0 hil)
   have hyl:=P5.o y (by rw[<-hy];exact ag0 Jb)
   rw[hx]at c0
   rw[hy]at c1
   have hdr:K.drop i=x::K.drop i2:=by rw[<-hx,<-hi2,ahc hil]
   have aaj:K.drop i2=y::K.drop (i2+1):=by rw[<-hy,ahc Jb]
   have oh:aA (P++(if fits n x y then[i]else[])++Ni (fits n) i2 (K.drop i2)=F):=ak (by
    have h:=HPF.o
    rw[hdr,aaj,VD,<-agf,HI.o.2,<-aaj]at h
    exact h)
   obtain⟨xb,hxb⟩:=ay (x/2^b)
   obtain⟨yb,hyb⟩:=ay (y/2^b)
   have hxbl:xb<18446744073709551616:=by rw[<-hxb];exact ajy (ain _ _) hxl
   have hybl:yb<18446744073709551616:=by rw[<-hyb];exact ajy (ain _ _) hyl
   have x1:(x:Int)/2^b=(xb:Int):=by rw[div_pow,hxb]
   have y1:(y:Int)/2^b=(yb:Int):=by rw[div_pow,hyb]
   have x2:=and_one xb hxbl
   have y2:=and_one yb hybl
   have Qb:aA (fits n x y=decide (xb%2=o/\yb%2=1-o)):=ak (by rw[HFIT.o,hxb,hyb])
   have hbs:W.heap.size<=wr.heap.size:=HB.o.size
   clear hx hy hxl hyl hdr aaj hxb hyb hil Jb hi2 hi hbw
   by_cases t1:xb%2=o
   .have t1':(((xb%2:Nat):Int)==(o:Int))=true:=by simp only[ahf];omega
    have t1z:(xb:Int)%2=(o:Int):=by omega
    by_cases t2:yb%2=1-o
    .have t2':(((yb%2:Nat):Int) !=(o:Int))=true:=by simp;omega
     have j_:aA ((P++[i])++Ni (fits n) i2 (K.drop i2)=F):=ak (by
      have h:=oh.o
      rw[Qb.o,agw (show xb%2=o/\yb%2=1-o from⟨t1,t2⟩),af5 rfl]at h
      exact h)
     clear t1 t2
     go_wp2_with (first
      | (at_builtin;refine bP (v:=.slice pa P.length pc) KY bX rfl _ _ rfl rfl HP.o i rfl rfl ?c1 ?c2 hbs ?_))
     case c1=>simp[gF,Value.oneCell']
     case c2=>have:=uq.o;omega
     intro v6 w6 G7 lu hb6
     have xX:=ak G7;have zH:=ak (HB.o.trans hb6)
     clear G7 lu hb6 hbs
     go_wp2_with fail
     go_roundw
     case rel=>exact⟨i2,P++[i],by go_num,by omega,j_.o,xX.o,zH.o⟩
     case measure=>have:=HI.o;simp[intOf];omega
    .have t2':(((yb%2:Nat):Int) !=(o:Int))=false:=by simp;omega
     have j_:aA (P++Ni (fits n) i2 (K.drop i2)=F):=ak (by
      have h:=oh.o
      rw[Qb.o,agD (λq=>t2 q.2)]at h
      simpa using h)
     clear t1 t2
     go_wp2_with fail
     go_roundw
     case rel=>exact⟨i2,P,by go_num,by omega,j_.o,HP.o,HB.o⟩
     case measure=>have:=HI.o;simp[intOf];omega
   .have t1':(((xb%2:Nat):Int)==(o:Int))=false:=agh.2 (by omega)
    have j_:aA (P++Ni (fits n) i2 (K.drop i2)=F):=ak (by
     have h:=oh.o
     rw[Qb.o,agD (λq=>t1 q.1)]at h
     simpa using h)
    clear t1
    go_wp2_with fail
    go_roundw
    case rel=>exact⟨i2,P,by go_num,by omega,j_.o,HP.o,HB.o⟩
    case measure=>have:=HI.o;simp[intOf];omega
  .have l1:¬(i2:Int)<(N:Int):=by omega
   have HE:aA (P=F):=ak (by
    have h:=HPF.o
    have hN:=HN.o
    have:Ni (fits n) i (K.drop i)=[]:=by
     cases hq:K.drop i with
     |nil=>rfl
     |cons x t=>
      have hl:=agC List.length hq
      rw[agp,agc]at hl
      have:t=[]:=ahE.1 (by have:=HI.o;omega)
      rw[this];rfl
    rw[this,agi]at h
    exact h)
   go_wp2_with fail
   go_ret
   exact⟨_,rfl,by rw[<-HE.o];exact HP.o,HB.o⟩
theorem O0(hl:XI W v K)(hlen:K.length<=1048576)(hn:n<=1099511627776)(hn2:2<=n)(hne:n%2=0)(hK:∀k∈K,k<18446744073709551616):
    Calls Tryz.prog 172 #[v,.int .i64 n] W λe w'=>∃v',e=.returned v'/\P6 W.heap.size w' v' (tV (fits n) 0 K)/\Below W.heap.size W w':=by
 cases ht:f_ n with
 |true=>exact OY hl hlen ht hn
 |false=>exact OZ hl hlen ht hn hn2 hne hK
theorem Nf{l:List Sy}:∀{F:List Sy},l.Nodup->(∀y∈l,y∈F)->l.length<=F.length:=by
 induction l with
 |nil=>intro F _ _;exact agb _
 |cons a l ih=>
  intro F hn hs
  obtain⟨h1,h2⟩:=ail.1 hn
  have ha:=hs a (by simp)
  have:=ih (F:=F.erase a) h2 (λy hy=>(akG (by rintro rfl;exact h1 hy)).2 (hs y (by simp[hy])))
  rw[akw ha]at this
  have:=akA ha
  rw[agc];omega
abbrev Du:List TypeId:=[140,136,127,142]
structure Kp(B:Nat)(X:Nat->Prop)(A C:World):Prop where
 cells:∀t:TypeId,t∉Du->∀(k:Nat),¬X k->∀(cs:Array Value) (fz:Nat×Nat),A.heap[k]?=some (.cells cs t fz)->C.heap[k]?=some (.cells cs t fz)
 map:∀v,Dq B A v->Dq B C v
 others:∀(k:Nat) es c,A.heap[k]?=some (.map es c)->(∃v,Dq B A v/\v≠ .map (some k))->C.heap[k]?=some (.map es c)
theorem Kp.of(h:Below A.heap.size A C):Kp B X A C:=⟨λ_ _ _ _ _ _ e=>au h e,λv ⟨cs,fz,e1,e2⟩=>⟨cs,fz,au h e1,e2⟩,λ_ _ _ e _=>au h e⟩
theorem Kp.trans{D:World}(h:Kp B X A C)(k:Kp B X C D):Kp B X A D:=⟨λt a i b cs fz e=>k.cells t a i b cs fz (h.cells t a i b cs fz e),λv e=>k.map v (h.map v e),λi es c e ⟨v,h1,h2⟩=>k.others i es c (h.others i es c e ⟨v,h1,h2⟩) ⟨v,h.map v h1,h2⟩⟩
theorem Kp.mono{Y:Nat->Prop}(h:Kp B X A C)(hx:∀k,k<A.heap.size->X k->Y k):Kp B Y A C:=⟨λt a i b cs fz e=>h.cells t a i (λq=>b (hx i (aga.1 e).1 q)) cs fz e,h.map,h.others⟩
theorem Kp.kt(h:Kt B A C):Kp B X A C:=⟨λt a k _ cs fz e=>h.cells t (λe=>a (by rw[e];decide)) (λe=>a (by rw[e];decide)) k cs fz e,h.map,h.others⟩
theorem Kp.Vs(h:bS Ae A C):Kp B X A C:=⟨λt a k _ cs fz e=>h.cells e (λq=>a (by simp only[Ae,Du,agm]at q⊢;exact .inr (.inr q))),λv ⟨cs,fz,e1,e2⟩=>⟨cs,fz,h.cells e1 (by decide),e2⟩,λk es c e _=>h.block k _ e (λ_ _ _ q=>by cases q)⟩
structure gV(n0 B most g:Nat)(F:List Sy)(E:List En)(W:World):Prop where
 st:aW n0 W B most E
 wf:iE E
 kt:jV n0 W g B E
 sub:∀y∈syms E,y∈F
 len:F.length<most
 most:most<=1048576
 txt:∀y∈F,(aV y).length<=1152921504606846976
theorem gV.nd(h:gV n0 B most g F E W):(E.map En.ru).Nodup:=h.st.nodup
theorem gV.room(h:gV n0 B most g F E W):E.length<most/\E.length<=1048575:=by
 have h1:=Nf (BU h.wf.wf h.nd) h.sub
 rw[bN]at h1
 have:=h.len
 have:=h.most
 omega
theorem gV.lt{n0 B most g:Nat}{F:List Sy}{E:List En}{W:World}(h:gV n0 B most g F E W):n0<=W.heap.size:=h.st.lt
theorem gV.below{n0 B most g:Nat}{F:List Sy}{E:List En}{W w:World}(h:gV n0 B most g F E W)(hb:Below W.heap.size W w):gV n0 B most g F E w:=⟨h.st.below hb,h.wf,h.kt.below hb,h.sub,h.len,h.most,h.txt⟩
def Grw(n0 B most g:Nat)(F:List Sy)(X:Nat->Prop)(E:List En)(W w':World)(Q:List En->Prop):Prop:=∃E',Ext E E'/\gV n0 B most g F E' w'/\Below n0 W w'/\Kp B X W w'/\Q E'
theorem RX(h:iE E){e:En}(ho:Fv E e)(hd:BA E e):sym (fA E e).1 (fA E e).2=z_ (syms E) e.ru/\∀y∈syms (fA E e).1,y∈syms E\/y=z_ (syms E) e.ru:=by
 unfold fA
 by_cases hf:fid e.ru 1 E=0
 .rw[af5 hf]
  refine⟨Iu E e,λy hy=>?_⟩
  have hy':y∈syms (E++[e]):=hy
  rw[pq]at hy'
  simpa using hy'
 .rw[af4 hf]
  obtain⟨a,b,c⟩:=Ee hf
  refine⟨?_,λy hy=> .inl hy⟩
  show sym E (fid e.ru 1 E)=_
  rw[Rm h.wf _ a b,c]
theorem gV.add{w':World}(h:gV n0 B most g F E W){e:En}(ho:Fv E e)(hd:BA E e)(hF:z_ (syms E) e.ru∈F)(hs:aW n0 w' B most (fA E e).1)(hb:Below n0 W w')(hk:Kt B W w'):
    0<(fA E e).2/\Grw n0 B most g F X E W w' (λE'=>(fA E e).2<=E'.length/\sym E' (fA E e).2=z_ (syms E) e.ru):=by
 obtain⟨a1,a2,a3,a4,a5,a6⟩:=Fx h.wf ho hd
 obtain⟨b1,b2⟩:=RX h.wf ho hd
 refine⟨a4,_,a2,⟨hs,a1,(h.kt.kt hk hb).ext a2,λy hy=>?_,h.len,h.most,h.txt⟩,hb,Kp.kt hk,a5,b1⟩
 rcases b2 y hy with q|q
 .exact h.sub y q
 .rw[q];exact hF
theorem ac3(h:gV n0 B most g F E W)(X:Nat->Prop){b:Nat}(hb:b<256)(hF:Sy.lt b∈F):
    Calls Tryz.prog 128 #[.pointer (some ⟨B,0,none⟩),.int .u8 b] W λx w'=>∃i:Nat,x=.returned (.tuple #[.int .i64 i,.nilIface])/\0<i/\Grw n0 B most g F X E W w' (λE'=>i<=E'.length/\sym E' i=.lt b):=by
 obtain⟨r1,r2⟩:=h.room
 refine(Bt h.st b hb r1 r2).mono ?_
 rintro x w' ⟨rfl,h1,h2,h3⟩
 exact⟨_,rfl,h.add (Mo E hb) (Mr E b) hF h1 h2 h3⟩
theorem og(h:Wf E){l:Nat}(h0:0<l)(hl:l<=E.length):(aF E l).w.len=(aV (sym E l)).length:=by
 rw[MK h l h0 hl,(h.get l h0 hl).1];rfl
theorem ac4(h:gV n0 B most g F E W)(X:Nat->Prop){l r:Nat}(hl0:0<l)(hl:l<=E.length)(hr0:0<r)(hr:r<=E.length)(hF:Sy.pr (sym E l) (sym E r)∈F):
    Calls Tryz.prog 129 #[.pointer (some ⟨B,0,none⟩),.int .i64 l,.int .i64 r] W λx w'=>∃i:Nat,x=.returned (.tuple #[.int .i64 i,.nilIface])/\0<i/\Grw n0 B most g F X E W w' (λE'=>i<=E'.length/\sym E' i=.pr (sym E l) (sym E r)):=by
 obtain⟨r1,r2⟩:=h.room
 have e0:=h.txt _ hF
 have e1:(aF E l).w.len+(aF E r).w.len<=1152921504606846976:=by
  rw[og h.wf.wf hl0 hl,og h.wf.wf hr0 hr]
  simpa[aV]using e0
 have e:iM E l r=((fA E (gN E l r)).1,(fA E (gN E l r)).2,0):=by
  unfold iM
  rw[af4 (by omega),af4 (by omega),af5 e1]
 have hc:=Bz h.st h.wf.wf hl hr r1 r2
 rw[e]at hc
 refine hc.mono ?_
 rintro x w' ⟨rfl,h1,h2,h3⟩
 exact⟨_,rfl,h.add (Ia h.wf.wf hl0 hr0 hl hr e1) (Ic E l r) hF h1 h2 h3⟩
theorem Vw(E:List En)(l k:Nat):BA E (qo E l k):=by
 refine⟨λh=>?_,λh=>?_,λ_=>rfl⟩
 .have h':(3:Nat)=1:=h
  omega
 .have h':(3:Nat)=2:=h
  omega
theorem ac5(h:gV n0 B most g F E W)(X:Nat->Prop){l k:Nat}(hl0:0<l)(hl:l<=E.length)(hk:2<=k)(hF:Sy.pw (sym E l) k∈F):
    Calls Tryz.prog 101 #[.pointer (some ⟨B,0,none⟩),.int .i64 l,.int .i64 k] W λx w'=>∃i:Nat,x=.returned (.tuple #[.int .i64 i,.nilIface])/\0<i/\Grw n0 B most g F X E W w' (λE'=>i<=E'.length/\sym E' i=.pw (sym E l) k):=by
 obtain⟨r1,r2⟩:=h.room
 have e0:=h.txt _ hF
 have e1:(aF E l).w.len*k<=1152921504606846976:=by
  rw[og h.wf.wf hl0 hl,ahq]
  simpa[aV]using e0
 have hp:0<(aF E l).w.len:=by
  obtain⟨a1,a2,a3,a4⟩:=h.wf.wf.get l hl0 hl
  rw[a1];exact a3
 have hk2:k<=9223372036854775807:=by
  have:k<=(aF E l).w.len*k:=ajW _ hp
  omega
 have e:wO E l k=((fA E (qo E l k)).1,(fA E (qo E l k)).2,0):=by
  unfold wO
  rw[af4 (by omega),af4 (by omega),af5 e1]
 have hc:=Oj h.st h.wf.wf hl hk2 r1 r2
 rw[e]at hc
 refine hc.mono ?_
 rintro x w' ⟨rfl,h1,h2,h3⟩
 exact⟨_,rfl,h.add (U7 h.wf.wf hl0 hl hk e1) (Vw E l k) hF h1 h2 h3⟩
theorem RY(h:gV n0 B most g F E W)(X:Nat->Prop)(h0:0<i)(hi:i<=E.length):
    Calls Tryz.prog 171 #[.pointer (some ⟨g,0,none⟩),.int .i64 i] W λx w'=>x=.returned (.tuple #[.int .u64 (key (sym E i):Nat),.nilIface])/\gV n0 B most g F E w'/\Below n0 W w'/\Kp B X W w':=by
 refine(Vv h.st h.wf.wf (by have:=h.room;omega) h.kt h0 hi).mono ?_
 rintro x w' ⟨rfl,h1,h2,h3⟩
 exact⟨rfl,⟨h.st.OG h3 (by decide) (by decide),h.wf,h1,h.sub,h.len,h.most,h.txt⟩,h2,Kp.Vs h3⟩
theorem RZ(h:gV n0 B most g F E W)(X:Nat->Prop)(h0:0<i)(hi:i<=E.length)(hok:jF (sym E i)):
    Calls Tryz.prog 20 #[.pointer (some ⟨g,0,none⟩),.int .i64 i] W λx w'=>x=.returned (.tuple #[.int .i64 (aQ (sym E i):Nat),.nilIface])/\gV n0 B most g F E w'/\Below n0 W w'/\Kp B X W w':=by
 refine(OQ h.st h.wf.wf (by have:=h.room;omega) h.kt h0 hi hok).mono ?_
 rintro x w' ⟨rfl,h1,h2,h3⟩
 exact⟨rfl,⟨h.st.OG h3 (by decide) (by decide),h.wf,h1,h.sub,h.len,h.most,h.txt⟩,h2,Kp.Vs h3⟩
end M
end
end Go.Proofs.YtgbhohfabhilgaaGreatDoor
