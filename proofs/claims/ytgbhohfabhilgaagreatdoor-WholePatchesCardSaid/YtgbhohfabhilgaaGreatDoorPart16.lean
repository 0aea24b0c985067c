import Derived.Test.YtgbhohfabhilgaaGreatDoorPart15
set_option maxRecDepth 100000
set_option maxHeartbeats 8000000
set_option linter.unusedVariables false
set_option linter.unusedSimpArgs false
namespace Go.Proofs.YtgbhohfabhilgaaGreatDoor
section
open Go.RowKit Go.Lib
namespace M
attribute [local go_sem] Oper.semAt_some
theorem aa5:Elem Tryz.prog 23 3 1 8:=gP Tryz.underlying23 (z:=.int .i64 0) (by kernel_rfl) rfl (by decide) (by decide)
def vN(D n:Nat):Nat:=(2*n+1)*bZ D+(2*n+1)*(3*D+1)
theorem zk{b0:Nat}{b9:Nat}{A C:World}{v:Value}{L:List bH}(h:mg b0 A v L)(hk:Kt b9 A C):mg b0 C v L:=h.keep (hk.lX (by decide) (by decide))
def Tk(n0 B most k:Nat)(E:List En)(W:World)(t:List Nat)(L:List bH)(e:Ending)(w':World):Prop:=
 ((gK E t.length L).2≠0/\e=.returned (.tuple #[.int .i64 0,err (gK E t.length L).2])/\Below W.heap.size W w')\/((gK E t.length L).2=0/\uH n0 B most k E W (cO E t 0 L) e w')
theorem Py{D M:Nat}(hD:GZ D M){n0 B most b0:Nat}{W:World}{E:List En}{i:Nat}{t:List Nat}(hs:aW n0 W B most E)(hwf:iE E)(hb:fT E i t){v:Value}{L:List bH}(hC:mg b0 W v L)(hT:zZ E L)(OC:L.length<=100)(hM:t.length+dN E L<=M)
    (hroom:E.length+vN D L.length<=most) (hE:E.length+vN D L.length<=1048576):
    Calls Tryz.prog 25 #[.pointer (some ⟨B,0,none⟩),.int .i64 i,v] W (Tk n0 B most (vN D L.length) E W t L):=by
 have hE':E.length<=1048576:=by omega
 have hn0:=hs.lt
 have pG:=hD.2
 have Nz:=ak (zT hs hwf hE' hb hC hT (by omega))
 obtain⟨va,vc,rfl⟩:=hC.len
 have HS:=ak hs;have gW:=ak hwf;have HB:=ak hb;have HC:=ak hC;have HT:=ak hT;have gJ:=ak hn0
 have jU:=ak (And.intro hM (And.intro hroom (And.intro hE (And.intro pG OC))))
 obtain⟨⟨lv,lc⟩,hlv⟩:∃r,gK E t.length L=r:=⟨_,rfl⟩
 rw[hlv]at Nz
 dsimp only at Nz
 have zI:=ak hlv
 unfold Tk
 rw[hlv]
 dsimp only
 by_cases hc:lc=0
 rotate_left
 .have he:lS lc=.iface 116 (.int .i64 lc):=by unfold lS;rw[af4 hc];rfl
  have HC0:=ak hc
  rw[he]at Nz
  clear hs hwf hb hC hT hM hroom hE hE' hn0 pG hlv hc he
  go_enter Tryz.func25,Tryz.ntmps25
  go_wp2_with fail
  refine Nz.o.mono ?_;rintro e w1 ⟨rfl,b1⟩
  have B1:=ak b1;clear b1
  go_wp2_with fail
  go_ret2
  exact .inl ⟨HC0.o,rfl,B1.o⟩
 subst hc
 rw[show lS 0=.nilIface from rfl]at Nz
 have hok:=qA (E:=E) (len:=t.length) (L:=L) (by rw[hlv])
 have mF:=ak hok
 by_cases h0:L.length=0
 .have h0i:((L.length:Int)==0)=true:=by rw[h0];rfl
  have hL0:L=[]:=ahw h0
  have mh:aA (∀w,Below W.heap.size W w->uH n0 B most (vN D L.length) E W (cO E t 0 L) (.returned (.tuple #[.int .i64 (i:Nat),.nilIface])) w):=ak (λw hw=>⟨E,i,rfl,hs.below hw,hwf,Ext.refl _,by omega,by rw[hL0];show fT E i (t.drop 0);rw[agj];exact hb,hw.mono hn0,Kt.of hw⟩)
  generalize L.length=n at *
  clear hs hwf hb hC hT hM hroom hE hE' hn0 pG hlv hok h0 hL0
  go_enter Tryz.func25,Tryz.ntmps25
  go_wp2_with fail
  refine Nz.o.mono ?_;rintro e w1 ⟨rfl,b1⟩
  have B1:=ak b1;clear b1
  go_wp2_with fail
  go_ret2
  exact .inr ⟨by first|rfl|trivial,mh.o _ B1.o⟩
 have h0i:((L.length:Int)==0)=false:=agh.2 (by omega)
 have Gp:=ak (tO L (-1) hok.2.2.1)
 have hcut:MV (nC L) t.length:=λj h=>Ny L (-1) 0 hok.2.2.1 (by omega) (by omega) j h
 have HCT:=ak hcut
 have htl:t.length<=1152921504606846976:=by omega
 have KZ:=ak htl
 clear hs hwf hb hC hT hM hroom hE hE' hn0 pG hlv hok hcut htl
 go_enter Tryz.func25,Tryz.ntmps25
 go_wp2_with fail
 refine Nz.o.mono ?_;rintro e w1 ⟨rfl,b1⟩
 have B1:=ak b1;clear b1
 go_wp2_with fail
 go_loopw [10,33] (λp c wr=>∃j:Nat,j<=L.length/\c=.int .i64 j/\aP W.heap.size wr 3 1 zU p (zi (L.take j))/\Below W.heap.size W wr) (λ_ c _=>L.length-(intOf c).toNat)
 case atStart=>exact⟨0,agb _,rfl,aP.nil _ _ _ _ _,B1.o⟩
 case round=>
  obtain⟨j,hj,rfl,hI,hbw⟩:=hrel
  obtain⟨pa,pc,rfl⟩:=hI.len
  have hpl:(zi (L.take j)).length=2*j:=by rw[CK,agB];omega
  obtain⟨pn,hpn⟩:=ay ((zi (L.take j)).length)
  rw[hpn]at hpl
  rw[hpn]
  have Qc:=ak hpn
  have hI':aP W.heap.size wr 3 1 zU (.slice pa pn pc) (zi (L.take j)):=by rw[<-hpn];exact hI
  have vk:=ak hbw;have HI:=ak hI';have uq:=ak hpl
  clear hI hbw hpl hI' hpn
  by_cases hlt:j<L.length
  .have hlt2:(j:Int)<(L.length:Int):=by omega
   obtain⟨g,cap,e1,-,-,hcc⟩:=mg.at (HC.o.below vk.o) hlt
   simp only[agn]at e1
   obtain⟨rfl,-,rfl⟩:=e1
   obtain⟨m0,m1,m2⟩:=hcc wr (af6 _ _) j hlt
   have hmem:=Gp.o _ (ag0 hlt)
   have Pm:=ak (ES (L.take j) L[j])
   rw[<-kI hlt]at Pm
   have HJ:=ak hlt
   generalize L[j]=c at *
   have hpb:IntKind.i64.wrap (c.pos+c.n)=c.pos+c.n:=by rw[agd];have:=KZ.o;omega
   obtain⟨wz,w2,hz,hs1,kc,bw,⟨p0,p1,p2⟩,q0,q1,q2⟩:=xg wr c
   obtain⟨gc,hgc⟩:=ay (wr.heap.size)
   rw[hgc]at hs1 kc p0 p1 p2 q0 q1 q2
   obtain⟨x0,x1,x2⟩:=kc.cells
   have B2:=ak bw
   have HI2:=ak (HI.o.below bw)
   have hlo2:W.heap.size<=w2.heap.size:=af9 vk.o.size bw.size
   have hll:(zi (L.take j)).length+2<=2000:=by rw[Qc.o,uq.o];have:=jU.o;omega
   clear bw kc hcc
   have S3:aA (aP w2.heap.size (w2.alloc (.cells #[.int .i64 c.pos,.int .i64 (c.pos+c.n)] 3)) 3 1 zU (.slice (some ⟨w2.heap.size,0,none⟩) 2 2) [c.pos,c.pos+c.n]):=ak (aP.lit (l:=[c.pos,c.pos+c.n]) ER rfl (by unfold maxLen;simp))
   have hal:Below w2.heap.size w2 (w2.alloc (.cells #[.int .i64 c.pos,.int .i64 (c.pos+c.n)] 3)):=(af6 _ _).alloc (af7 _) _
   have HI3:=ak (HI2.o.below hal)
   have P8:=ak hal
   have hlo3:W.heap.size<=(w2.alloc (.cells #[.int .i64 c.pos,.int .i64 (c.pos+c.n)] 3)).heap.size:=af9 hlo2 hal.size
   clear hal
   go_wp2_with (first
    | (at_builtin;refine Wy (v:=.slice pa pn pc) (l2:=[c.pos,c.pos+c.n]) aa5 ER Px rfl _ _ rfl rfl HI3.o rfl rfl S3.o ?c2 hlo3 ?_))
   case c2=>simp only[agc,ahX];omega
   intro v4 w4 Xv hg4 hb4
   have lU:=ak Xv
   have cB:=ak (((vk.o.trans (B2.o.mono vk.o.size)).trans (P8.o.mono hlo2)).trans hb4)
   clear Xv hg4 hb4 hz hs1 p0 p1 p2 q0 q1 q2 x0 x1 x2 hgc m0 m1 m2 hlo3 hlo2 hll hmem
   go_wp2_with fail
   go_roundw
   case rel=>exact⟨j+1,HJ.o,by go_num,by rw[Pm.o];exact lU.o,cB.o⟩
   case measure=>have:=HJ.o;simp[intOf];omega
  .obtain rfl:j=L.length:=by omega
   have hos:P6 W.heap.size wr (.slice pa pn pc) (nC L):=by
    have h1:=HI.o
    rw[ahe]at h1
    have h2:=Nw (L:=L) (λc hc=>⟨(Gp.o c hc).1,(Gp.o c hc).2.1⟩)
    unfold P6
    unfold aP at h1⊢
    rw[h2,CK]at h1
    rw[sF]
    exact h1
   have hol:=sF L
   have hnn:=jU.o
   unfold vN at hnn
   have hk1:(2*L.length+1)*bZ D<=(2*L.length+1)*bZ D:=af7 _
   have afv:=ak (Vq hD (HS.o.below vk.o) gW.o HB.o (by omega) hos HCT.o (by omega) (by rw[hol];omega) (by rw[hol];omega))
   rw[hol]at afv
   clear hos hol hnn hk1
   go_wp2_with fail
   refine afv.o.mono ?_
   rintro e w5 ⟨E5,ids,v5,rfl,s5,f5,x5,n5,i5,il5,RA,MQ,MR⟩
   have WB:ids.length=2*L.length+1:=by rw[il5,sF]
   obtain⟨ia,ic,rfl⟩:=i5.len
   rw[WB]
   obtain⟨q5,hq5⟩:=ay (wr.heap.size)
   obtain⟨nl,hnl⟩:=ay (2*L.length+1)
   have HX5:=ak (And.intro s5 (And.intro f5 (And.intro x5 (And.intro n5 (And.intro il5 RA)))))
   have M_:=ak WB
   have HW5:aA (Below n0 W w5/\Kt B W w5/\W.heap.size<=q5):=ak ⟨(vk.o.mono gJ.o).trans MQ,(Kt.of vk.o).trans MR,by rw[<-hq5];exact vk.o.size⟩
   have hi5:=i5
   rw[WB,hq5,hnl]at hi5
   rw[hnl]
   have OP:=ak hi5
   have HNL:=ak hnl
   clear s5 f5 x5 n5 i5 il5 RA MQ MR WB hi5 hq5 hnl
   go_wp2_with fail
   go_loopw [60] (λc w=>∃(k:Nat) (qV:List Nat),k<=L.length/\c=.int .i64 k/\Ids q5 w (.slice ia nl ic) qV/\xM L ids qV k/\aW n0 w B most E5/\Below n0 W w/\Kt B W w) (λc _=>L.length-(intOf c).toNat)
   case atStart=>exact⟨0,ids,agb _,rfl,OP.o,xM.zero _ _,HX5.o.1,HW5.o.1,HW5.o.2.1⟩
   case round=>
    obtain⟨k,qV,hk,rfl,hI6,hst,hs6,hb6,Tn⟩:=hrel
    have hlen':qV.length=nl:=by rw[hst.1,M_.o,HNL.o]
    by_cases WC:k<L.length
    .have hlt7:(k:Int)<(L.length:Int):=by omega
     obtain⟨g,cap,e1,-,-,hcc⟩:=mg.at (zk HC.o Tn) WC
     simp only[agn]at e1
     obtain⟨rfl,-,rfl⟩:=e1
     obtain⟨m0,m1,m2⟩:=hcc wr (af6 _ _) k WC
     have hnl:=HNL.o
     obtain⟨ga,gcap,e2,-⟩:=qB hI6 (show 2*k+1<qV.length by omega)
     rw[hlen']at e2
     simp only[agn]at e2
     obtain⟨rfl,-,rfl⟩:=e2
     have HJ:=ak WC
     have HST:=ak (hst.step WC (by rw[M_.o];omega))
     have hk100:k<100:=by have:=jU.o;omega
     generalize L[k]=c at *
     obtain⟨wz,w2,hz,hs1,kc,bw,⟨p0,p1,p2⟩,z0,z1,z2⟩:=xg wr c
     obtain⟨gc,hgc⟩:=ay (wr.heap.size)
     rw[hgc]at hs1 kc p0 p1 p2 z0 z1 z2
     obtain⟨x0,x1,x2⟩:=kc.cells
     have FY:=hI6.below bw
     obtain⟨cur,hown,hqg⟩:∃cur,w2.heap[ga]?=some (.cells cur 27 (0,0))/\q5<=ga:=by
      rcases FY.2 with⟨hv,_⟩|⟨g',cap',cur,hv,hg,hgb,_⟩
      .cases hv
      .cases hv;exact⟨cur,hgb,hg⟩
     obtain⟨g3,cap3,e3,y0⟩:=qB FY (show 2*k+1<qV.length by omega)
     rw[hlen']at e3
     simp only[agn,agG,ahp,ajf,aht]at e3
     obtain⟨rfl,rfl⟩:=e3
     have fz:w2.frozen? ⟨ga,2*k+1,none⟩=false:=by simp[World.frozen?,hown]
     obtain⟨w3,hw3⟩:=ay (w2.setCell ⟨ga,2*k+1,none⟩ (.int .i64 (c.id:Int)))
     have V8:aA (Ids q5 w3 (.slice (some ⟨ga,0,none⟩) nl ic) (qV.set (2*k+1) c.id)):=ak (by rw[<-hw3];exact aa4 FY (2*k+1) c.id)
     have Tp:aA (aW n0 w3 B most E5):=ak (by rw[<-hw3];exact(hs6.below bw).set' hown (by decide) (by decide) _)
     have hbb:Below W.heap.size wr w3:=by rw[<-hw3];exact(bw.mono hb6.size).setCell (p:=⟨ga,2*k+1,none⟩) (af9 HW5.o.2.2 hqg) _
     have Q5:=ak (hb6.trans (hbb.mono gJ.o))
     have HK8:=ak (Tn.then hbb)
     have hidx:IntKind.i64.wrap (2*(k:Int))=((2*k:Nat):Int):=by rw[agd];omega
     have hidx2:IntKind.i64.wrap (((2*k:Nat):Int)+1)=((2*k+1:Nat):Int):=by rw[agd];omega
     have hnn2:((2*k+1:Nat):Int)<(nl:Int):=by omega
     generalize(qV[2*k+1]'(by omega))=oldv at y0
     generalize hm1:2*k+1=m at *
     generalize hm2:2*k=mm at *
     clear hm1 hm2 hI6 hst hs6 hb6 Tn FY bw kc hown hqg hbb hcc hnl hlen' hk
     go_wp2_with fail
     go_roundw
     case rel=>exact⟨k+1,_,HJ.o,by go_num,V8.o,HST.o,Tp.o,Q5.o,HK8.o⟩
     case measure=>have:=HJ.o;simp[intOf];omega
    .obtain rfl:k=L.length:=by omega
     have hx5:=HX5.o
     have hT5:zZ E5 L:=λc hc=>by
      have h1:=HT.o c hc
      exact⟨af9 h1.1 hx5.2.2.1.le,by rw[hx5.2.2.1.ent h1.1];exact h1.2⟩
     have uo:=hst.Ig (t:=t) hx5.2.2.2.2.1 hx5.2.2.2.2.2 hT5
     have hpe:=CJ hx5.2.2.1 t L 0 (λc hc=>(HT.o c hc).1)
     have hfl:=EO E5 t L 0
     rw[hpe]at hfl
     have hok:=mF.o
     have hpl:=pO (E:=E) (t:=t) L (-1) 0 hok.2.2.1 (by omega) (by omega)
     have hdl:=yF (by omega) hok.2.2.1
     have hnn:=jU.o
     unfold vN at hnn
     have hnl:=HNL.o
     have UA:=ak (CG hD hs6 hx5.2.1 hI6 uo (by rw[hfl];omega) (by omega) (by rw[hlen',<-hnl];omega) (by rw[hlen',<-hnl];omega))
     rw[hfl]at UA
     have jZ:aA (∀e w,uH n0 B most (qV.length*(3*D+1)) E5 wr (cO E t 0 L) e w->uH n0 B most (vN D L.length) E W (cO E t 0 L) e w):=ak (λe w hj=>hj.after (k1:=(2*L.length+1)*bZ D) rfl hx5.2.2.1 hx5.2.2.2.1 (by rw[hlen',<-hnl];exact af7 _) hb6 Tn)
     clear hI6 hst hs6 hb6 Tn hlen' hx5 hT5 uo hpe hfl hok hpl hdl hnn hnl hk
     go_wp2_with fail
     refine UA.o.mono ?_
     intro e w8 hj
     obtain⟨i8,rfl⟩:=hj.ret
     have HZ:=ak (jZ.o _ _ hj)
     clear hj
     go_wp2_with fail
     go_ret2
     exact .inr ⟨by first|rfl|trivial,HZ.o⟩
theorem Jv{D M:Nat}(hD:GZ D M){n0 B most:Nat}{W:World}{E:List En}{i f n:Nat}{t:List Nat}(hs:aW n0 W B most E)(hwf:iE E)(hb:fT E i t)(hfn:f+n<=t.length)(hM:t.length<=M)(hroom:E.length+bZ D<=most)(hE:E.length+bZ D<=1048576):
    Calls Tryz.prog 77 #[.pointer (some ⟨B,0,none⟩),.int .i64 i,.int .i64 (f:Nat),.int .i64 (n:Nat)] W (uH n0 B most (bZ D) E W ((t.drop f).take n)):=by
 have hE':E.length<=1048576:=by omega
 have hn0:=hs.lt
 have gJ:=ak hn0
 have iF:=ak (tL hs hb.le hE')
 rw[(hb.len hwf).2]at iF
 by_cases h0:n=0
 .subst h0
  have mh:aA (∀w,Below W.heap.size W w->uH n0 B most (bZ D) E W ((t.drop f).take 0) (.returned (.tuple #[.int .i64 0,.nilIface])) w):=ak (λw hw=>⟨E,0,rfl,hs.below hw,hwf,Ext.refl _,by omega,⟨agb _,by rw[cZ,ah5],rfl⟩,hw.mono hn0,Kt.of hw⟩)
  generalize t.length=tl at *
  clear hs hwf hb hfn hM hroom hE hE' hn0
  go_enter Tryz.func77,Tryz.ntmps77
  go_wp2_with fail
  refine iF.o.mono ?_;rintro e w1 ⟨rfl,b1⟩
  have B1:=ak b1;clear b1
  go_wp2_with fail
  go_ret2
  exact mh.o _ B1.o
 have e0:((n:Int)==0)=false:=by simp;omega
 by_cases h1:n=t.length
 .have e1:((n:Int)==(t.length:Int))=true:=by rw[h1];simp
  have mh:aA (∀w,Below W.heap.size W w->uH n0 B most (bZ D) E W ((t.drop f).take n) (.returned (.tuple #[.int .i64 (i:Nat),.nilIface])) w):=ak (λw hw=>by
   obtain rfl:f=0:=by omega
   exact⟨E,i,rfl,hs.below hw,hwf,Ext.refl _,by omega,by rw[agj,h1,ahe];exact hb,hw.mono hn0,Kt.of hw⟩)
  clear hs hwf hb hfn hM hroom hE hE' hn0 h0 h1
  generalize t.length=tl at *
  go_enter Tryz.func77,Tryz.ntmps77
  go_wp2_with fail
  refine iF.o.mono ?_;rintro e w1 ⟨rfl,b1⟩
  have B1:=ak b1;clear b1
  go_wp2_with fail
  go_ret2
  exact mh.o _ B1.o
 have e1:((n:Int)==(t.length:Int))=false:=by simp;omega
 have zf:=ak (λw (hw:Below W.heap.size W w)=>IJ hD (hs.below hw) hwf hb hfn hM hroom hE)
 clear hs hwf hb hfn hM hroom hE hE' hn0 h0 h1
 generalize(t.drop f).take n=G at *
 generalize t.length=tl at *
 go_enter Tryz.func77,Tryz.ntmps77
 go_wp2_with fail
 refine iF.o.mono ?_;rintro e w1 ⟨rfl,b1⟩
 have B1:=ak b1;clear b1
 go_wp2_with fail
 refine(zf.o w1 B1.o).mono ?_
 intro e w2 hj
 obtain⟨i2,rfl⟩:=hj.ret
 have HZ:=ak (hj.read B1.o gJ.o)
 clear hj
 go_wp2_with fail
 go_ret2
 exact HZ.o
def YZ(E:List En)(t:List Nat)(m:Int)(c d:bH):Prop:=d.pos=c.pos+m/\d.n=(txt E c.id).length/\fT E d.id ((t.drop c.pos.toNat).take c.n.toNat)
def iT(E:List En)(t:List Nat):Int->List bH->List bH->Prop
 |_,[],[]=>True
 |m,c::L,d::R=>YZ E t m c d/\iT E t (m+((txt E c.id).length-c.n)) L R
 |_,_,_=>False
theorem iT.len{E:List En}{t:List Nat}:∀{L R:List bH} {m:Int},iT E t m L R->R.length=L.length
 | [],[],_,_=>rfl
 | [],_::_,_,h=>by cases h
 |_::_,[],_,h=>by cases h
 |c::L,d::R,_,h=>by rw[agc,agc,h.2.len]
theorem iT.snoc{E:List En}{t:List Nat}:∀{L R:List bH} {m:Int} {c d:bH},iT E t m L R->YZ E t (gX E m L) c d->iT E t m (L++[c]) (R++[d])
 | [],[],_,_,_,_,hb=>⟨hb,trivial⟩
 | [],_::_,_,_,_,h,_=>by cases h
 |_::_,[],_,_,_,h,_=>by cases h
 |c::L,d::R,m,_,_,h,hb=>⟨h.1,h.2.snoc hb⟩
theorem iT.ext{E E2:List En}(hx:Ext E E2){t:List Nat}:∀{L R:List bH} {m:Int},(∀c∈L,c.id<=E.length)->iT E t m L R->iT E2 t m L R
 | [],[],_,_,_=>trivial
 | [],_::_,_,_,h=>by cases h
 |_::_,[],_,_,h=>by cases h
 |c::L,d::R,m,hi,h=>by
  have he:=hx.txt (hi c (by simp))
  obtain⟨⟨a,b,e⟩,g⟩:=h
  refine⟨⟨a,by rw[he];exact b,e.ext hx⟩,?_⟩
  rw[he]
  exact iT.ext hx (λx hx=>hi x (by simp[hx])) g
theorem iT.zV{E:List En}{t:List Nat}:∀{L R:List bH} {m:Int},iT E t m L R->zZ E R
 | [],[],_,_=>λc hc=>by simp at hc
 | [],_::_,_,h=>by cases h
 |_::_,[],_,h=>by cases h
 |c::L,d::R,_,h=>λx hx=>by
  rcases agm.1 hx with rfl|hx
  .exact⟨h.1.2.2.le,h.1.2.2.even⟩
  .exact h.2.zV x hx
theorem zl{E E2:List En}(hx:Ext E E2):∀(L:List bH) (m:Int),(∀c∈L,c.id<=E.length)->gX E2 m L=gX E m L
 | [],_,_=>rfl
 |c::L,m,h=>by
  show gX E2 (m+((txt E2 c.id).length-c.n)) L=gX E (m+((txt E c.id).length-c.n)) L
  rw[hx.txt (h c (by simp)),zl hx L _ (λd hd=>h d (by simp[hd]))]
def NA(n0 B most k:Nat)(E:List En)(W:World)(t:List Nat)(L:List bH)(e:Ending)(w':World):Prop:=
 ((gK E t.length L).2≠0/\e=.returned (.tuple #[.slice none 0 0,err (gK E t.length L).2])/\Below W.heap.size W w')\/
 ((gK E t.length L).2=0/\∃E' R v',e=.returned (.tuple #[v',.nilIface])/\aW n0 w' B most E'/\iE E'/\Ext E E'/\E'.length<=E.length+k/\mg W.heap.size w' v' R/\iT E' t 0 L R/\Below n0 W w'/\Kt B W w')
theorem LH{D M:Nat}(hD:GZ D M){n0 B most b0:Nat}{W:World}{E:List En}{i:Nat}{t:List Nat}(hs:aW n0 W B most E)(hwf:iE E)(hb:fT E i t){v:Value}{L:List bH}(hC:mg b0 W v L)(hT:zZ E L)(OC:L.length<=100)(hM:t.length<=M)
    (hroom:E.length+L.length*bZ D<=most) (hE:E.length+L.length*bZ D<=1048576):
    Calls Tryz.prog 29 #[.pointer (some ⟨B,0,none⟩),.int .i64 i,v] W (NA n0 B most (L.length*bZ D) E W t L):=by
 have hE':E.length<=1048576:=by omega
 have hn0:=hs.lt
 have pG:=hD.2
 have Nz:=ak (zT hs hwf hE' hb hC hT (by omega))
 obtain⟨va,vc,rfl⟩:=hC.len
 have HS:=ak hs;have gW:=ak hwf;have HB:=ak hb;have HC:=ak hC;have HT:=ak hT;have gJ:=ak hn0
 have jU:=ak (And.intro hM (And.intro hroom (And.intro hE (And.intro pG OC))))
 obtain⟨⟨lv,lc⟩,hlv⟩:∃r,gK E t.length L=r:=⟨_,rfl⟩
 rw[hlv]at Nz
 dsimp only at Nz
 unfold NA
 rw[hlv]
 dsimp only
 by_cases hc:lc=0
 rotate_left
 .have he:lS lc=.iface 116 (.int .i64 lc):=by unfold lS;rw[af4 hc];rfl
  have HC0:=ak hc
  rw[he]at Nz
  clear hs hwf hb hC hT hM hroom hE hE' hn0 pG hlv hc he
  go_enter Tryz.func29,Tryz.ntmps29
  go_wp2_with fail
  refine Nz.o.mono ?_;rintro e w1 ⟨rfl,b1⟩
  have B1:=ak b1;clear b1
  go_wp2_with fail
  go_ret2
  exact .inl ⟨HC0.o,rfl,B1.o⟩
 subst hc
 rw[show lS 0=.nilIface from rfl]at Nz
 have hok:=qA (E:=E) (len:=t.length) (L:=L) (by rw[hlv])
 have mF:=ak hok
 have Gp:=ak (tO L (-1) hok.2.2.1)
 have HMR:aA (∀j,j<=L.length-> -1152921504606846976<=gX E 0 (L.take j)/\gX E 0 (L.take j)<=2305843009213693952):=ak (λj hj=>by
  rw[jR]
  have h1:=wQ E L j
  have h2:=yF (by omega) (uW hok.2.2.1 j)
  have h3:=yF (by omega) hok.2.2.1
  omega)
 have afx:∀c∈L,c.id<=E.length:=λc hc=>(hT c hc).1
 have WE:=ak afx
 clear hs hwf hb hC hT hM hroom hE hE' hn0 pG hlv hok afx
 go_enter Tryz.func29,Tryz.ntmps29
 go_wp2_with fail
 refine Nz.o.mono ?_;rintro e w1 ⟨rfl,b1⟩
 have B1:=ak b1;clear b1
 go_wp2_with fail
 go_loopw [10,11,29] (λp u c wr=>∃(j:Nat) (E1:List En) (R:List bH),j<=L.length/\c=.int .i64 j/\u=.int .i64 (gX E 0 (L.take j))/\mg W.heap.size wr p R/\aW n0 wr B most E1/\iE E1/\Ext E E1/\E1.length<=E.length+j*bZ D/\iT E1 t 0 (L.take j) R/\Below n0 W wr/\Kt B W wr) (λ_ _ c _=>L.length-(intOf c).toNat)
 case atStart=>exact⟨0,E,[],agb _,rfl,rfl,aP.nil _ _ _ _ _,HS.o.below B1.o,gW.o,Ext.refl _,by omega,trivial,B1.o.mono gJ.o,Kt.of B1.o⟩
 case round=>
  obtain⟨j,E1,R,hj,rfl,rfl,hR,hs1,oH,hx1,hn1,hI,hbw,hkt⟩:=hrel
  obtain⟨pa,pc,hpv⟩:=hR.len
  have hrl:R.length=j:=by rw[hI.len,agB];omega
  rw[hrl]at hpv
  subst hpv
  by_cases hlt:j<L.length
  .have hlt2:(j:Int)<(L.length:Int):=by omega
   obtain⟨g,cap,e1,-,-,hcc⟩:=mg.at (zk HC.o hkt) hlt
   simp only[agn]at e1
   obtain⟨rfl,-,rfl⟩:=e1
   obtain⟨m0,m1,m2⟩:=hcc wr (af6 _ _) j hlt
   have hmem:=Gp.o _ (ag0 hlt)
   have hci:=WE.o _ (ag0 hlt)
   have Uu:=ak (kI hlt)
   have hmr:=HMR.o j hj
   have afy:=HMR.o (j+1) hlt
   have hms:=BH E (L.take j) 0 L[j]
   rw[<-kI hlt]at hms
   have HJ:=ak hlt
   have hnn:=jU.o
   have hmul:(j+1)*bZ D<=L.length*bZ D:=agY _ (by omega)
   have hsucc:(j+1)*bZ D=j*bZ D+bZ D:=ag6 _ _
   generalize L[j]=c at *
   obtain⟨wz,w2,hz,sG,kc,bw,⟨p0,p1,p2⟩,q0,q1,q2⟩:=xg wr c
   obtain⟨gc,hgc⟩:=ay (wr.heap.size)
   rw[hgc]at sG kc p0 p1 p2 q0 q1 q2
   obtain⟨x0,x1,x2⟩:=kc.cells
   have Tq:c.id<=E1.length:=af9 hci hx1.le
   have iF:=ak (tL (hs1.below bw) Tq (by omega))
   have htx:(aF E1 c.id).w.len=(txt E c.id).length:=by
    have h:=(oH.wf.len Tq).1
    rw[h,hx1.txt hci];rfl
   rw[htx]at iF
   obtain⟨cp,hcp⟩:∃n:Nat,c.pos=(n:Int):=⟨c.pos.toNat,by omega⟩
   obtain⟨cn,hcn⟩:∃n:Nat,c.n=(n:Int):=⟨c.n.toNat,by omega⟩
   have IK:aA (∀w,Below w2.heap.size w2 w->Calls Tryz.prog 77 #[.pointer (some ⟨B,0,none⟩),.int .i64 i,.int .i64 c.pos,.int .i64 c.n] w (uH n0 B most (bZ D) E1 w ((t.drop c.pos.toNat).take c.n.toNat))):=ak (λw hw=>by
    have:=Jv hD ((hs1.below bw).below hw) oH (HB.o.ext hx1) (f:=cp) (n:=cn) (by omega) hnn.1 (by omega) (by omega)
    rw[<-hcp,<-hcn]at this
    rw[show c.pos.toNat=cp by omega,show c.n.toNat=cn by omega]
    exact this)
   obtain⟨tn,htn⟩:=ay ((txt E c.id).length)
   rw[htn]at iF hms
   have HTN:aA ((txt E1 c.id).length=tn):=ak (by rw[hx1.txt hci];exact htn)
   have HME:aA (gX E1 0 (L.take j)=gX E 0 (L.take j)):=ak (zl hx1 _ _ (λd hd=>WE.o d (ahJ hd)))
   have htb:tn<=1152921504606846976:=by rw[<-htn,<-hx1.txt hci];exact(oH.wf.len Tq).2
   obtain⟨mj,hmj⟩:=ay (gX E 0 (L.take j))
   obtain⟨mk,hmk⟩:=ay (gX E 0 (L.take (j+1)))
   rw[hmj]at hmr hms HME⊢
   rw[hmk]at afy hms
   have HMK:=ak hmk
   have hw1:IntKind.i64.wrap (c.pos+mj)=c.pos+mj:=by rw[agd];have:=mF.o;omega
   have hw2:IntKind.i64.wrap ((tn:Int)-c.n)=(tn:Int)-c.n:=by rw[agd];have:=mF.o;omega
   have hw3:IntKind.i64.wrap (mj+((tn:Int)-c.n))=mk:=by rw[agd];omega
   have HOW:aA (∀q,(Value.slice pa j pc).ownBlock=some q->q<gc):=ak (λq hq=>by have:=aP.Fu hR hq;rw[hgc]at this;exact this)
   have HR:=ak (And.intro (hR.below bw) (And.intro (hs1.below bw) (And.intro oH (And.intro hx1 (And.intro hn1 (And.intro hI (And.intro (hbw.trans (bw.mono hs1.lt)) (And.intro (hkt.trans (Kt.of bw)) (And.intro hsucc hrl)))))))))
   have HKC:=ak kc
   have Ho:=ak Tq
   have hlo2:W.heap.size<=w2.heap.size:=af9 hbw.size bw.size
   clear hR hs1 oH hx1 hn1 hI hbw hkt bw kc hmul hsucc hnn hmr afy hms hmk hmj htn htx hci Tq hcc hcp hcn hrl hmem
   go_wp2_with fail
   clear hz sG p0 p1 p2 q0 q1 q2 hgc m0 m1 m2
   refine iF.o.mono ?_;rintro e w3 ⟨rfl,b3⟩
   have HB3:=ak b3
   obtain⟨x0',x1',x2'⟩:=(show IG w3 gc c from au b3 HKC.o).cells
   clear b3 x0 x1 x2
   go_wp2_with fail
   refine(IK.o w3 HB3.o).mono ?_
   rintro e w4 ⟨E4,i4,rfl,s4,f4,x4,n4,xW,CL,zm⟩
   have hk4:IG w4 gc c:=zm.cells _ (by decide) (by decide) _ _ _ (au HB3.o HKC.o)
   obtain⟨y0,y1,y2⟩:=hk4.cells
   have uF:=ak hk4
   have HI4:aA (mg W.heap.size w4 (.slice pa j pc) R):=ak (zk (aP.below HR.o.1 HB3.o) zm)
   have Rv:=ak (And.intro f4 (And.intro x4 (And.intro n4 (And.intro xW (And.intro CL zm)))))
   have lU:=ak s4
   have uE:W.heap.size<=w4.heap.size:=af9 hlo2 (af9 HB3.o.size CL.size)
   have hrl5:R.length+1<=2000:=by have:=HR.o.2.2.2.2.2.2.2.2.2;have:=jU.o;omega
   clear hk4 s4 f4 x4 n4 xW CL zm x0' x1' x2'
   go_wp2_with (first
    | (at_builtin;refine bP (v:=.slice pa j pc) vg iV rfl _ _ rfl rfl HI4.o ⟨c.pos+mj,tn,i4⟩ rfl rfl ?c1 ?c2 uE ?_))
   case c1=>simp[w_,Value.oneCell']
   case c2=>omega
   intro v5 w5 hS5 hg5 hb5
   have qU:=ak hS5
   have LJ:=ak (lU.o.app' HI4.o hg5 (by decide) (by decide))
   have mG:=ak hb5
   have CO:gc<w4.heap.size:=(aga.1 uF.o).1
   have hown:(Value.slice pa j pc).ownBlock≠some gc:=λe=>ahh _ (HOW.o _ e)
   have hk5:IG w5 gc c:=by
    unfold IG
    rw[hg5.block gc (by simp;omega) (λe=>hown e.symm),ahM _ _ _ CO]
    exact uF.o
   obtain⟨y0',y1',y2'⟩:=hk5.cells
   clear hS5 y0 y1 y2 hg5 hb5 hk5 hown CO
   go_wp2_with fail
   clear y0' y1' y2'
   go_roundw
   case rel=>
    obtain⟨r1,r2,r3,r4,r5,r6,r7,r8,r9,r10⟩:=HR.o
    obtain⟨f4,x4,n4,xW,CL,zm⟩:=Rv.o
    refine⟨j+1,E4,R++[⟨c.pos+mj,tn,i4⟩],HJ.o,by go_num,by rw[HMK.o],qU.o,LJ.o,f4,r4.trans x4,by omega,?_,(r7.trans ((HB3.o.mono (af9 HS.o.lt hlo2)).trans CL)).trans (mG.o.mono gJ.o),((r8.trans (Kt.of HB3.o)).trans zm).then mG.o⟩
    rw[Uu.o]
    refine(r6.ext x4 (λd hd=>af9 (WE.o d (ahJ hd)) r4.le)).snoc ⟨?_,?_,xW⟩
    .show c.pos+mj=c.pos+gX E4 0 (L.take j)
     rw[zl x4 _ _ (λd hd=>af9 (WE.o d (ahJ hd)) r4.le),HME.o]
    .show(tn:Int)=((txt E4 c.id).length:Int)
     rw[x4.txt Ho.o,HTN.o]
   case measure=>have:=HJ.o;simp[intOf];omega
  .obtain rfl:j=L.length:=by omega
   rw[ahe]at hI
   have mh:aA (∃E' R' v',(Ending.returned (.tuple #[.slice pa L.length pc,.nilIface]):Ending)=.returned (.tuple #[v',.nilIface])/\aW n0 wr B most E'/\iE E'/\Ext E E'/\E'.length<=E.length+L.length*bZ D/\mg W.heap.size wr v' R'/\iT E' t 0 L R'/\Below n0 W wr/\Kt B W wr):=ak ⟨E1,R,_,rfl,hs1,oH,hx1,hn1,hR,hI,hbw,hkt⟩
   clear hR hs1 oH hx1 hn1 hI hbw hkt hj hrl
   go_wp2_with fail
   go_ret2
   exact .inr ⟨by first|rfl|trivial,mh.o⟩
theorem JE{D M:Nat}(hD:GZ D M){n0 B most b0:Nat}{W:World}{E:List En}{v:Value}{ids:List Nat}{ts:List (List Nat)}(hs:aW n0 W B most E)(hwf:iE E)(hv:Ids b0 W v ids)(hb:Wv E ids ts)(hM:ts.flatten.length<=M)(hn:ids.length<=1000)
    (hroom:E.length+ids.length*(3*D+1)<=most) (hE:E.length+ids.length*(3*D+1)<=1048576):
    Calls Tryz.prog 116 #[.pointer (some ⟨B,0,none⟩),v] W (uH n0 B most (ids.length*(3*D+1)) E W ts.flatten):=by
 have hn0:=hs.lt
 obtain⟨va,vc,rfl⟩:=hv.len
 obtain⟨m,hm⟩:=ay (ids.length)
 by_cases h0:m=0
 .subst h0
  have hts:ts=[]:=ahw (by have:=hb.1;omega)
  have mh:aA (∀w,Below W.heap.size W w->uH n0 B most (0*(3*D+1)) E W ts.flatten (.returned (.tuple #[.int .i64 0,.nilIface])) w):=ak (λw hw=>⟨E,0,rfl,hs.below hw,hwf,Ext.refl _,by omega,⟨agb _,by rw[cZ,hts];rfl,rfl⟩,hw.mono hn0,Kt.of hw⟩)
  rw[hm]
  have he:(((0:Nat):Int)==0)=true:=rfl
  clear hs hwf hv hb hM hn hroom hE hn0 hm hts
  go_enter Tryz.func116,Tryz.ntmps116
  go_wp2_with fail
  go_ret2
  exact mh.o _ (af6 _ _)
 have he0:((m:Int)==0)=false:=agh.2 (by omega)
 by_cases h1:m=1
 .subst h1
  obtain⟨g,cap,e1,k0⟩:=qB hv (show 0<ids.length by omega)
  simp only[agn]at e1
  obtain⟨rfl,-,rfl⟩:=e1
  obtain⟨i,rfl⟩:∃i,ids=[i]:=by
   match ids,hm with
   | [i],_=>exact⟨i,rfl⟩
  obtain⟨t,rfl⟩:∃t,ts=[t]:=by
   match ts,hb.1 with
   | [t],_=>exact⟨t,rfl⟩
  have hbb:=hb.2 0 (by simp) (by simp)
  have mh:aA (∀w,Below W.heap.size W w->uH n0 B most (1*(3*D+1)) E W [t].flatten (.returned (.tuple #[.int .i64 (i:Nat),.nilIface])) w):=ak (λw hw=>⟨E,i,rfl,hs.below hw,hwf,Ext.refl _,by omega,by rw[show[t].flatten=t by simp];exact hbb,hw.mono hn0,Kt.of hw⟩)
  rw[hm]
  have he:(((1:Nat):Int)==1)=true:=rfl
  have k0':W.cell? ⟨g,0,none⟩=some (.int .i64 (i:Int)):=k0
  clear hs hwf hv hb hM hn hroom hE hn0 hm hbb k0
  go_enter Tryz.func116,Tryz.ntmps116
  go_wp2_with fail
  go_ret2
  exact mh.o _ (af6 _ _)
 have he1:((m:Int)==1)=false:=agh.2 (by omega)
 have HC:=ak (CG hD hs hwf hv hb hM hn hroom hE)
 rw[hm]at HC⊢
 clear hs hwf hv hb hM hn hroom hE hn0 hm h0 h1
 generalize ts.flatten=G at *
 go_enter Tryz.func116,Tryz.ntmps116
 go_wp2_with fail
 refine HC.o.mono ?_
 intro e w2 hj
 obtain⟨i2,rfl⟩:=hj.ret
 have HZ:=ak hj
 clear hj HC
 go_wp2_with fail
 go_ret2
 exact HZ.o
end M
end
section
open Go.RowKit
namespace M
theorem iT.form{E:List En}(hwf:iE E){t:List Nat}{len nl:Int}(htl:(t.length:Int)=len)(hnl:0<=nl/\nl<=dX):∀{L R:List bH} {m last last2:Int},iT E t m L R->bC len last L=true->(∀c∈L,txt E c.id=[]->c.id=0)->last2<=last+m-> -1<=last2->
    (0<=last\/(last= -1/\m=0))->nl=len+gX E m L->(∀k,k<=L.length->0<=last+1+m)->last<=len->bC nl last2 R=true
 | [],[],_,_,_,_,_,_,_,_,_,_,_,_=>rfl
 | [],_::_,_,_,_,h,_,_,_,_,_,_,_,_=>by cases h
 |_::_,[],_,_,_,h,_,_,_,_,_,_,_,_=>by cases h
 |c::L,d::R,m,last,last2,h,hf,hz,h2,h3,h0,he,hp,hle=>by
  obtain⟨g1,g2,g3,g4,g5,g6⟩:=gG hf
  have hok:eQ len last c=true:=by
   have:bC len last (c::L)=(eQ len last c&&bC len (c.pos+c.n) L):=rfl
   rw[this]at hf
   simp only[agy]at hf
   exact hf.1
  obtain⟨a,b,e⟩:=h.1
  have xK:=hp 0 (agb _)
  have hm':m+((txt E c.id).length-c.n)=m+(d.n-c.n):=by rw[b]
  have hd0:0<=d.n:=by rw[b];omega
  have hmo:gX E m (c::L)=gX E (m+((txt E c.id).length-c.n)) L:=rfl
  rw[hmo,jR]at he
  have hdl:=Js (len:=len) (by omega) g5 (by omega) (by omega)
  have hfit:d.pos+d.n<=nl:=by rw[a];omega
  have hchg:eQ nl last2 d=true:=by
   unfold eQ at hok⊢
   simp only[agy,ahV,ahQ,ajs]at hok⊢
   refine⟨⟨dJ.2 ⟨hnl.1,hnl.2,by omega,hd0,by omega,by omega⟩,by omega⟩,?_⟩
   rcases hok.2 with h5|h5
   .right
    intro hd
    have:=(e.zero hwf).1 hd
    have hl:((t.drop c.pos.toNat).take c.n.toNat).length=0:=by rw[this];rfl
    rw[agB,agp]at hl
    omega
   .left
    intro hd
    apply h5
    refine hz c (by simp) (ahw ?_)
    omega
  show(eQ nl last2 d&&bC nl (d.pos+d.n) R)=true
  rw[hchg,Bool.true_and]
  refine iT.form hwf htl hnl h.2 g5 (λx hx=>hz x (by simp[hx])) (by rw[a,b];omega) (by omega) (.inl (by omega)) (by rw[jR];omega) (λk _=>by omega) (by omega)
end M
end
end Go.Proofs.YtgbhohfabhilgaaGreatDoor
