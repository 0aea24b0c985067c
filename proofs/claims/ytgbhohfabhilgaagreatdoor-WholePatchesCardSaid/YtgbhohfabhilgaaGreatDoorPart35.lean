import Derived.Test.YtgbhohfabhilgaaGreatDoorPart34
set_option maxRecDepth 100000
set_option maxHeartbeats 8000000
set_option linter.unusedVariables false
set_option linter.unusedSimpArgs false
namespace Go.Proofs.YtgbhohfabhilgaaGreatDoor
section
open Go.RowKit Go.Lib
namespace M
attribute [local go_sem] Oper.semAt_some
def MgT(n0 B most g:Nat)(F:List Sy)(E:List En)(W:World)(lo sb pa:Nat)(s:iD)(cs:Array Value)(vL vR vM:Value)(T:List Sy)(e:Ending)(w':World):Prop:=∃E' v' l,e=.returned (.tuple #[v',.nilIface])/\qW n0 B most g F E W lo sb pa W.heap.size s cs vL vR vM E' v' l w'/\aH l=T/\nM l
theorem Tf{n:Nat}{mid l:List It}{r r2:List Sy}(h:uL n mid l r)(e:r=r2):uL n mid l r2:=e▸h
theorem vH{n0 B most g:Nat}{F:List Sy}{E:List En}{W:World}(h:gV n0 B most g F E W){lo sb pa n:Nat}{s:iD}{cs:Array Value}{vL vR vM:Value}(hlo:n0<=lo)(hp:iW W pa B g)(hpa:pa<lo)(hS:bQ W E lo sb pa s cs vL vR vM)(hst:KM s.mid)(ht:f_ n=true)(hF:∀y∈step n (aH s.mid),y∈F)(kM:s.mid.length<=400000)(hfl:(aH s.mid).length<=1152921504606846976):
    Calls Tryz.prog 189 #[.pointer (some ⟨sb,0,none⟩)] W (MgT n0 B most g F E W lo sb pa s cs vL vR vM (step n (aH s.mid))):=by
 have HF:∀f,Fence.wide.fn f:=λ_=>trivial
 obtain⟨W1,hW1,kb,bb⟩:=ng.box W 0 0 0 0
 obtain⟨gb,hgb⟩:=ay (W.heap.size)
 rw[hgb]at kb
 replace hW1:W.alloc (.cells #[.int .i64 0,.int .i64 0,.int .u64 0,.int .i64 0] 254)=W1:=hW1
 have HB:aA (J8 n0 lo gb W vM):=ak ⟨hlo,by have:=hS.lt;have:=hS.low;omega,by omega,λq hq=>by have:=(hS.sj hq).2.2.2.2;omega⟩
 have hm0:qW n0 B most g F E W lo sb pa gb s cs vL vR vM E (.slice none 0 0) [] W:=⟨Gw.refl h,hS,aP.nil _ _ _ _ _,λi hi=>(by cases hi),λi hi=>(by cases hi)⟩
 have yV:aA (yc n0 B most g F E W lo sb pa gb s cs vL vR vM E (.slice none 0 0) [] none W1):=ak ⟨hm0.below bb,λe=>(by cases e),⟨0,0,0,kb⟩⟩
 have fV:=ak hp;have uq:aA (pa<gb):=ak (by have:=hS.lt;have:=hS.low;omega);have HST:=ak hst;have HT:=ak ht;have lN:=ak hF;have pY:=ak (And.intro kM hfl)
 have G5:=ak hgb
 have c11:=(hS.below bb).jD
 obtain⟨L,hL⟩:=ay (s.mid.length)
 have hsh:∃a cap,vM=.slice a L cap:=by rw[<-hL];exact hS.mid.len
 obtain⟨am,Lr,oq⟩:=hsh
 have HV:=ak oq;have HL:=ak hL
 rw[oq]at c11
 clear h hlo hp hpa hS hst ht hF kM hfl oq hL hm0 kb bb
 go_enter Tryz.func189,Tryz.ntmps189
 go_wp2_with fail
 clear c11 hW1 hgb
 go_loopw [4,6,14] (λav ev iv wr=>∃(lv:Value) (E1:List En) (l:List It) (od:Option Sy) (i:Nat),lv=av/\ev=.nilIface/\iv=.int .i64 i/\i<=L/\yc n0 B most g F E W lo sb pa gb s cs vL vR vM E1 lv l od wr/\uL n s.mid l (step n (od.toList++aH (s.mid.drop i)))/\l.length<=2*i) (λ_ _ iv _=>L-(intOf iv).toNat)
 case atStart=>exact⟨.slice none 0 0,E,[],none,0,rfl,rfl,rfl,agb _,yV.o,⟨by rw[cu,agH,agj];rfl,λi hi=>(by cases hi)⟩,af7 _⟩
 case round=>
  obtain⟨lv,E1,l,od,i,rfl,rfl,rfl,hi,hM,hG,hl⟩:=hrel
  by_cases Gj:i<L
  .obtain⟨gm,cap,oq,hc,hat⟩:=hM.m.sp.xI (by intro e;have:=HL.o;rw[e]at this;simp at this;omega)
   have hvv:=HV.o.symm.trans oq
   injection hvv with q1 q2 q3
   subst q1 q3
   obtain⟨it,hit⟩:∃it,s.mid[i]?=some it:=⟨_,agt (by have:=HL.o;omega)⟩
   obtain⟨xi,nxi,ti⟩:=it
   have Ai:=agE hit
   obtain⟨ht1,hn1,hk1⟩:=HST.o _ Ai
   obtain⟨hxm,hym,htb⟩:=hM.m.sp.mem _ Ai
   dsimp only at ht1 hn1 hk1 hxm hym htb
   obtain⟨ix,hix⟩:=ay (num E1 xi)
   obtain⟨kx,hkx⟩:=ay (key xi)
   obtain⟨m0,m1,m2,m3⟩:=hat wr (af6 _ _) i _ hit
   dsimp only at m0 m1 m2 m3
   rw[hix]at m0
   rw[hkx]at m2
   have l1:(i:Int)<(L:Int):=by omega
   have l0:(0:Int)<=(i:Int):=by omega
   have hib:i<=400000:=by have:=pY.o.1;have:=HL.o;omega
   have HI:=ak (And.intro Gj hl)
   have HIT:=ak hit;have HX:=ak (And.intro hxm (And.intro hix hkx))
   obtain⟨g9,DW⟩:=ay (wr.heap.size)
   have hn9:lv.ownBlock≠some g9:=λe=>by
    obtain⟨-,cur,q⟩:=hM.m.ls.blk e
    have:=(aga.1 q).1
    omega
   have HN9:=ak hn9
   have HGZ:aA (g9≠gb):=ak (by have:=hM.lt;omega)
   clear hn9 hi Gj hc hat oq q2
   rcases nxi with _|y
   case' _=>
    obtain rfl:ti=1:=hn1 rfl
    replace m1:wr.cell? ⟨gm,i*4+1,none⟩=some (.int .i64 0):=m1
    replace m3:wr.cell? ⟨gm,i*4+3,none⟩=some (.int .i64 1):=m3
    obtain⟨wz,w2,hz,hs,k2,b2,kz,bz⟩:=ze wr ix 0 kx 1
    rw[DW]at hs k2 kz
    replace hs:(((wz.setCell ⟨g9,0,none⟩ (.int .i64 ix)).setCell ⟨g9,1,none⟩ (.int .i64 0)).setCell ⟨g9,2,none⟩ (.int .u64 kx)).setCell ⟨g9,3,none⟩ (.int .i64 1)=w2:=hs
   rotate_left
   case' _=>
    obtain⟨iy,Ga⟩:=ay (num E1 y)
    replace m1:wr.cell? ⟨gm,i*4+1,none⟩=some (.int .i64 iy):=by rw[<-Ga];exact m1
    replace hym:=hym y rfl
    have hky:key y=kx:=by rw[hk1 y rfl];exact hkx
    have hiy0:0<iy:=by rw[<-Ga];exact(aS hym).1
    have hbn:((iy:Int)==(0:Int))=false:=agh.2 (by omega)
    have hbn':¬(iy:Int)=0:=by omega
    have HY:=ak (And.intro hym (And.intro Ga (And.intro hky (And.intro ht1 htb))))
    clear Ga hky hiy0
    obtain⟨wz,w2,hz,hs,k2,b2,kz,bz⟩:=ze wr ix iy kx ti
    rw[DW]at hs k2 kz
    replace hs:(((wz.setCell ⟨g9,0,none⟩ (.int .i64 ix)).setCell ⟨g9,1,none⟩ (.int .i64 iy)).setCell ⟨g9,2,none⟩ (.int .u64 kx)).setCell ⟨g9,3,none⟩ (.int .i64 ti)=w2:=hs
   rotate_left
   all_goals
    obtain⟨z0,z1,z2,z3,z4⟩:=kz.all
    have Jh:=z4 0;have Ji:=z4 1;have GY:=z4 2;have Jj:=z4 3
    have hM2:=hM.below b2
    obtain⟨b0,b1,b2',b3,-⟩:=k2.all
   case' _=>
    replace b1:w2.cell? ⟨g9,1,none⟩=some (.int .i64 0):=b1
    replace b3:w2.cell? ⟨g9,3,none⟩=some (.int .i64 1):=b3
   rotate_left
   case' _=>
    replace b1:w2.cell? ⟨g9,1,none⟩=some (.int .i64 iy):=b1
    replace b3:w2.cell? ⟨g9,3,none⟩=some (.int .i64 ti):=b3
   rotate_left
   all_goals
    have kZ:=ak hM2;have nY:=ak k2
    have CB:aA (iW w2 pa B g):=ak (fV.o.kp kZ.o.m.gw.kp (by have:=uq.o;omega))
    clear hM k2 b2 kz bz z4 hxm hix hkx hit Ai hl hk1 ht1 htb hn1 hym
   .rcases od with _|o
    .obtain⟨ob,ok,ot,hoi⟩:=kZ.o.od
     obtain⟨o0,o1,o2,o3,o4⟩:=hoi.all
     replace o0:w2.cell? ⟨gb,0,none⟩=some (.int .i64 0):=o0
     have YK:=o4 0;have YL:=o4 1;have YM:=o4 2;have YN:=o4 3
     have hR:=kZ.o.put HB.o HX.o.1
     rw[HX.o.2.1,HX.o.2.2]at hR
     have HR:=ak hR
     have hG3:=Tf hG (show step n ((none:Option Sy).toList++aH (s.mid.drop i))=step n ((some xi).toList++aH (s.mid.drop (i+1))) by
      show step n (aH (s.mid.drop i))=step n (xi::aH (s.mid.drop (i+1)))
      rw[Rh HST.o HIT.o rfl])
     have qJ:=ak hG3
     clear o4 hoi hR hG3 hG
     go_wp2_with fail
     go_roundw
     case rel=>exact⟨lv,E1,_,some xi,i+1,rfl,rfl,by first|rfl|go_num,by have:=HI.o.1;omega,HR.o,qJ.o,by have:=HI.o.2;omega⟩
     case measure=>have:=HI.o.1;simp[intOf];omega
    .obtain⟨hoi,EM⟩:=kZ.o.od
     obtain⟨io,Dp⟩:=ay (num E1 o)
     obtain⟨ko,hko⟩:=ay (key o)
     rw[Dp,hko]at hoi
     obtain⟨o0,o1,o2,o3,o4⟩:=hoi.all
     replace o1:w2.cell? ⟨gb,1,none⟩=some (.int .i64 0):=o1
     replace o3:w2.cell? ⟨gb,3,none⟩=some (.int .i64 1):=o3
     have Ls:0<io:=by rw[<-Dp];exact(aS EM).1
     have Wq:((io:Int)==(0:Int))=false:=agh.2 (by omega)
     have Ph:¬(io:Int)=0:=by omega
     have Pj:((io:Int) !=(0:Int))=true:=by unfold bne;rw[Wq];rfl
     have HOO:=ak (And.intro EM (And.intro Dp hko))
     by_cases hke:key o=key xi
     .obtain rfl:ko=kx:=by have:=HX.o.2.2;omega
      have hrest:step n ((some o).toList++aH (s.mid.drop i))=List.replicate 1 (.pr o xi)++step n ((none:Option Sy).toList++aH (s.mid.drop (i+1))):=acA HT.o HST.o HIT.o rfl hke
      have hsum:=uL.sum hG pY.o.2 hrest
      have Jn:Sy.pr o xi∈F:=lN.o _ (uL.mem hG (by rw[hrest];simp))
      have hG3:=uL.push hG (af7 1) hrest
      have xK:=kZ.o.pair HB.o CB.o EM HX.o.1 Jn (t:=1) hsum.1 (by have:=HI.o.2;omega) hsum.2
      rw[Dp,HX.o.2.1]at xK
      have Wi:=ak xK
      have qJ:=ak hG3
      clear hoi EM Dp hko Ls o4 hke hrest hsum Jn hG3 xK hG
      go_wp2_with fail
      clear DW hz hs z0 z1 z2 z3 Jh Ji GY Jj m0 m1 m2 m3 o0 o1 o2 o3 b0 b1 b2' b3 Wq Ph Pj
      refine Wi.o.mono ?_
      rintro e w7 ⟨E7,v7,rfl,Tg,hk7,hx7⟩
      have Pk:=nY.o.kb hk7 HN9.o
      have aaS:=hk7.ne HN9.o (aga.1 nY.o).1
      obtain⟨b0,b1,b2',b3,-⟩:=Pk.all
      replace b1:w7.cell? ⟨g9,1,none⟩=some (.int .i64 0):=b1
      replace b3:w7.cell? ⟨g9,3,none⟩=some (.int .i64 1):=b3
      have Ti:=ak Tg
      obtain⟨oa,ob,ok,ot,hoi⟩:=Ti.o.od.YJ
      obtain⟨o0,o1,o2,o3,o4⟩:=hoi.all
      have YK:=o4 0;have YL:=o4 1;have YM:=o4 2;have YN:=o4 3
      have HR:=ak (Ti.o.put0 HB.o ko)
      clear o4 hoi Tg hk7 hx7 Pk aaS
      go_wp2_with fail
      go_roundw
      case rel=>exact⟨v7,E7,_,none,i+1,rfl,rfl,by first|rfl|go_num,by have:=HI.o.1;omega,HR.o,qJ.o,by have:=HI.o.2;have:=fP l ⟨.pr o xi,none,1⟩;omega⟩
      case measure=>have:=HI.o.1;simp[intOf];omega
     .have hbk:((ko:Int)==(kx:Int))=false:=agh.2 (by have:=HX.o.2.2;omega)
      have hbk':¬(ko:Int)=(kx:Int):=by have:=HX.o.2.2;omega
      have hbk2:((ko:Int) !=(kx:Int))=true:=by unfold bne;rw[hbk];rfl
      have hrest:step n ((some o).toList++aH (s.mid.drop i))=List.replicate 1 o++step n ((none:Option Sy).toList++aH (s.mid.drop i)):=Xq HT.o HST.o HIT.o hke
      have hsum:=uL.sum hG pY.o.2 hrest
      have hG2:=uL.push hG (af7 1) hrest
      have zQ:=kZ.o.push HB.o EM (by have:=HI.o.2;omega) hsum.2
      rw[Dp,hko]at zQ
      have Hl:=ak zQ
      clear hoi EM Dp hko Ls o4 hke hrest hsum zQ hG
      go_wp2_with fail
      clear DW hz hs z0 z1 z2 z3 Jh Ji GY Jj m0 m1 m2 m3 o0 o1 o2 o3 b0 b1 b2' b3 hbk hbk' hbk2 Wq Ph Pj
      refine Hl.o.mono ?_
      rintro e w5 ⟨v5,rfl,zR,hk5⟩
      obtain⟨a5,c5,k5,t5,hi5⟩:=zR.od.YJ
      obtain⟨p0,-,-,-,p4⟩:=hi5.all
      have fp0:=p4 0
      obtain⟨w6,dH⟩:=ay (w5.setCell ⟨gb,0,none⟩ (.int .i64 0))
      have vG:=zR.clr HB.o
      rw[dH]at vG
      have Pg:=ak vG
      have Pk:ng w6 g9 ix 0 kx 1:=by
       have q:=nY.o.kb hk5 HN9.o
       rw[<-dH]
       exact aI (aK w5 ⟨gb,0,none⟩ _) q HGZ.o
      obtain⟨b0,b1,b2',b3,-⟩:=Pk.all
      replace b1:w6.cell? ⟨g9,1,none⟩=some (.int .i64 0):=b1
      replace b3:w6.cell? ⟨g9,3,none⟩=some (.int .i64 1):=b3
      have Le:aA (iW w6 pa B g):=ak (fV.o.kp Pg.o.m.gw.kp (by have:=uq.o;omega))
      have hG:=hG2
      clear zR hk5 hi5 p4 vG Pk hG2
      obtain⟨ob,ok,ot,hoi⟩:=Pg.o.od
      obtain⟨o0,o1,o2,o3,o4⟩:=hoi.all
      replace o0:w6.cell? ⟨gb,0,none⟩=some (.int .i64 0):=o0
      have YK:=o4 0;have YL:=o4 1;have YM:=o4 2;have YN:=o4 3
      have hR:=Pg.o.put HB.o HX.o.1
      rw[HX.o.2.1,HX.o.2.2]at hR
      have HR:=ak hR
      have hG3:=Tf hG (show step n ((none:Option Sy).toList++aH (s.mid.drop i))=step n ((some xi).toList++aH (s.mid.drop (i+1))) by
       show step n (aH (s.mid.drop i))=step n (xi::aH (s.mid.drop (i+1)))
       rw[Rh HST.o HIT.o rfl])
      have qJ:=ak hG3
      clear o4 hoi hR hG3 hG
      go_wp2_with fail
      go_roundw
      case rel=>exact⟨v5,E1,_,some xi,i+1,rfl,rfl,by first|rfl|go_num,by have:=HI.o.1;omega,HR.o,qJ.o,by have:=HI.o.2;have:=fP l ⟨o,none,1⟩;omega⟩
      case measure=>have:=HI.o.1;simp[intOf];omega
   .rcases od with _|o
    .obtain⟨ob,ok,ot,hoi⟩:=kZ.o.od
     obtain⟨o0,o1,o2,o3,o4⟩:=hoi.all
     replace o0:w2.cell? ⟨gb,0,none⟩=some (.int .i64 0):=o0
     have YK:=o4 0;have YL:=o4 1;have YM:=o4 2;have YN:=o4 3
     have hrest:step n ((none:Option Sy).toList++aH (s.mid.drop i))=List.replicate ti (.pr xi y)++step n (aH (s.mid.drop (i+1))):=Xr HT.o HST.o HIT.o rfl
     have hsum:=uL.sum hG pY.o.2 hrest
     have Jn:Sy.pr xi y∈F:=lN.o _ (uL.mem hG (by rw[hrest];exact ahd _ (aiI.2 ⟨by have:=HY.o.2.2.2.1;omega,rfl⟩)))
     have hG3:=uL.push hG HY.o.2.2.2.1 hrest
     have qJ:=ak hG3
     have xK:=kZ.o.pair HB.o CB.o HX.o.1 HY.o.1 Jn (t:=ti) HY.o.2.2.2.2 (by have:=HI.o.2;omega) hsum.2
     rw[HX.o.2.1,HY.o.2.1]at xK
     have Wi:=ak xK
     clear o4 hoi hrest hsum Jn hG3 hG xK
     go_wp2_with fail
     clear o0 o1 o2 o3 YK YL YM YN DW hz hs z0 z1 z2 z3 Jh Ji GY Jj m0 m1 m2 m3 b0 b1 b2' b3
     refine Wi.o.mono ?_
     rintro e w7 ⟨E7,v7,rfl,Tg,-,-⟩
     have Ti:=ak Tg
     clear Tg
     go_wp2_with fail
     go_roundw
     case rel=>exact⟨v7,E7,_,none,i+1,rfl,rfl,by first|rfl|go_num,by have:=HI.o.1;omega,Ti.o,qJ.o,by have:=HI.o.2;have:=fP l ⟨.pr xi y,none,ti⟩;omega⟩
     case measure=>have:=HI.o.1;simp[intOf];omega
    .obtain⟨hoi,EM⟩:=kZ.o.od
     obtain⟨io,Dp⟩:=ay (num E1 o)
     obtain⟨ko,hko⟩:=ay (key o)
     rw[Dp,hko]at hoi
     obtain⟨o0,o1,o2,o3,o4⟩:=hoi.all
     replace o1:w2.cell? ⟨gb,1,none⟩=some (.int .i64 0):=o1
     replace o3:w2.cell? ⟨gb,3,none⟩=some (.int .i64 1):=o3
     have Ls:0<io:=by rw[<-Dp];exact(aS EM).1
     have Wq:((io:Int)==(0:Int))=false:=agh.2 (by omega)
     have Ph:¬(io:Int)=0:=by omega
     have Pj:((io:Int) !=(0:Int))=true:=by unfold bne;rw[Wq];rfl
     have HOO:=ak (And.intro EM (And.intro Dp hko))
     by_cases hke:key o=key xi
     .obtain rfl:ko=kx:=by have:=HX.o.2.2;omega
      have hrest:step n ((some o).toList++aH (s.mid.drop i))=List.replicate 1 (.pr o xi)++(List.replicate (ti-1) (.pr y xi)++step n ((some y).toList++aH (s.mid.drop (i+1)))):=acB HT.o HST.o HIT.o rfl hke
      have hsum:=uL.sum hG pY.o.2 hrest
      have Jn:Sy.pr o xi∈F:=lN.o _ (uL.mem hG (by rw[hrest];simp))
      have hG3:=uL.push hG (af7 1) hrest
      have xK:=kZ.o.pair HB.o CB.o EM HX.o.1 Jn (t:=1) hsum.1 (by have:=HI.o.2;omega) hsum.2
      rw[Dp,HX.o.2.1]at xK
      have Wi:=ak xK
      have qJ:=ak hG3
      clear hoi EM Dp hko Ls o4 hke hrest hsum Jn hG3 xK hG
      go_wp2_with fail
      clear DW hz hs z0 z1 z2 z3 Jh Ji GY Jj m0 m1 m2 m3 o0 o1 o2 o3 b0 b1 b2' b3 Wq Ph Pj
      refine Wi.o.mono ?_
      rintro e w7 ⟨E7,v7,rfl,Tg,hk7,hx7⟩
      have Pk:=nY.o.kb hk7 HN9.o
      have aaS:=hk7.ne HN9.o (aga.1 nY.o).1
      obtain⟨b0,b1,b2',b3,-⟩:=Pk.all
      replace b1:w7.cell? ⟨g9,1,none⟩=some (.int .i64 iy):=b1
      replace b3:w7.cell? ⟨g9,3,none⟩=some (.int .i64 ti):=b3
      have Ti:=ak Tg
      have aaT:aA (num E7 y=iy):=ak (by rw[eZ hx7 HY.o.1];exact HY.o.2.1)
      by_cases htt:ti=1
      .have hgt:¬(1:Int)<(ti:Int):=by omega
       have hG4:=qJ.o
       rw[htt]at hG4
       have xZ:=ak hG4
       obtain⟨oa,ob,ok,ot,hoi⟩:=Ti.o.od.YJ
       obtain⟨o0,o1,o2,o3,o4⟩:=hoi.all
       have YK:=o4 0;have YL:=o4 1;have YM:=o4 2;have YN:=o4 3
       have hR:=Ti.o.put HB.o (hx7.mem HY.o.1)
       rw[aaT.o,HY.o.2.2.1]at hR
       have HR:=ak hR
       clear o4 hoi hR
       go_wp2_with fail
       go_roundw
       case rel=>exact⟨v7,E7,_,some y,i+1,rfl,rfl,by first|rfl|go_num,by have:=HI.o.1;omega,HR.o,Tf xZ.o rfl,by have:=HI.o.2;have:=fP l ⟨.pr o xi,none,1⟩;omega⟩
       case measure=>have:=HI.o.1;simp[intOf];omega
      .have hgt:(1:Int)<(ti:Int):=by have:=HY.o.2.2.2.1;omega
       have hrest:∀r:List Sy,List.replicate (ti-1) (Sy.pr y xi)++r=List.replicate (ti-1) (Sy.pr y xi)++r:=λ_=>rfl
       have hsum:=uL.sum qJ.o pY.o.2 (hrest _)
       have Jn:Sy.pr y xi∈F:=lN.o _ (uL.mem qJ.o (ahd _ (aiI.2 ⟨by have:=HY.o.2.2.2.1;omega,rfl⟩)))
       have hG4:=uL.push qJ.o (by have:=HY.o.2.2.2.1;omega) (hrest _)
       have HPA7:aA (iW w7 pa B g):=ak (fV.o.kp Ti.o.m.gw.kp (by have:=uq.o;omega))
       have xK:=Ti.o.pair HB.o HPA7.o (hx7.mem HY.o.1) (hx7.mem HX.o.1) Jn (t:=ti-1) hsum.1 (by have:=HI.o.2;have:=fP l ⟨.pr o xi,none,1⟩;omega) hsum.2
       obtain⟨t1,hti1⟩:=ay (ti-1)
       rw[hti1]at xK hG4
       have xZ:=ak hG4
       rw[aaT.o,eZ hx7 HX.o.1,HX.o.2.1]at xK
       have HPP7:=ak xK
       have htb:=HY.o.2.2.2.2
       have lw:wrap64 ((ti:Int)-1)=(t1:Int):=by unfold wrap64;omega
       have lw3:(ti:Int)-1=(t1:Int):=by omega
       clear hrest hsum Jn hG4 xK Tg hk7 htt
       go_wp2_with fail
       clear b0 b1 b2' b3 hgt lw lw3
       refine HPP7.o.mono ?_
       rintro e w8 ⟨E8,v8,rfl,hm8,hk8,hx8⟩
       have Pk:=Pk.kb hk8 aaS
       obtain⟨b0,b1,b2',b3,-⟩:=Pk.all
       have HM8:=ak hm8
       have HNY8:aA (num E8 y=iy):=ak (by rw[eZ hx8 (hx7.mem HY.o.1)];exact aaT.o)
       obtain⟨oa,ob,ok,ot,hoi⟩:=HM8.o.od.YJ
       obtain⟨o0,o1,o2,o3,o4⟩:=hoi.all
       have YK:=o4 0;have YL:=o4 1;have YM:=o4 2;have YN:=o4 3
       have hR:=HM8.o.put HB.o (hx8.mem (hx7.mem HY.o.1))
       rw[HNY8.o,HY.o.2.2.1]at hR
       have HR:=ak hR
       clear o4 hoi hR
       go_wp2_with fail
       go_roundw
       case rel=>exact⟨v8,E8,_,some y,i+1,rfl,rfl,by first|rfl|go_num,by have:=HI.o.1;omega,HR.o,xZ.o,by have:=HI.o.2;have:=fP l ⟨.pr o xi,none,1⟩;have:=fP (bO l ⟨.pr o xi,none,1⟩) ⟨.pr y xi,none,t1⟩;omega⟩
       case measure=>have:=HI.o.1;simp[intOf];omega
     .have hbk:((ko:Int)==(kx:Int))=false:=agh.2 (by have:=HX.o.2.2;omega)
      have hbk':¬(ko:Int)=(kx:Int):=by have:=HX.o.2.2;omega
      have hbk2:((ko:Int) !=(kx:Int))=true:=by unfold bne;rw[hbk];rfl
      have hrest:step n ((some o).toList++aH (s.mid.drop i))=List.replicate 1 o++step n ((none:Option Sy).toList++aH (s.mid.drop i)):=Xq HT.o HST.o HIT.o hke
      have hsum:=uL.sum hG pY.o.2 hrest
      have hG2:=uL.push hG (af7 1) hrest
      have zQ:=kZ.o.push HB.o EM (by have:=HI.o.2;omega) hsum.2
      rw[Dp,hko]at zQ
      have Hl:=ak zQ
      clear hoi EM Dp hko Ls o4 hke hrest hsum zQ hG
      go_wp2_with fail
      clear DW hz hs z0 z1 z2 z3 Jh Ji GY Jj m0 m1 m2 m3 o0 o1 o2 o3 b0 b1 b2' b3 hbk hbk' hbk2 Wq Ph Pj
      refine Hl.o.mono ?_
      rintro e w5 ⟨v5,rfl,zR,hk5⟩
      obtain⟨a5,c5,k5,t5,hi5⟩:=zR.od.YJ
      obtain⟨p0,-,-,-,p4⟩:=hi5.all
      have fp0:=p4 0
      obtain⟨w6,dH⟩:=ay (w5.setCell ⟨gb,0,none⟩ (.int .i64 0))
      have vG:=zR.clr HB.o
      rw[dH]at vG
      have Pg:=ak vG
      have Pk:ng w6 g9 ix iy kx ti:=by
       have q:=nY.o.kb hk5 HN9.o
       rw[<-dH]
       exact aI (aK w5 ⟨gb,0,none⟩ _) q HGZ.o
      obtain⟨b0,b1,b2',b3,-⟩:=Pk.all
      replace b1:w6.cell? ⟨g9,1,none⟩=some (.int .i64 iy):=b1
      replace b3:w6.cell? ⟨g9,3,none⟩=some (.int .i64 ti):=b3
      have Le:aA (iW w6 pa B g):=ak (fV.o.kp Pg.o.m.gw.kp (by have:=uq.o;omega))
      have hG:=hG2
      clear zR hk5 hi5 p4 vG Pk hG2
      obtain⟨ob,ok,ot,hoi⟩:=Pg.o.od
      obtain⟨o0,o1,o2,o3,o4⟩:=hoi.all
      replace o0:w6.cell? ⟨gb,0,none⟩=some (.int .i64 0):=o0
      have YK:=o4 0;have YL:=o4 1;have YM:=o4 2;have YN:=o4 3
      have hrest:step n ((none:Option Sy).toList++aH (s.mid.drop i))=List.replicate ti (.pr xi y)++step n (aH (s.mid.drop (i+1))):=Xr HT.o HST.o HIT.o rfl
      have hsum:=uL.sum hG pY.o.2 hrest
      have Jn:Sy.pr xi y∈F:=lN.o _ (uL.mem hG (by rw[hrest];exact ahd _ (aiI.2 ⟨by have:=HY.o.2.2.2.1;omega,rfl⟩)))
      have hG3:=uL.push hG HY.o.2.2.2.1 hrest
      have qJ:=ak hG3
      have xK:=Pg.o.pair HB.o Le.o HX.o.1 HY.o.1 Jn (t:=ti) HY.o.2.2.2.2 (by have:=HI.o.2;have:=fP l ⟨o,none,1⟩;omega) hsum.2
      rw[HX.o.2.1,HY.o.2.1]at xK
      have Wi:=ak xK
      clear o4 hoi hrest hsum Jn hG3 hG xK
      go_wp2_with fail
      clear o0 o1 o2 o3 YK YL YM YN p0 fp0 dH b0 b1 b2' b3
      refine Wi.o.mono ?_
      rintro e w7 ⟨E7,v7,rfl,Tg,-,-⟩
      have Ti:=ak Tg
      clear Tg
      go_wp2_with fail
      go_roundw
      case rel=>exact⟨v7,E7,_,none,i+1,rfl,rfl,by first|rfl|go_num,by have:=HI.o.1;omega,Ti.o,qJ.o,by have:=HI.o.2;have:=fP l ⟨o,none,1⟩;have:=fP (bO l ⟨o,none,1⟩) ⟨.pr xi y,none,ti⟩;omega⟩
      case measure=>have:=HI.o.1;simp[intOf];omega
  .have Wl:i=L:=by omega
   have l1:¬(i:Int)<(L:Int):=by omega
   have hnil:∀r:List Sy,r.length<=1->step n (r++aH (s.mid.drop i))=r:=λr hr=>Vf (by have:=HL.o;omega) n r hr
   rcases od with _|o
   .obtain⟨ob,ok,ot,hoi⟩:=hM.od
    obtain⟨o0,-,-,-,-⟩:=hoi.all
    replace o0:wr.cell? ⟨gb,0,none⟩=some (.int .i64 0):=o0
    have hR:MgT n0 B most g F E W lo sb pa s cs vL vR vM (step n (aH s.mid)) (.returned (.tuple #[lv,.nilIface])) wr:=⟨E1,lv,l,rfl,by rw[G5.o];exact hM.m,by have:=hG.eq;rw[hnil _ (by decide)]at this;rw[this];show _=aH l++[];rw[agi],hG.JX⟩
    have HR:=ak hR
    clear hi hM hG hl Gj Wl hnil hoi hR
    go_wp2_with fail
    exact af_ (v:=.tuple #[lv,.nilIface]) (by simp[results,Tryz.results189,go_sem]) rfl HR.o
   .obtain⟨hoi,EM⟩:=hM.od
    obtain⟨io,Dp⟩:=ay (num E1 o)
    obtain⟨ko,hko⟩:=ay (key o)
    rw[Dp,hko]at hoi
    obtain⟨o0,o1,o2,o3,o4⟩:=hoi.all
    replace o1:wr.cell? ⟨gb,1,none⟩=some (.int .i64 0):=o1
    replace o3:wr.cell? ⟨gb,3,none⟩=some (.int .i64 1):=o3
    have Ls:0<io:=by rw[<-Dp];exact(aS EM).1
    have Wq:((io:Int)==(0:Int))=false:=agh.2 (by omega)
    have Ph:¬(io:Int)=0:=by omega
    have Pj:((io:Int) !=(0:Int))=true:=by unfold bne;rw[Wq];rfl
    have hrest:step n ((some o).toList++aH (s.mid.drop i))=List.replicate 1 o++[]:=hnil [o] (af7 1)
    have hsum:=uL.sum hG pY.o.2 hrest
    have HG2:=ak (uL.push hG (af7 1) hrest)
    have zQ:=hM.push HB.o EM (by have:=pY.o.1;have:=HL.o;omega) hsum.2
    rw[Dp,hko]at zQ
    have Hl:=ak zQ
    clear hi hM hG hl Gj Wl hnil hoi EM Dp hko Ls hrest hsum zQ o4
    go_wp2_with fail
    clear o0 o1 o2 o3
    refine Hl.o.mono ?_
    rintro e w5 ⟨v5,rfl,zR,-⟩
    have hR:MgT n0 B most g F E W lo sb pa s cs vL vR vM (step n (aH s.mid)) (.returned (.tuple #[v5,.nilIface])) w5:=⟨E1,v5,_,rfl,by rw[G5.o];exact zR.m,by have:=HG2.o.eq;rw[agi]at this;exact this.symm,HG2.o.JX⟩
    have HR:=ak hR
    clear zR hR
    go_wp2_with fail
    exact af_ (v:=.tuple #[v5,.nilIface]) (by simp[results,Tryz.results189,go_sem]) rfl HR.o
theorem Qf.path{e:Ed}(h:Qf e):(EF e).length<=1000000/\∀y k q,EF e=(y,k)::q->k<=(aZ y).length:=by
 cases e with
 |none=>exact⟨agb _,λy k q e=>by cases e⟩
 |some p=>
  obtain⟨p,x⟩:=p
  obtain⟨a,b,c⟩:=h p x rfl
  refine⟨c,λy k q e=>?_⟩
  have e':p=(y,k)::q:=e
  exact(a (y,k) (by rw[e'];simp)).2.1
theorem qW.fin{n0 B most g:Nat}{F:List Sy}{E0 E:List En}{W0 w:World}{lo sb pa n1:Nat}{s:iD}{cs:Array Value}{vL vR vM lv:Value}{l:List It}(h:qW n0 B most g F E0 W0 lo sb pa n1 s cs vL vR vM E lv l w)(hb:J8 n0 lo n1 W0 vM):
    bQ (w.setCell ⟨sb,11,none⟩ lv) E lo sb pa ⟨s.L,l,s.R⟩ (cs.setIfInBounds 11 lv) vL vR lv/\Gw n0 B most g F (λq=>lo<=q) E0 E W0 (w.setCell ⟨sb,11,none⟩ lv):=by
 obtain⟨a,b,-⟩:=h.sp.SK h.gw.st hb.l0 (bS.of (af6 w.heap.size w)) ((af6 w.heap.size w).mono (by have:=h.sp.lt;have:=h.sp.low;omega)) (h.ls.mono hb.l1) h.ok
 exact⟨a,(h.gw.mono λq _ hq=>af9 hb.l1 hq).trans b⟩
structure Tj(n:Nat)(l:List It):Prop where
 odd:n%2=1->nM l
 tie:n%2=0->f_ n=true->KM l
 one:n%2=0->f_ n=false->One l
def MgZ(n0 B most g:Nat)(F:List Sy)(E:List En)(W:World)(lo sb pa n:Nat)(s:iD)(e:Ending)(w':World):Prop:=e=.returned .nilIface/\∃E' m,aH m=step n (aH s.mid)/\nM m/\(n%2=1->One m)/\kC n0 B most g F E W lo sb pa ⟨oD n s.L,m,oD n s.R⟩ E' w'
theorem Po{n0 B most g:Nat}{F:List Sy}{E:List En}{W:World}(h:gV n0 B most g F E W){lo sb pa n:Nat}{s:iD}{cs:Array Value}{vL vR vM:Value}(hlo:n0<=lo)(hp:iW W pa B g)(hpa:pa<lo)(hS:bQ W E lo sb pa s cs vL vR vM)(hBL:Qf s.L)(hBR:Qf s.R)(hmid:Tj n s.mid)(hF:∀y∈step n (aH s.mid),y∈F)(kM:s.mid.length<=400000)(hfl:(aH s.mid).length<=1152921504606846976)(hn1:1<=n)(hn:n<=100001):
    Calls Tryz.prog 148 #[.pointer (some ⟨sb,0,none⟩),vI n] W (MgZ n0 B most g F E W lo sb pa n s):=by
 have HF:∀f,Fence.wide.fn f:=λ_=>trivial
 have HB:aA (J8 n0 lo W.heap.size W vM):=ak ⟨hlo,by have:=hS.lt;have:=hS.low;omega,af7 _,λq hq=>(hS.sj hq).2.2.2.2⟩
 have fV:=ak hp;have eG:=ak (And.intro hlo (And.intro hpa hS.low));have HN:=ak (And.intro hn1 hn)
 have HEL:=ak hBL.path;have HER:=ak hBR.path
 have hUL:∀(E6:List En) (w6:World) (J2:Array Value) (v6:Value) (m:List It),bQ w6 E6 lo sb pa ⟨s.L,m,s.R⟩ J2 vL vR v6->Gw n0 B most g F (λq=>lo<=q) E E6 W w6->Calls Tryz.prog 146 #[.pointer (some ⟨sb,1,none⟩),.int .i64 n] w6 λr w'=>r=.returned (.tuple #[])/\∃Nc Qg,bQ w' E6 lo sb pa ⟨oD n s.L,m,s.R⟩ Nc Qg vR v6/\Gw n0 B most g F (λq=>lo<=q) E E6 W w':=λE6 w6 J2 v6 m hs hg=>by
  have xK:iW _ pa B g:=fV.o.kp hg.kp (by have:=eG.o;omega)
  refine(Lh hg.st (fO eG.o.1 eG.o.2.2) xK hs.left HN.o.1 HEL.o.1 HEL.o.2).mono ?_
  rintro r w' ⟨rfl,hq⟩
  obtain⟨Nc,Qg,a,b⟩:=hs.opL hg.st.wf.wf hq
  exact⟨rfl,Nc,Qg,a,hg.trans b⟩
 have hUR:∀(E6:List En) (w6:World) (J2:Array Value) (v6 Qg:Value) (m:List It),bQ w6 E6 lo sb pa ⟨oD n s.L,m,s.R⟩ J2 Qg vR v6->Gw n0 B most g F (λq=>lo<=q) E E6 W w6->Calls Tryz.prog 146 #[.pointer (some ⟨sb,6,none⟩),.int .i64 n] w6 λr w'=>r=.returned (.tuple #[])/\kC n0 B most g F E W lo sb pa ⟨oD n s.L,m,oD n s.R⟩ E6 w':=λE6 w6 J2 v6 Qg m hs hg=>by
  have xK:iW _ pa B g:=fV.o.kp hg.kp (by have:=eG.o;omega)
  refine(Lh hg.st (fO eG.o.1 eG.o.2.2) xK hs.right HN.o.1 HER.o.1 HER.o.2).mono ?_
  rintro r w' ⟨rfl,hq⟩
  obtain⟨Nc,vR7,a,b⟩:=hs.UC hg.st.wf.wf hq
  exact⟨rfl,Nc,_,_,_,a,hg.trans b⟩
 have ut:=ak hUL
 have HUR:=ak hUR
 have hcore:(n%2=1->Calls Tryz.prog 188 #[.pointer (some ⟨sb,0,none⟩)] W (MgP n0 B most g F E W lo sb pa s cs vL vR vM (step n (aH s.mid)) One))/\(n%2=0->f_ n=true->Calls Tryz.prog 189 #[.pointer (some ⟨sb,0,none⟩)] W (MgT n0 B most g F E W lo sb pa s cs vL vR vM (step n (aH s.mid))))/\(n%2=0->f_ n=false->Calls Tryz.prog 190 #[.pointer (some ⟨sb,0,none⟩),.int .i64 n] W (MgP n0 B most g F E W lo sb pa s cs vL vR vM (step n (aH s.mid)) nM)):=
  ⟨λq=>D5 h hlo hp hpa hS (hmid.odd q) q hF (by omega) hfl,λq t=>vH h hlo hp hpa hS (hmid.tie q t) t hF kM hfl,λq t=>CE h hlo hp hpa hS (hmid.one q t) q hF (by omega) hfl hn⟩
 have HC:=ak hcore
 have Pp:=ak (zP W n (by omega))
 have htie:n%2=0->(Au n).2.2=f_ n:=λq=>Nr q (by omega)
 clear h hlo hp hpa hS hBL hBR hmid hF kM hfl hcore hUL hUR
 rcases(show n%2=1\/n%2=0 by omega)with hod|hev
 .have HR:=ak (HC.o.1 hod)
  have HOD:=ak hod
  have hb0:(n:Int).tmod 2=1:=by rw[ah0 (by omega)];omega
  have hb1:(n:Int)%2=1:=by omega
  clear Pp htie hod
  go_enter Tryz.func148,Tryz.ntmps148
  go_wp2_with fail
  refine HR.o.mono ?_
  rintro e w6 ⟨E6,v6,l6,rfl,vG,YP,YQ,-⟩
  obtain⟨a6,k6,hv6⟩:=vG.ls.len
  obtain⟨m6,Jp⟩:=ay (l6.length)
  rw[Jp]at hv6
  subst hv6
  clear Jp
  have hfin:=vG.fin HB.o
  have c11:=vG.sp.jD
  have f11:=vG.sp.free 11
  obtain⟨w7,hw7⟩:=ay (w6.setCell ⟨sb,11,none⟩ (.slice a6 m6 k6))
  rw[hw7]at hfin
  have HL:=ak (ut.o _ _ _ _ _ hfin.1 hfin.2)
  have HQ:=ak (And.intro YP YQ)
  clear vG YP YQ hfin hb0 hb1
  go_wp2_with fail
  clear hw7 c11 f11
  refine HL.o.mono ?_
  rintro e w8 ⟨rfl,cs8,vL8,YR,EJ⟩
  have ni:=ak (HUR.o _ _ _ _ _ _ YR EJ)
  clear YR EJ
  go_wp2_with fail
  refine ni.o.mono ?_
  rintro e w9 ⟨rfl,YS⟩
  have J5:=ak YS
  clear YS
  go_wp2_with fail
  exact af_ (v:=.nilIface) (by simp[results,Tryz.results148,go_sem]) rfl ⟨rfl,E6,l6,HQ.o.1,HQ.o.2.JX,λ_=>HQ.o.2,J5.o⟩
 .have hb0:¬(n:Int).tmod 2=1:=by rw[ah0 (by omega)];omega
  have hb1:¬(n:Int)%2=1:=by omega
  have hb2:(n:Int).tmod 2=0:=by rw[ah0 (by omega)];omega
  have Un:=ak hev
  rw[htie hev]at Pp
  obtain⟨n1,hn1'⟩:=ay ((Au n).1)
  obtain⟨n2,afl⟩:=ay ((Au n).2.1)
  rw[hn1',afl]at Pp
  clear hn1' afl htie hev
  cases htl:f_ n with
  |true=>
   rw[htl]at Pp
   have HR:=ak (HC.o.2.1 Un.o htl)
   clear htl
   go_enter Tryz.func148,Tryz.ntmps148
   go_wp2_with fail
   clear hb0 hb1 hb2
   refine Pp.o.mono ?_
   rintro e w5 ⟨rfl,eH⟩
   obtain rfl:W=w5:=eH.symm
   go_wp2_with fail
   refine HR.o.mono ?_
   rintro e w6 ⟨E6,v6,l6,rfl,vG,YP,YQ⟩
   obtain⟨a6,k6,hv6⟩:=vG.ls.len
   obtain⟨m6,Jp⟩:=ay (l6.length)
   rw[Jp]at hv6
   subst hv6
   clear Jp
   have hfin:=vG.fin HB.o
   have c11:=vG.sp.jD
   have f11:=vG.sp.free 11
   obtain⟨w7,hw7⟩:=ay (w6.setCell ⟨sb,11,none⟩ (.slice a6 m6 k6))
   rw[hw7]at hfin
   have HL:=ak (ut.o _ _ _ _ _ hfin.1 hfin.2)
   have HQ:=ak (And.intro YP YQ)
   clear vG YP YQ hfin
   go_wp2_with fail
   clear hw7 c11 f11
   refine HL.o.mono ?_
   rintro e w8 ⟨rfl,cs8,vL8,YR,EJ⟩
   have ni:=ak (HUR.o _ _ _ _ _ _ YR EJ)
   clear YR EJ
   go_wp2_with fail
   refine ni.o.mono ?_
   rintro e w9 ⟨rfl,YS⟩
   have J5:=ak YS
   clear YS
   go_wp2_with fail
   exact af_ (v:=.nilIface) (by simp[results,Tryz.results148,go_sem]) rfl ⟨rfl,E6,l6,HQ.o.1,HQ.o.2,λq=>absurd Un.o (by omega),J5.o⟩
  |false=>
   rw[htl]at Pp
   have HR:=ak (HC.o.2.2 Un.o htl)
   clear htl
   go_enter Tryz.func148,Tryz.ntmps148
   go_wp2_with fail
   clear hb0 hb1 hb2
   refine Pp.o.mono ?_
   rintro e w5 ⟨rfl,eH⟩
   obtain rfl:W=w5:=eH.symm
   go_wp2_with fail
   refine HR.o.mono ?_
   rintro e w6 ⟨E6,v6,l6,rfl,vG,YP,YQ,-⟩
   obtain⟨a6,k6,hv6⟩:=vG.ls.len
   obtain⟨m6,Jp⟩:=ay (l6.length)
   rw[Jp]at hv6
   subst hv6
   clear Jp
   have hfin:=vG.fin HB.o
   have c11:=vG.sp.jD
   have f11:=vG.sp.free 11
   obtain⟨w7,hw7⟩:=ay (w6.setCell ⟨sb,11,none⟩ (.slice a6 m6 k6))
   rw[hw7]at hfin
   have HL:=ak (ut.o _ _ _ _ _ hfin.1 hfin.2)
   have HQ:=ak (And.intro YP YQ)
   clear vG YP YQ hfin
   go_wp2_with fail
   clear hw7 c11 f11
   refine HL.o.mono ?_
   rintro e w8 ⟨rfl,cs8,vL8,YR,EJ⟩
   have ni:=ak (HUR.o _ _ _ _ _ _ YR EJ)
   clear YR EJ
   go_wp2_with fail
   refine ni.o.mono ?_
   rintro e w9 ⟨rfl,YS⟩
   have J5:=ak YS
   clear YS
   go_wp2_with fail
   exact af_ (v:=.nilIface) (by simp[results,Tryz.results148,go_sem]) rfl ⟨rfl,E6,l6,HQ.o.1,HQ.o.2,λq=>absurd Un.o (by omega),J5.o⟩
theorem lJ:∀{l:List It},(∀i∈l,1<=i.times)->l.length<=(aH l).length
 | [],_=>agb _
 |i::l,h=>by
  have h1:=lJ (l:=l) λj hj=>h j (by simp[hj])
  obtain⟨m,hm⟩:=FC (h i (by simp))
  rw[bg,hm,af8,agc,agc]
  omega
def GaP(n0 B most g:Nat)(F:List Sy)(E:List En)(W:World)(lo sb pa:Nat)(ra rb:Sy)(n:Nat)(s:iD)(e:Ending)(w':World):Prop:=e=.returned (.tuple #[])/\∃s',Gd ra rb n s s'/\Tj (n+1) s'.mid/\kC n0 B most g F E W lo sb pa s' E w'
theorem Lv{n0 B most g:Nat}{F:List Sy}{E:List En}{W:World}(h:gV n0 B most g F E W){lo sb pa n:Nat}{ra rb:Sy}{s:iD}{cs:Array Value}{vL vR vM:Value}(hlo:n0<=lo)(hp:iW W pa B g)(hpa:pa<lo)(hS:bQ W E lo sb pa s cs vL vR vM)(ha:jB ra)(hb:jB rb)(hta:(aV ra).length<=1152921504606846976)(htb:(aV rb).length<=1152921504606846976)(hI:JW ra rb n s)(Gn:nM s.mid)(hone:(n+1)%2=0->One s.mid)(hb3:(kJ n s).length<=300000)(hn:n<=100000):
    Calls Tryz.prog 145 #[.pointer (some ⟨sb,0,none⟩),.int .i64 ((n+1:Nat):Int)] W (GaP n0 B most g F E W lo sb pa ra rb n s):=by
 have HF:∀f,Fence.wide.fn f:=λ_=>trivial
 have hbl:∀{s':iD},kJ n s'=kJ n s->(aH s'.mid).length+(bK n s'.R).length<=300000:=λe=>by
  have:=agC List.length e
  unfold kJ at this hb3
  simp only[af8]at this hb3
  omega
 have hm0:s.mid.length<=300000:=by
  have h1:=hbl (s':=s) rfl
  have h2:=lJ (l:=s.mid) λi hi=>(Gn i hi).2
  omega
 have hEL:=hI.left.edb ha hta
 have hER:=hI.right.edb hb htb
 rcases(show(n+1)%2=1\/(n+1)%2=0 by omega)with hod|hev
 .have hc:=Cy h hlo hp hpa hS hEL hER (by omega) hn hod
  obtain⟨g1,g2⟩:=Vh ha hb hod hI Gn
  have HG:aA (Gd ra rb n s (iN n (fC n s))/\Tj (n+1) (iN n (fC n s)).mid):=ak ⟨g1,λ_=>g2,λq=>absurd hod (by omega),λq=>absurd hod (by omega)⟩
  obtain⟨n1,hn1⟩:=ay (n+1)
  rw[hn1]at hc
  rw[hn1]
  have HC:=ak hc
  have hb0:(n1:Int).tmod 2=1:=by rw[ah0 (by omega)];omega
  clear h hlo hp hpa hS ha hb hta htb hI Gn hone hb3 hbl hm0 hEL hER g1 g2 hc hod hn1
  go_enter Tryz.func145,Tryz.ntmps145
  go_wp2_with fail
  refine HC.o.mono ?_
  rintro e w6 ⟨rfl,hs6⟩
  have xX:=ak hs6
  clear hs6 hb0
  go_wp2_with fail
  exact af_ (v:=.tuple #[]) (by simp[results,Tryz.results145,go_sem]) rfl ⟨rfl,_,HG.o.1,HG.o.2,xX.o⟩
 .have ho:=hone hev
  obtain⟨a1,a2,a3⟩:=nZ ha hev hI Gn
  have hm1:(bI n s).mid.length<=300000:=by
   have h1:=hbl (s':=bI n s) a2
   have h2:=lJ (l:=(bI n s).mid) λi hi=>(a3 i hi).2
   omega
  have hc:=Cv h hlo hp hpa hS hEL (by omega) hn
  have hnb:=zP W (n+1) (by omega)
  rw[Nr hev (by omega)]at hnb
  have hPA:=ak hp;have eG:=ak (And.intro hlo hpa)
  have aaU:Qf (bI n s).R:=a1.toJW.right.edb hb htb
  cases htl:f_ (n+1)with
  |true=>
   have hst:∀(w6:World) (J2:Array Value) (YT YU YV:Value),bQ w6 E lo sb pa (bI n s) J2 YT YU YV->Gw n0 B most g F (λq=>lo<=q) E E W w6->Calls Tryz.prog 182 #[.pointer (some ⟨sb,0,none⟩),.int .i64 ((n+1:Nat):Int)] w6 (GaP n0 B most g F E W lo sb pa ra rb n s):=λw6 J2 YT YU YV hs6 lu=>by
    have xK:iW w6 pa B g:=hPA.o.kp lu.kp (by have:=eG.o;omega)
    refine(xJ lu.st hlo xK hpa hs6 hb htb a1.toJW.right htl (λk X R' hgs=>by
     have h1:=hbl (s':=bI n s) a2
     have h2:=hgs.len
     have h3:=lJ (l:=X) λi hi=>(hgs.st i hi).1
     omega) hn).mono ?_
    rintro e w7 ⟨rfl,s',hstr,Nc,Qg,vR7,vM7,hs7,Ad⟩
    rcases hstr with⟨rfl,hno⟩|⟨k,X,R',rfl,hgs,hne,hk⟩
    .obtain⟨g1,g2⟩:=ZH ha hb htl hI ho (by rw[<-(pg ha hev hI).2];exact hno)
     exact⟨rfl,_,g1,⟨λq=>absurd hev (by omega),λ_ _=>g2,λ_ q=>by rw[htl]at q;cases q⟩,Nc,Qg,vR7,vM7,hs7,lu.trans Ad⟩
    .obtain⟨g1,g2⟩:=ZI ha htl hI ho (by rw[<-(pg ha hev hI).2];exact hgs) hne hk
     exact⟨rfl,_,g1,⟨λq=>absurd hev (by omega),λ_ _=>g2,λ_ q=>by rw[htl]at q;cases q⟩,Nc,Qg,vR7,vM7,hs7,lu.trans Ad⟩
   rw[htl]at hnb
   obtain⟨b1,hb1⟩:=ay ((Au (n+1)).1)
   obtain⟨b2,hb2⟩:=ay ((Au (n+1)).2.1)
   rw[hb1,hb2]at hnb
   obtain⟨n1,hn1⟩:=ay (n+1)
   rw[hn1]at hc hnb hst
   rw[hn1]
   have HC:=ak hc;have Pp:=ak hnb;have HST:=ak hst
   have hb0:¬(n1:Int).tmod 2=1:=by rw[ah0 (by omega)];omega
   have hbz:(n1:Int).tmod 2=0:=by rw[ah0 (by omega)];omega
   clear h hlo hp hpa hS ha hb hta htb hI Gn hone hb3 hbl hm0 hEL hER hc hev hn1 ho a1 a2 a3 hm1 hnb aaU htl hst hb1 hb2
   go_enter Tryz.func145,Tryz.ntmps145
   go_wp2_with fail
   clear hb0 hbz
   refine Pp.o.mono ?_
   rintro e w5 ⟨rfl,eH⟩
   obtain rfl:W=w5:=eH.symm
   go_wp2_with fail
   refine HC.o.mono ?_
   rintro e w6 ⟨rfl,J2,YT,YU,YV,hs6,lu⟩
   have xX:=ak (HST.o _ _ _ _ _ hs6 lu)
   clear hs6 lu
   go_wp2_with fail
   refine xX.o.mono ?_
   rintro e w7 ⟨rfl,hq⟩
   have HQ:=ak hq
   clear hq
   go_wp2_with fail
   go_end0
   exact⟨rfl,HQ.o⟩
  |false=>
   have hst:∀(w6:World) (J2:Array Value) (YT YU YV:Value),bQ w6 E lo sb pa (bI n s) J2 YT YU YV->Gw n0 B most g F (λq=>lo<=q) E E W w6->Calls Tryz.prog 183 #[.pointer (some ⟨sb,0,none⟩),.int .i64 ((n+1:Nat):Int)] w6 (GaP n0 B most g F E W lo sb pa ra rb n s):=λw6 J2 YT YU YV hs6 lu=>by
    have xK:iW w6 pa B g:=hPA.o.kp lu.kp (by have:=eG.o;omega)
    refine(Aj lu.st hlo xK hpa hs6 aaU (by omega) hn).mono ?_
    rintro e w7 ⟨rfl,Nc,Qg,vR7,vM7,hs7,Ad⟩
    obtain⟨g1,g2⟩:=Rl ha hb hev htl hI ho
    exact⟨rfl,_,g1,⟨λq=>absurd hev (by omega),λ_ q=>(by rw[htl]at q;cases q),λ_ _=>g2⟩,Nc,Qg,vR7,vM7,hs7,lu.trans Ad⟩
   rw[htl]at hnb
   obtain⟨b1,hb1⟩:=ay ((Au (n+1)).1)
   obtain⟨b2,hb2⟩:=ay ((Au (n+1)).2.1)
   rw[hb1,hb2]at hnb
   obtain⟨n1,hn1⟩:=ay (n+1)
   rw[hn1]at hc hnb hst
   rw[hn1]
   have HC:=ak hc;have Pp:=ak hnb;have HST:=ak hst
   have hb0:¬(n1:Int).tmod 2=1:=by rw[ah0 (by omega)];omega
   have hbz:(n1:Int).tmod 2=0:=by rw[ah0 (by omega)];omega
   clear h hlo hp hpa hS ha hb hta htb hI Gn hone hb3 hbl hm0 hEL hER hc hev hn1 ho a1 a2 a3 hm1 hnb aaU htl hst hb1 hb2
   go_enter Tryz.func145,Tryz.ntmps145
   go_wp2_with fail
   clear hb0 hbz
   refine Pp.o.mono ?_
   rintro e w5 ⟨rfl,eH⟩
   obtain rfl:W=w5:=eH.symm
   go_wp2_with fail
   refine HC.o.mono ?_
   rintro e w6 ⟨rfl,J2,YT,YU,YV,hs6,lu⟩
   have xX:=ak (HST.o _ _ _ _ _ hs6 lu)
   clear hs6 lu
   go_wp2_with fail
   refine xX.o.mono ?_
   rintro e w7 ⟨rfl,hq⟩
   have HQ:=ak hq
   clear hq
   go_wp2_with fail
   go_end0
   exact⟨rfl,HQ.o⟩
structure Pq(ra rb:Sy)(n:Nat)(t:List Nat)(u v:Nat)(s:iD):Prop where
 sp:JW ra rb n s
 JX:nM s.mid
 one:(n+1)%2=0->One s.mid
 seq:kJ n s=S n t
 szL:rQ false n s.L<=u
 szR:rQ true n s.R<=v
theorem Pq.next{ra rb:Sy}(ha:jB ra)(hb:jB rb){n:Nat}{t:List Nat}{u v:Nat}{s s':iD}(h:Pq ra rb n t u v s)(hg:Gd ra rb n s s'){m:List It}(hm:aH m=step (n+1) (aH s'.mid))(hs:nM m)(ho:(n+1)%2=1->One m):Pq ra rb (n+1) t u v ⟨oD (n+1) s'.L,m,oD (n+1) s'.R⟩:=by
 obtain⟨a,b,c,d⟩:=hg.next ha hb h.seq hm
 exact⟨b,hs,λq=>ho (by omega),a,af9 c h.szL,af9 d h.szR⟩
theorem YW(t:List Nat):∀n,(S n t).length<=(S 0 t).length
 |0=>af7 _
 |n+1=>af9 (Fy (n+1) (S n t)) (YW t n)
theorem Pq.len{ra rb:Sy}{n:Nat}{t:List Nat}{u v:Nat}{s:iD}(h:Pq ra rb n t u v s):(kJ n s).length<=(S 0 t).length:=by rw[h.seq];exact YW t n
theorem kG{b:Bool}{y:Sy}(hy:jB y):VE b y 0 (some (bD b 0 [] y))/\oC b 0 (some (bD b 0 [] y))=Ay b 0 y:=by
 obtain⟨h1,h2,h3,h4,-⟩:=BM (b:=b) (n:=0) (root:=y) (p:=[]) (x:=y) rfl (λf hf=>by cases hf) hy.ok
 refine⟨λp x e=>?_,?_⟩
 .injection e with e
  have e1:(bD b 0 [] y).1=p:=by rw[e]
  have e2:(bD b 0 [] y).2=x:=by rw[e]
  rw[e1,e2]at h1
  rw[e1]at h2
  rw[e2]at h3
  exact⟨h1,h2,h3⟩
 .show front b 0 (bD b 0 [] y).1++[(bD b 0 [] y).2]=_
  rw[h4];rfl
theorem Wu(s:List Sy):(dA s.reverse).length=(dA s).length:=by
 induction s with
 |nil=>rfl
 |cons x s ih=>rw[ah3,bV,jH,af8,af8,ih];simp[dA];omega
theorem EN{b:Bool}{y:Sy}(hy:jB y):rQ b 0 (some (bD b 0 [] y))=(aV y).length:=by
 unfold rQ
 rw[(kG hy).2]
 unfold Ay
 cases b with
 |false=>show(dA (ex 0 y)).length=_;rw[qx]
 |true=>show(dA (ex 0 y).reverse).length=_;rw[Wu,qx]
theorem Pq.start{ra rb:Sy}(ha:jB ra)(hb:jB rb):Pq ra rb 0 (aV ra++aV rb) (aV ra).length (aV rb).length ⟨some (bD false 0 [] ra),[],some (bD true 0 [] rb)⟩:=by
 refine⟨⟨(kG ha).1,(kG hb).1⟩,λi hi=>(by cases hi),λ_ i hi=>(by cases hi),?_,aiq (EN ha),aiq (EN hb)⟩
 show oC false 0 (some (bD false 0 [] ra))++aH []++(oC true 0 (some (bD true 0 [] rb))).reverse=_
 rw[(kG ha).2,(kG hb).2,cu,agi]
 show ex 0 ra++(ex 0 rb).reverse.reverse=_
 rw[aif]
 obtain⟨t1,h1,rfl⟩:=ha
 obtain⟨t2,h2,rfl⟩:=hb
 rw[<-BK h1,<-BK h2,eY h1,eY h2]
 show _=(t1++t2).map _
 rw[ag2];rfl
theorem AX{n0 B most g:Nat}{F:List Sy}{E:List En}{W:World}(h:gV n0 B most g F E W){p:Nat}(hp:iW W p B g){x:Sy}(hx:x∈syms E)(hok:jF x):
    Calls Tryz.prog 55 #[ku p,vI (num E x)] W λr w'=>r=.returned (.tuple #[vI (aQ x),.nilIface])/\Gw n0 B most g F (λ_=>False) E E W w':=by
 have zI:=ak (xA h hx hok)
 obtain⟨p0,p1⟩:=hp.cells
 have hpos:=(aS hx).1
 obtain⟨ix,hix⟩:=ay (num E x)
 rw[hix]at zI hpos
 rw[hix]
 have hb:((ix:Int)==(0:Int))=false:=agh.2 (by omega)
 have hb':¬(ix:Int)=0:=by omega
 clear h hp hx hok hpos hix
 go_enter Tryz.func55,Tryz.ntmps55
 go_wp2_with fail
 clear p0 p1 hb hb'
 refine zI.o.mono ?_
 rintro e w2 ⟨rfl,hg2⟩
 have HG:=ak hg2
 clear hg2
 go_wp2_with fail
 exact af_ (v:=.tuple #[vI (aQ x),.nilIface]) (by simp[results,Tryz.results55,go_sem]) rfl ⟨rfl,HG.o⟩
end M
end
section
open Go.RowKit Go.Lib
namespace M
def spC(pa:Nat)(vL:Value)(iL kL:Nat)(vR:Value)(iR kR:Nat):List Value:=[ku pa,ku pa,.bool false,vL,vI iL,vK kL,ku pa,.bool true,vR,vI iR,vK kR,.slice none 0 0]
theorem bQ.start{W:World}{E:List En}{lo sb pa:Nat}{pL pR:gI}{xL xR:Sy}{vL vR:Value}(hblk:W.heap[sb]?=some (.cells (spC pa vL (num E xL) (key xL) vR (num E xR) (key xR)).toArray 251 (0,0)))(hlo:lo<=sb)(hpL:G9 lo W E vL pL)(hmL:∀f∈pL,f.1∈syms E/\jF f.1)(hxL:xL∈syms E/\jF xL)(hpR:G9 lo W E vR pR)(hmR:∀f∈pR,f.1∈syms E/\jF f.1)(hxR:xR∈syms E/\jF xR)(hd:∀q,vL.ownBlock=some q->vR.ownBlock≠some q):
    bQ W E lo sb pa ⟨some (pL,xL),[],some (pR,xR)⟩ (spC pa vL (num E xL) (key xL) vR (num E xR) (key xR)).toArray vL vR (.slice none 0 0):=by
 refine⟨⟨⟨hblk,rfl,rfl,rfl,rfl,rfl,hpL,hmL⟩,λp x e=>?_⟩,⟨⟨hblk,rfl,rfl,rfl,rfl,rfl,hpR,hmR⟩,λp x e=>?_⟩,rfl,rfl,aP.nil _ _ _ _ _,λi hi=>(by cases hi),hd,hlo⟩
 .cases e;exact hxL
 .cases e;exact hxR
theorem Pq.done{ra rb:Sy}(ha:jB ra)(hb:jB rb){n:Nat}{s:iD}{t:List Nat}{u v:Nat}(h:Pq ra rb n t u v s)(ht:t≠[])(huv:u+v=t.length)(h1:¬(u=(aV ra).length/\v=0))(h2:¬(v=(aV rb).length/\u=0))(l1:aQ ra<=n)(l2:aQ rb<=n)(l3:aQ (sig t)<=n):s.L=none/\s.R=none/\∃i,s.mid=[i]/\i.times=1/\i.x=sig t:=
 Vg ha hb h.sp h.JX ht h.seq h.szL h.szR huv h1 h2 l1 l2 l3
theorem Pq.ret{ra rb:Sy}{n:Nat}{t:List Nat}{u v:Nat}{i:It}(h:Pq ra rb n t u v ⟨none,[i],none⟩)(hi:i.times=1):sig t=i.x:=Rk ((h.JX i (by simp)).1) hi h.seq
end M
end
end Go.Proofs.YtgbhohfabhilgaaGreatDoor
