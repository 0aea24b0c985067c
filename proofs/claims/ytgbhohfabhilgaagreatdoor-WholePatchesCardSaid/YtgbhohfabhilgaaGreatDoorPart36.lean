import Derived.Test.YtgbhohfabhilgaaGreatDoorPart33
import Derived.Test.YtgbhohfabhilgaaGreatDoorPart35
set_option maxRecDepth 100000
set_option maxHeartbeats 8000000
set_option linter.unusedVariables false
set_option linter.unusedSimpArgs false
namespace Go.Proofs.YtgbhohfabhilgaaGreatDoor
section
open Go.RowKit Go.Lib
namespace M
attribute [local go_sem] Oper.semAt_some
theorem Jq{n0 B most g:Nat}{F:List Sy}{E:List En}{W:World}(h:gV n0 B most g F E W){pa:Nat}(hp:iW W pa B g){ra rb:Sy}(ha:jB ra)(hb:jB rb)(hra:ra∈syms E)(hrb:rb∈syms E){la lb:Nat}(hla:(aV ra).length=la)(hlb:(aV rb).length=lb)(hlen:la+lb<=300000)(hn0:n0<=W.heap.size)(hF:∀n,∀y∈S n (aV ra++aV rb),y∈F):
    Calls Tryz.prog 106 #[ku pa,vI (num E ra),vI la,vI (num E rb),.int .i64 0] W λe w'=>∃E',e=.returned (.tuple #[vI (num E' (sig (aV ra++aV rb))),.nilIface])/\Gw n0 B most g F (λq=>W.heap.size<=q) E E' W w'/\sig (aV ra++aV rb)∈syms E':=by
 have HF:∀f,Fence.wide.fn f:=λ_=>trivial
 have hlv:∀{y:Sy},jB y->(aV y).length<=300000->aQ y<=25338:=λ{y} hy hl=>by
  obtain⟨t,ht,rfl⟩:=hy
  rw[eY ht]at hl
  exact wR ht (by omega)
 have hva:=hlv ha (by omega)
 have hvb:=hlv hb (by omega)
 have hpl:pa<W.heap.size:=by
  have h':W.heap[pa]?=_:=hp
  exact(aga.1 h').1
 have YX:aA (Gw n0 B most g F (λq=>W.heap.size<=q) E E W W):=ak (Gw.refl h)
 have fV:aA (∀w,Gw n0 B most g F (λq=>W.heap.size<=q) E E W w->iW w pa B g):=ak λw hg=>hp.kp hg.kp (by omega)
 have HTA:aA (∀w,Gw n0 B most g F (λq=>W.heap.size<=q) E E W w->Calls Tryz.prog 55 #[ku pa,vI (num E ra)] w λr w'=>r=.returned (.tuple #[vI (aQ ra),.nilIface])/\Gw n0 B most g F (λ_=>False) E E w w'):=ak λw hg=>AX hg.st (fV.o w hg) hra ha.ok
 have Gg:aA (∀w,Gw n0 B most g F (λq=>W.heap.size<=q) E E W w->Calls Tryz.prog 55 #[ku pa,vI (num E rb)] w λr w'=>r=.returned (.tuple #[vI (aQ rb),.nilIface])/\Gw n0 B most g F (λ_=>False) E E w w'):=ak λw hg=>AX hg.st (fV.o w hg) hrb hb.ok
 obtain⟨ia,hia⟩:=ay (num E ra)
 obtain⟨ib,hib⟩:=ay (num E rb)
 obtain⟨va,aaX⟩:=ay (aQ ra)
 obtain⟨vb,aaY⟩:=ay (aQ rb)
 rw[aaX]at hva HTA
 rw[aaY]at hvb Gg
 rw[hia]at HTA
 rw[hib]at Gg
 rw[hia,hib]
 have hga:¬(32768:Int)<(va:Int):=by omega
 have hgb:¬(32768:Int)<(vb:Int):=by omega
 have hix:∀(a b:Value) (w:World),(Instr.index 200 (.agg #[a,b]) (.int .i64 0)).run Tryz.prog w=.ok a w:=λ_ _ _=>by kernel_rfl
 have Ga:∀(a b:Value) (w:World),(Instr.index 200 (.agg #[a,b]) (.int .i64 1)).run Tryz.prog w=.ok b w:=λ_ _ _=>by kernel_rfl
 have DY:=ak (And.intro h (And.intro ha (And.intro hb (And.intro hra (And.intro hrb (And.intro hla (And.intro hlb (And.intro hlen (And.intro hn0 (And.intro hF (And.intro hia (And.intro hib (And.intro aaX aaY)))))))))))))
 clear h hp ha hb hra hrb hla hlb hlen hn0 hF hia hib aaX aaY hlv hpl hva hvb
 go_enter Tryz.func106,Tryz.ntmps106
 go_wp2_with fail
 go_loopw [23] (λiv wr=>∃k:Nat,iv=.int .i64 k/\k<=2/\Gw n0 B most g F (λq=>W.heap.size<=q) E E W wr) (λiv _=>2-(intOf iv).toNat)
 case atStart=>exact⟨0,rfl,by omega,YX.o⟩
 case round=>
  obtain⟨k,rfl,hk,hg⟩:=hrel
  rcases(show k=0\/k=1\/k=2 by omega)with rfl|rfl|rfl
  .have HC:=ak (HTA.o wr hg)
   have HG:=ak hg
   clear hg hk
   go_wp2_with fail
   refine HC.o.mono ?_
   rintro e w2 ⟨rfl,hg2⟩
   have HG2:=ak (HG.o.trans hg2.free)
   clear hg2
   go_wp2_with fail
   go_roundw
   case rel=>exact⟨1,rfl,by omega,HG2.o⟩
   case measure=>simp[intOf]
  .have HC:=ak (Gg.o wr hg)
   have HG:=ak hg
   clear hg hk
   go_wp2_with fail
   refine HC.o.mono ?_
   rintro e w2 ⟨rfl,hg2⟩
   have HG2:=ak (HG.o.trans hg2.free)
   clear hg2
   go_wp2_with fail
   go_roundw
   case rel=>exact⟨2,rfl,by omega,HG2.o⟩
   case measure=>simp[intOf]
  .have HG:=ak hg
   obtain⟨-,ha,hb,hra,hrb,hla,hlb,hlen,hn0,-,hia,hib,-,-⟩:=DY.o
   have iF:aA (Calls Tryz.prog 57 #[ku pa,vI ib] wr λe w'=>e=.returned (vI lb)/\Below wr.heap.size wr w'):=ak (by
    have:=rZ hg.st (fV.o wr hg) (i:=ib) (by rw[<-hib];exact(aS hrb).2.1)
    obtain⟨x1,x2,x3⟩:=aS hrb
    rw[hib]at x1 x2 x3
    rw[og hg.st.wf.wf x1 x2,x3,hlb]at this
    exact this)
   have xu:aA (∀(y:Sy) (i l:Nat) (b:Bool),jB y->y∈syms E->num E y=i->(aV y).length=l->l<=300000->∀w,Gw n0 B most g F (λq=>W.heap.size<=q) E E W w->Calls Tryz.prog 144 #[ku pa,.int .i64 i,.int .i64 l,.bool b] w λr w'=>∃v,r=.returned (.agg #[ku pa,.bool b,v,vI (num E (bD b 0 [] y).2),vK (key (bD b 0 [] y).2)])/\G9 w.heap.size w' E v (bD b 0 [] y).1/\(∀f∈(bD b 0 [] y).1,f.1∈syms E/\jF f.1)/\(bD b 0 [] y).2∈syms E/\jF (bD b 0 [] y).2/\Gw n0 B most g F (λq=>w.heap.size<=q) E E w w'):=ak (by
    intro y i l b hy hm hi hl hll w hg
    have hv:aQ y<=1000000:=by
     obtain⟨t,ht,rfl⟩:=hy
     rw[eY ht]at hl
     have:=wR ht (by omega)
     omega
    have:=Li hg.st (fV.o w hg) hm hy.ok hl hv b
    rw[hi]at this
    exact this)
   have afn:0<la:=by rw[<-hla];exact gY ha.ok
   have afo:0<lb:=by rw[<-hlb];exact gY hb.ok
   have c1:¬(la:Int)=0:=by omega
   have c1':((la:Int)==(0:Int))=false:=agh.2 c1
   have c2:¬(lb:Int)=0:=by omega
   have c2':((lb:Int)==(0:Int))=false:=agh.2 c2
   have c3:(lb:Int)-0=(lb:Int):=by omega
   have c3':wrap64 (lb:Int)=(lb:Int):=by unfold wrap64;omega
   have Uo:=ak (And.intro afn (And.intro afo hlen))
   clear hg hk ha hb hra hrb hla hlb hlen hn0 hia hib afn afo
   go_wp2_with fail
   refine iF.o.mono ?_
   rintro e w2 ⟨rfl,hb2⟩
   have HG2:aA (Gw n0 B most g F (λq=>W.heap.size<=q) E E W w2):=ak (HG.o.trans (Gw.of HG.o.st hb2))
   clear hb2
   go_wp2_with fail
   obtain⟨-,ha,hb,hra,hrb,hla,hlb,hlen,hn0,-,hia,hib,-,-⟩:=DY.o
   have HNA:=ak (xu.o ra ia la false ha hra hia hla (by omega) w2 HG2.o)
   clear ha hb hra hrb hla hlb hlen hn0 hia hib
   refine HNA.o.mono ?_
   rintro e w3 ⟨vL,rfl,YY,hmL,hxL,hoL,hg3⟩
   obtain⟨aL,cL,hvL⟩:=aP.len YY
   obtain⟨mL,afp⟩:=ay ((bD false 0 [] ra).1.reverse.length)
   rw[afp]at hvL
   subst hvL
   clear afp
   have qJ:aA (Gw n0 B most g F (λq=>W.heap.size<=q) E E W w3):=ak (HG2.o.trans (hg3.mono λq _ hq=>af9 HG2.o.below.size hq))
   have Zi:=ak (And.intro YY (And.intro hmL (And.intro hxL hoL)))
   clear YY hmL hxL hoL hg3
   obtain⟨iL,Gj⟩:=ay (num E (bD false 0 [] ra).snd)
   obtain⟨kL,Ws⟩:=ay (key (bD false 0 [] ra).snd)
   rw[Gj,Ws]
   have HIL:=ak (And.intro Gj Ws)
   clear Gj Ws
   go_wp2_with fail
   try simp only[c3']
   obtain⟨-,ha,hb,hra,hrb,hla,hlb,hlen,hn0,-,hia,hib,-,-⟩:=DY.o
   have Pp:=ak (xu.o rb ib lb true hb hrb hib hlb (by omega) w3 qJ.o)
   clear ha hb hra hrb hla hlb hlen hn0 hia hib
   refine Pp.o.mono ?_
   rintro e w4 ⟨vR,rfl,hfR,hmR,hxR,hoR,hg4⟩
   obtain⟨aR,cR,Lp⟩:=aP.len hfR
   obtain⟨mR,afq⟩:=ay ((bD true 0 [] rb).1.reverse.length)
   rw[afq]at Lp
   subst Lp
   clear afq
   obtain⟨iR,hiR⟩:=ay (num E (bD true 0 [] rb).snd)
   obtain⟨kR,hkR⟩:=ay (key (bD true 0 [] rb).snd)
   rw[hiR,hkR]
   have HIR:=ak (And.intro hiR hkR)
   have xZ:aA (Gw n0 B most g F (λq=>W.heap.size<=q) E E W w4):=ak (qJ.o.trans (hg4.mono λq _ hq=>af9 qJ.o.below.size hq))
   have hlt:∀{lo:Nat} {w:World} {v:Value} {p:gI} {q:Nat},G9 lo w E v p->v.ownBlock=some q->lo<=q/\q<w.heap.size:=λhf hq=>by
    obtain⟨a,cur,hc⟩:=hf.blk hq
    exact⟨a,(aga.1 hc).1⟩
   have afr:G9 w2.heap.size w4 E (.slice aL mL cL) (bD false 0 [] ra).1:=hg4.kp.sl Zi.o.1 (by decide) (λq hq=>by have:=(hlt Zi.o.1 hq).2;omega)
   obtain⟨w5,eH⟩:=ay (w4.alloc (.cells #[.pointer (some ⟨pa,0,none⟩),.pointer (some ⟨pa,0,none⟩),.bool false,.slice aL mL cL,.int .i64 iL,.int .u64 kL,.pointer (some ⟨pa,0,none⟩),.bool true,.slice aR mR cR,.int .i64 iR,.int .u64 kR,.slice none 0 0] 251))
   have hb5:Below w4.heap.size w4 w5:=by rw[<-eH];exact(af6 _ _).alloc (af7 _) _
   have hblk:w5.heap[w4.heap.size]?=some (.cells (spC pa (.slice aL mL cL) (num E (bD false 0 [] ra).2) (key (bD false 0 [] ra).2) (.slice aR mR cR) (num E (bD true 0 [] rb).2) (key (bD true 0 [] rb).2)).toArray 251 (0,0)):=by rw[<-eH,HIL.o.1,HIL.o.2,hiR,hkR];exact aD _ _
   have z2:=HG2.o.below.size
   have z3:=qJ.o.below.size
   have z4:=xZ.o.below.size
   have hS5:=bQ.start (lo:=W.heap.size) hblk z4 (aP.mono (aP.below afr hb5) z2) Zi.o.2.1 Zi.o.2.2 (aP.mono (aP.below hfR hb5) z3) hmR ⟨hxR,hoR⟩ (λq hq hq2=>by
    have h1:=(hlt Zi.o.1 hq).2
    have h2:=(hlt hfR hq2).1
    omega)
   have qU:=ak hS5
   have xY:aA (Gw n0 B most g F (λq=>W.heap.size<=q) E E W w5):=ak (xZ.o.trans (Gw.of xZ.o.st hb5))
   obtain⟨sb,hsb⟩:=ay (w4.heap.size)
   rw[hsb]at qU
   have HSB:aA (W.heap.size<=sb):=ak (by omega)
   clear hiR hkR afr hb5 hblk z2 z3 z4 hS5 hfR hmR hxR hoR hg4 hlt
   have HW5:=ak eH;have zf:=ak hsb
   clear eH hsb
   go_wp2_with fail
   rw[HW5.o,zf.o]
   go_loopw [18] (λiv wr=>∃(n:Nat) (E1:List En) (s:iD) (cs:Array Value) (vL vR vM:Value),iv=.int .i64 ((n+1:Nat):Int)/\n<25338/\bQ wr E1 W.heap.size sb pa s cs vL vR vM/\Gw n0 B most g F (λq=>W.heap.size<=q) E E1 W wr/\Pq ra rb n (aV ra++aV rb) la lb s) (λiv _=>25340-(intOf iv).toNat)
   case atStart=>exact⟨0,E,_,_,_,_,_,rfl,by omega,qU.o,xY.o,by
    obtain⟨-,ha,hb,-,-,hla,hlb,-⟩:=DY.o
    rw[<-hla,<-hlb]
    exact Pq.start ha hb⟩
   case round=>
    obtain⟨n,E1,s,cs,vL,vR,vM,rfl,hn,hS,hg,hI⟩:=hrel
    obtain⟨-,ha,hb,hra,hrb,hla,hlb,hlen,hn0,hF,hia,hib,-,-⟩:=DY.o
    have hp0:=fV.o W YX.o
    have hpl:pa<W.heap.size:=by
     have h':W.heap[pa]?=_:=hp0
     exact(aga.1 h').1
    have aft:=Lv hg.st hn0 (hp0.kp hg.kp (by omega)) hpl hS ha hb (by omega) (by omega) hI.sp hI.JX hI.one (by
     have:=hI.len
     have e:(S 0 (aV ra++aV rb)).length=(aV ra++aV rb).length:=agM _
     rw[af8]at e
     omega) (by omega)
    have HGA:=ak aft
    have HI:=ak (And.intro hI (And.intro hg hn))
    obtain⟨n1,hn1⟩:=ay (n+1)
    rw[hn1]at HGA
    rw[hn1]
    have J3:=ak hn1
    clear ha hb hra hrb hla hlb hlen hn0 hF hia hib hp0 hpl aft hS hg hI hn hn1
    go_wp2_with fail
    refine HGA.o.mono ?_
    rintro e w6 ⟨rfl,s',hgd,hmo,J2,YT,YU,YV,hs6,lu⟩
    obtain⟨-,ha,hb,hra,hrb,hla,hlb,hlen,hn0,hF,hia,hib,-,-⟩:=DY.o
    obtain⟨hI,hg,hn⟩:=HI.o
    have hp0:=fV.o W YX.o
    have hpl:pa<W.heap.size:=by
     have h':W.heap[pa]?=_:=hp0
     exact(aga.1 h').1
    have hl3:(kJ n s').length<=300000:=by
     rw[hgd.seq]
     have:=hI.len
     have e:(S 0 (aV ra++aV rb)).length=(aV ra++aV rb).length:=agM _
     rw[af8]at e
     omega
    have hfl:(aH s'.mid).length<=300000:=by
     unfold kJ at hl3
     simp only[af8]at hl3
     omega
    have hti:∀i∈s'.mid,1<=i.times:=λi hi=>by
     rcases(show(n+1)%2=1\/(n+1)%2=0 by omega)with q|q
     .exact(hmo.odd q i hi).2
     .cases ht:f_ (n+1)with
      |true=>exact(hmo.tie q ht i hi).1
      |false=>exact(hmo.one q ht).JX i hi |>.2
    have kM:=lJ hti
    have hgg:=hg.trans lu
    have hmz:=Po lu.st hn0 (hp0.kp hgg.kp (by omega)) hpl hs6 (hgd.gg.left.edb ha (by omega)) (hgd.gg.right.edb hb (by omega)) hmo (λy hy=>hF (n+1) y (hgd.mem ha hb hI.seq hy)) (by omega) (by omega) (by omega) (by omega)
    rw[J3.o]at hmz
    have HMZ:=ak hmz
    have HGD:=ak (And.intro hgd hgg)
    clear ha hb hra hrb hla hlb hlen hn0 hF hia hib hp0 hpl hI hg hn hl3 hfl hti kM hgg hmz hgd hmo hs6 lu
    go_wp2_with fail
    refine HMZ.o.mono ?_
    rintro e w7 ⟨rfl,E7,m7,hfm,hsm,EM,Nc,Qg,vR7,vM7,hs7,Ad⟩
    obtain⟨-,ha,hb,-⟩:=DY.o
    have hln:=HI.o.1.next ha hb HGD.o.1 (by rw[J3.o];exact hfm) hsm (by rw[J3.o];exact EM)
    rw[J3.o]at hln
    have oG:=ak hln;have DN:=ak hs7;have Qd:=ak (HGD.o.2.trans Ad)
    have cL:=hs7.cL.1
    have cR:=hs7.cR.1
    have c11:=hs7.jD
    have hnb:n1<=25338:=by have:=J3.o;have:=HI.o.2.2;omega
    have lw:wrap64 ((n1:Int)+1)=((n1+1:Nat):Int):=by unfold wrap64;omega
    have Qe:aA (¬(oD n1 s'.L=none/\oD n1 s'.R=none/\∃i,m7=[i]/\i.times=1)->n1<25338):=ak (by
     intro hno
     apply ahk
     intro hge
     obtain⟨-,ha,hb,hra,hrb,hla,hlb,hlen,-⟩:=DY.o
     have pa':=gY ha.ok
     have pb':=gY hb.ok
     have hv:∀{y:Sy},jB y->(aV y).length<=300000->aQ y<=n1:=λ{y} hy hl=>by
      obtain⟨t,ht,rfl⟩:=hy
      rw[eY ht]at hl
      have:=wR ht (by omega)
      omega
     have hne:aV ra++aV rb≠[]:=λe=>by
      have:=agC List.length e
      rw[af8,ahX]at this
      omega
     have hlt:(aV ra++aV rb).length=la+lb:=by rw[af8,hla,hlb]
     obtain⟨a,b,i,c,d,-⟩:=hln.done ha hb hne hlt.symm (by omega) (by omega) (hv ha (by omega)) (hv hb (by omega)) (by have:=wR hne (by omega);omega)
     exact hno ⟨a,b,i,c,d⟩)
    clear ha hb hfm hsm EM hln hs7 Ad
    cases hL:oD n1 s'.L with
    |some q=>
     obtain⟨p,x⟩:=q
     have hx:=(DN.o.left.sym p x hL).1
     rw[show(Uw E7 (oD n1 s'.L))=num E7 x by rw[hL];rfl]at cL
     obtain⟨i4,hi4⟩:=ay (num E7 x)
     have h40:0<i4:=by rw[<-hi4];exact(aS hx).1
     rw[hi4]at cL
     have b4:((i4:Int)==(0:Int))=false:=agh.2 (by omega)
     have b4':¬(i4:Int)=0:=by omega
     have hlt:=Qe.o (λe=>by rw[hL]at e;cases e.1)
     have iI:=ak hlt
     clear hx hi4 h40 hL hlt
     go_wp2_with fail
     go_roundw
     case rel=>exact⟨n1,E7,_,_,_,_,_,by first|rfl|go_num,iI.o,DN.o,Qd.o,oG.o⟩
     case measure=>have:=iI.o;simp[intOf];omega
    |none=>
     replace cL:w7.cell? ⟨sb,4,none⟩=some (.int .i64 0):=by rw[hL]at cL;exact cL
     cases hR:oD n1 s'.R with
     |some q=>
      obtain⟨p,x⟩:=q
      have hx:=(DN.o.right.sym p x hR).1
      rw[show(Uw E7 (oD n1 s'.R))=num E7 x by rw[hR];rfl]at cR
      obtain⟨i4,hi4⟩:=ay (num E7 x)
      have h40:0<i4:=by rw[<-hi4];exact(aS hx).1
      rw[hi4]at cR
      have b4:((i4:Int)==(0:Int))=false:=agh.2 (by omega)
      have b4':¬(i4:Int)=0:=by omega
      have hlt:=Qe.o (λe=>by rw[hR]at e;cases e.2.1)
      have iI:=ak hlt
      clear hx hi4 h40 hL hR hlt
      go_wp2_with fail
      go_roundw
      case rel=>exact⟨n1,E7,_,_,_,_,_,by first|rfl|go_num,iI.o,DN.o,Qd.o,oG.o⟩
      case measure=>have:=iI.o;simp[intOf];omega
     |none=>
      replace cR:w7.cell? ⟨sb,9,none⟩=some (.int .i64 0):=by rw[hR]at cR;exact cR
      by_cases h1:m7.length=1
      .obtain⟨i,rfl⟩:=ajr.1 h1
       obtain⟨gm,cap,oq,hc,hat⟩:=DN.o.xI (by intro e;cases e)
       obtain⟨m0,m1,m2,m3⟩:=hat w7 (af6 _ _) 0 i rfl
       obtain⟨i0,hi0⟩:=ay (num E7 i.x)
       obtain⟨t0,ht0⟩:=ay (i.times)
       rw[hi0]at m0
       rw[ht0]at m3
       replace m0:w7.cell? ⟨gm,0,none⟩=some (.int .i64 i0):=m0
       replace m3:w7.cell? ⟨gm,3,none⟩=some (.int .i64 t0):=m3
       replace oq:vM7=.slice (some ⟨gm,0,none⟩) 1 cap:=oq
       rw[oq]at c11
       by_cases ht:t0=1
       .have hl:=oG.o
        rw[hL,hR]at hl
        have hsig:=hl.ret (by rw[ht0];exact ht)
        have HR:aA (num E7 (sig (aV ra++aV rb))=i0/\sig (aV ra++aV rb)∈syms E7):=ak (by rw[hsig];exact⟨hi0,(DN.o.mem i (by simp)).1⟩)
        have b4:((t0:Int)==(1:Int))=true:=by rw[ht];rfl
        have b4':(t0:Int)=1:=by omega
        clear hl hsig hL hR h1 hc hat m1 m2 hi0 ht0 ht oq
        go_wp2_with fail
        exact af_ (v:=.tuple #[.int .i64 i0,.nilIface]) (by simp[results,Tryz.results106,go_sem]) rfl ⟨E7,by rw[HR.o.1],Qd.o,HR.o.2⟩
       .have hlt:=Qe.o (λe=>by obtain⟨-,-,j,e1,e2⟩:=e;injection e1 with e1 _;rw[<-e1,ht0]at e2;exact ht e2)
        have iI:=ak hlt
        have b4:((t0:Int)==(1:Int))=false:=agh.2 (by omega)
        have b4':¬(t0:Int)=1:=by omega
        clear hL hR h1 hc hat m1 m2 hi0 ht0 ht oq hlt
        go_wp2_with fail
        go_roundw
        case rel=>exact⟨n1,E7,_,_,_,_,_,by first|rfl|go_num,iI.o,DN.o,Qd.o,oG.o⟩
        case measure=>have:=iI.o;simp[intOf];omega
      .obtain⟨a7,k7,oq⟩:=DN.o.mid.len
       obtain⟨l7,hl7⟩:=ay (m7.length)
       have Pf:vM7=.slice a7 l7 k7:=by rw[<-hl7];exact oq
       rw[Pf]at c11
       have b4:((l7:Int)==(1:Int))=false:=agh.2 (by omega)
       have b4':¬(l7:Int)=1:=by omega
       have hlt:=Qe.o (λe=>by obtain⟨-,-,j,e1,-⟩:=e;exact h1 (by rw[e1];rfl))
       have iI:=ak hlt
       clear hL hR h1 oq hl7 Pf hlt
       go_wp2_with fail
       go_roundw
       case rel=>exact⟨n1,E7,_,_,_,_,_,by first|rfl|go_num,iI.o,DN.o,Qd.o,oG.o⟩
       case measure=>have:=iI.o;simp[intOf];omega
def UF(n0 B most g:Nat)(F:List Sy)(E:List En)(W:World)(t:List Nat)(e:Ending)(w':World):Prop:=∃E',e=.returned (.tuple #[vI (num E' (sig t)),.nilIface])/\Gw n0 B most g F (λq=>W.heap.size<=q) E E' W w'/\sig t∈syms E'
theorem UF.pre{n0 B most g:Nat}{F:List Sy}{E:List En}{W W1:World}{t:List Nat}{e:Ending}{w':World}(h:UF n0 B most g F E W1 t e w')(hg:Gw n0 B most g F (λq=>W.heap.size<=q) E E W W1):UF n0 B most g F E W t e w':=by
 obtain⟨E',h1,h2,h3⟩:=h
 exact⟨E',h1,hg.trans (h2.mono λq _ hq=>af9 hg.below.size hq),h3⟩
section
variable {n0 B most g:Nat} {F:List Sy} {E:List En} {W:World}
theorem PI(h:gV n0 B most g F E W){pa:Nat}(hp:iW W pa B g){ra rb:Sy}(ha:jB ra)(hb:jB rb)(hra:ra∈syms E)(hrb:rb∈syms E){la lb:Nat}(hla:(aV ra).length=la)(hlb:(aV rb).length=lb)(hlen:la+lb<=300000)(hn0:n0<=W.heap.size)(hF:∀n,∀y∈S n (aV ra++aV rb),y∈F):
    Calls Tryz.prog 59 #[ku pa,vI (num E ra),vI (num E rb)] W (UF n0 B most g F E W (aV ra++aV rb)):=by
 have UD:aA (∀w,Below W.heap.size W w->Calls Tryz.prog 106 #[ku pa,vI (num E ra),vI la,vI (num E rb),.int .i64 0] w (UF n0 B most g F E w (aV ra++aV rb))):=ak λw hw=>Jq (h.below hw) (au hw hp) ha hb hra hrb hla hlb hlen (af9 hn0 hw.size) hF
 have iF:aA (Calls Tryz.prog 57 #[ku pa,vI (num E ra)] W λe w'=>e=.returned (vI la)/\Below W.heap.size W w'):=ak (by
  obtain⟨x1,x2,x3⟩:=aS hra
  have:=rZ h hp (i:=num E ra) x2
  rw[og h.wf.wf x1 x2,x3,hla]at this
  exact this)
 have HP:=ak h
 obtain⟨ia,hia⟩:=ay (num E ra)
 obtain⟨ib,hib⟩:=ay (num E rb)
 rw[hia]at iF
 rw[hia,hib]at UD
 rw[hia,hib]
 clear h hp ha hb hra hrb hla hlb hlen hn0 hF hia hib
 go_enter Tryz.func59,Tryz.ntmps59
 go_wp2_with fail
 refine iF.o.mono ?_
 rintro e w1 ⟨rfl,b1⟩
 have HS:=ak (UD.o w1 b1)
 have HG:aA (Gw n0 B most g F (λq=>W.heap.size<=q) E E W w1):=ak (Gw.of HP.o b1)
 clear b1
 go_wp2_with fail
 refine HS.o.mono ?_
 rintro e w2 ⟨E2,rfl,g2,m2⟩
 have HR:aA (UF n0 B most g F E W (aV ra++aV rb) (.returned (.tuple #[vI (num E2 (sig (aV ra++aV rb))),.nilIface])) w2):=ak (UF.pre ⟨E2,rfl,g2,m2⟩ HG.o)
 obtain⟨q,hq⟩:=ay (num E2 (sig (aV ra++aV rb)))
 rw[hq]at HR⊢
 clear g2 m2 hq
 go_wp2_with fail
 exact af_ (v:=.tuple #[vI q,.nilIface]) (by simp[results,Tryz.results59,go_sem]) rfl HR.o
theorem TR(h:gV n0 B most g F E W){pa:Nat}(hp:iW W pa B g){ra rb:Sy}(ha:jB ra)(hb:jB rb)(hra:ra∈syms E)(hrb:rb∈syms E){la lb:Nat}(hla:(aV ra).length=la)(hlb:(aV rb).length=lb)(hlen:la+lb<=300000)(hn0:n0<=W.heap.size)(hpn:n0<=pa)(hF:∀n,∀y∈S n (aV ra++aV rb),y∈F):
    Calls Tryz.prog 133 #[ku pa,vI (num E ra),vI (num E rb)] W (UF n0 B most g F E W (aV ra++aV rb)):=by
 have HF:∀f,Fence.wide.fn f:=λ_=>trivial
 have hpl:pa<W.heap.size:=by
  have h':W.heap[pa]?=_:=hp
  exact(aga.1 h').1
 obtain⟨xa1,xa2,xa3⟩:=aS hra
 obtain⟨xb1,xb2,xb3⟩:=aS hrb
 have hEl:=h.room
 have YX:aA (Gw n0 B most g F (λq=>W.heap.size<=q) E E W W):=ak (Gw.refl h)
 have fV:aA (∀w,Gw n0 B most g F (λq=>W.heap.size<=q) E E W w->iW w pa B g):=ak λw hg=>hp.kp hg.kp (by omega)
 have HST:aA (∀w,Gw n0 B most g F (λq=>W.heap.size<=q) E E W w->Calls Tryz.prog 16 #[ku pa] w λe w'=>e=.returned (.pointer (some ⟨B,0,none⟩))/\w'=w):=ak λw hg=>iQ (fV.o w hg)
 have uT:aA (∀w,Gw n0 B most g F (λq=>W.heap.size<=q) E E W w->Calls Tryz.prog 54 #[.pointer (some ⟨B,0,none⟩)] w λe w'=>e=.returned (.int .i64 E.length)/\w'=w):=ak λw hg=>wY hg.st.st
 have HTA:aA (∀w,Gw n0 B most g F (λq=>W.heap.size<=q) E E W w->Calls Tryz.prog 55 #[ku pa,vI (num E ra)] w λr w'=>r=.returned (.tuple #[vI (aQ ra),.nilIface])/\Gw n0 B most g F (λ_=>False) E E w w'):=ak λw hg=>AX hg.st (fV.o w hg) hra ha.ok
 have Gg:aA (∀w,Gw n0 B most g F (λq=>W.heap.size<=q) E E W w->Calls Tryz.prog 55 #[ku pa,vI (num E rb)] w λr w'=>r=.returned (.tuple #[vI (aQ rb),.nilIface])/\Gw n0 B most g F (λ_=>False) E E w w'):=ak λw hg=>AX hg.st (fV.o w hg) hrb hb.ok
 have HSA:aA (∀w,Gw n0 B most g F (λq=>W.heap.size<=q) E E W w->Calls Tryz.prog 57 #[ku pa,vI (num E ra)] w λe w'=>e=.returned (vI la)/\Below w.heap.size w w'):=ak λw hg=>by
  have:=rZ hg.st (fV.o w hg) (i:=num E ra) xa2
  rw[og hg.st.wf.wf xa1 xa2,xa3,hla]at this
  exact this
 have HSB:aA (∀w,Gw n0 B most g F (λq=>W.heap.size<=q) E E W w->Calls Tryz.prog 57 #[ku pa,vI (num E rb)] w λe w'=>e=.returned (vI lb)/\Below w.heap.size w w'):=ak λw hg=>by
  have:=rZ hg.st (fV.o w hg) (i:=num E rb) xb2
  rw[og hg.st.wf.wf xb1 xb2,xb3,hlb]at this
  exact this
 have HAD:aA (∀w,Calls Tryz.prog 56 #[vI la,vI lb] w λe w'=>e=.returned (.tuple #[vI (la+lb),.nilIface])/\w'=w):=ak λw=>by
  have:=lD w (a:=la) (b:=lb) (by omega) (by omega)
  rw[af5 (by omega)]at this
  exact this
 have HJN:aA (∀w,Gw n0 B most g F (λq=>W.heap.size<=q) E E W w->Calls Tryz.prog 59 #[ku pa,vI (num E ra),vI (num E rb)] w (UF n0 B most g F E w (aV ra++aV rb))):=ak λw hg=>PI hg.st (fV.o w hg) ha hb hra hrb hla hlb hlen (af9 hn0 hg.below.size) hF
 obtain⟨ia,hia⟩:=ay (num E ra)
 obtain⟨ib,hib⟩:=ay (num E rb)
 obtain⟨va,hva⟩:=ay (aQ ra)
 obtain⟨vb,hvb⟩:=ay (aQ rb)
 obtain⟨ll,hll⟩:=ay (la+lb)
 obtain⟨el,hel⟩:=ay (E.length)
 rw[hia]at HTA HSA xa2
 rw[hib]at Gg HSB xb2
 rw[hia,hib]at HJN
 rw[hva]at HTA
 rw[hvb]at Gg
 rw[hll]at HAD
 rw[hel]at uT xa2 xb2
 rw[hia,hib]
 have a1:¬(ia:Int)<0:=by omega
 have a2:¬(ia:Int)>(el:Int):=by omega
 have b1:¬(ib:Int)<0:=by omega
 have b2:¬(ib:Int)>(el:Int):=by omega
 have a3:decide ((ia:Int)<0)=false:=agD a1
 have b3:decide ((ib:Int)<0)=false:=agD b1
 have hix:∀(a b:Value) (w:World),(Instr.index 200 (.agg #[a,b]) (.int .i64 0)).run Tryz.prog w=.ok a w:=λ_ _ _=>by kernel_rfl
 have Ga:∀(a b:Value) (w:World),(Instr.index 200 (.agg #[a,b]) (.int .i64 1)).run Tryz.prog w=.ok b w:=λ_ _ _=>by kernel_rfl
 clear h hp ha hb hra hrb hla hlb hlen hn0 hpn hF hia hib hva hvb hll hel hpl hEl xa1 xa3 xb1 xb3
 have JZ:=ak (HST.o W YX.o)
 go_enter Tryz.func133,Tryz.ntmps133
 go_wp2_with fail
 refine JZ.o.mono ?_
 rintro e w' ⟨rfl,hw⟩;rw[hw];clear hw w'
 clear JZ
 go_wp2_with fail
 go_loopw [23] (λiv wr=>(iv=.int .i64 0\/iv=.int .i64 1\/iv=.int .i64 2)/\wr=W) (λiv _=>2-(intOf iv).toNat)
 case atStart=>exact⟨.inl rfl,rfl⟩
 case round=>
  obtain⟨hk,rfl⟩:=hrel
  have JZ:=ak (HST.o wr YX.o)
  have Uo:=ak (uT.o wr YX.o)
  rcases hk with rfl|rfl|rfl
  .go_wp2_with fail
   refine JZ.o.mono ?_
   rintro e w' ⟨rfl,hw⟩;rw[hw];clear hw w'
   go_wp2_with fail
   refine Uo.o.mono ?_
   rintro e w' ⟨rfl,hw⟩;rw[hw];clear hw w'
   go_wp2_with fail
   go_roundw
   case rel=>exact⟨.inr (.inl rfl),by trivial⟩
   case measure=>simp[intOf]
  .go_wp2_with fail
   refine JZ.o.mono ?_
   rintro e w' ⟨rfl,hw⟩;rw[hw];clear hw w'
   go_wp2_with fail
   refine Uo.o.mono ?_
   rintro e w' ⟨rfl,hw⟩;rw[hw];clear hw w'
   go_wp2_with fail
   go_roundw
   case rel=>exact⟨.inr (.inr rfl),by trivial⟩
   case measure=>simp[intOf]
  .clear JZ Uo
   go_wp2_with fail
   go_loopw [40] (λiv w=>(iv=.int .i64 0\/iv=.int .i64 1\/iv=.int .i64 2)/\Gw n0 B most g F (λq=>wr.heap.size<=q) E E wr w) (λiv _=>2-(intOf iv).toNat)
   case atStart=>exact⟨.inl rfl,YX.o⟩
   case round=>
    obtain⟨hk,hg⟩:=hrel
    rcases hk with rfl|rfl|rfl
    .have HC:=ak (HTA.o _ hg)
     have HG:=ak hg
     clear hg
     go_wp2_with fail
     refine HC.o.mono ?_
     rintro e w2 ⟨rfl,hg2⟩
     have HG2:=ak (HG.o.trans hg2.free)
     clear hg2
     go_wp2_with fail
     go_roundw
     case rel=>exact⟨.inr (.inl rfl),HG2.o⟩
     case measure=>simp[intOf]
    .have HC:=ak (Gg.o _ hg)
     have HG:=ak hg
     clear hg
     go_wp2_with fail
     refine HC.o.mono ?_
     rintro e w2 ⟨rfl,hg2⟩
     have HG2:=ak (HG.o.trans hg2.free)
     clear hg2
     go_wp2_with fail
     go_roundw
     case rel=>exact⟨.inr (.inr rfl),HG2.o⟩
     case measure=>simp[intOf]
    .have HG:=ak hg
     have HC:=ak (HSA.o _ hg)
     clear hg
     go_wp2_with fail
     refine HC.o.mono ?_
     rintro e w2 ⟨rfl,b2⟩
     have HG2:=ak (HG.o.trans (Gw.of HG.o.st b2))
     have HC2:=ak (HSB.o _ HG2.o)
     clear b2
     go_wp2_with fail
     refine HC2.o.mono ?_
     rintro e w3 ⟨rfl,b3⟩
     have qJ:=ak (HG2.o.trans (Gw.of HG2.o.st b3))
     have HC3:=ak (HAD.o w3)
     clear b3
     go_wp2_with fail
     refine HC3.o.mono ?_
     rintro e w' ⟨rfl,hw⟩;rw[hw];clear hw w'
     have HC4:=ak (HJN.o _ qJ.o)
     go_wp2_with fail
     refine HC4.o.mono ?_
     rintro e w4 ⟨E4,rfl,g4,m4⟩
     have HR:=ak (UF.pre ⟨E4,rfl,g4,m4⟩ qJ.o)
     obtain⟨q,hq⟩:=ay (num E4 (sig (aV ra++aV rb)))
     rw[hq]at HR⊢
     clear g4 m4 hq
     go_wp2_with fail
     exact af_ (v:=.tuple #[vI q,.nilIface]) (by simp[results,Tryz.results133,go_sem]) rfl HR.o
end
end M
end
section
open Go.RowKit Go.Lib
namespace M
structure bT(n0:Nat)(W:World)(mb pa kb B g:Nat)(E:List En)(K:List (Int×Nat)):Prop where
 blk:W.heap[mb]?=some (.cells #[ku pa,.map (some kb)] 124 (0,0))
 par:iW W pa B g
 map:IM.MapAt (λs:Nat=>vI s) W kb K
 ok:∀p∈K,∃i:Nat,p.1=(i:Int)/\0<i/\i<=E.length/\sig (txt E i)∈syms E/\p.2=num E (sig (txt E i))
 ne:∃v,Dq B W v/\v≠ .map (some kb)
 lo:n0<=kb/\n0<=mb/\n0<=pa
theorem bT.cells{n0:Nat}{W:World}{mb pa kb B g:Nat}{E:List En}{K:List (Int×Nat)}(h:bT n0 W mb pa kb B g E K):W.cell? ⟨mb,0,none⟩=some (ku pa)/\W.cell? ⟨mb,1,none⟩=some (.map (some kb)):=by
 have:=h.blk
 simp[World.cell?,this]
theorem bT.lt{n0:Nat}{W:World}{mb pa kb B g:Nat}{E:List En}{K:List (Int×Nat)}(h:bT n0 W mb pa kb B g E K):mb<W.heap.size/\pa<W.heap.size/\kb<W.heap.size:=by
 have hp:W.heap[pa]?=_:=h.par
 exact⟨(aga.1 h.blk).1,(aga.1 hp).1,h.map.lt⟩
theorem bT.okx{E E2:List En}(hx:Ext E E2){K:List (Int×Nat)}(h:∀p∈K,∃i:Nat,p.1=(i:Int)/\0<i/\i<=E.length/\sig (txt E i)∈syms E/\p.2=num E (sig (txt E i))):∀p∈K,∃i:Nat,p.1=(i:Int)/\0<i/\i<=E2.length/\sig (txt E2 i)∈syms E2/\p.2=num E2 (sig (txt E2 i)):=λp hp=>by
 obtain⟨i,h1,h2,h3,h4,h5⟩:=h p hp
 refine⟨i,h1,h2,af9 h3 hx.le,?_,?_⟩
 .rw[hx.txt h3];exact hx.mem h4
 .rw[hx.txt h3,eZ hx h4];exact h5
theorem bT.mk'{n0:Nat}{A C:World}{mb pa kb B g:Nat}{E E2:List En}{K:List (Int×Nat)}(h:bT n0 A mb pa kb B g E K)(hx:Ext E E2)(hc:∀t:TypeId,t∉Du->t≠155->∀k,k<A.heap.size->k=mb\/k=pa->∀(cs:Array Value) (fz:Nat×Nat),A.heap[k]?=some (.cells cs t fz)->C.heap[k]?=some (.cells cs t fz))(hm:∀v,Dq B A v->Dq B C v)(ho:∀(k:Nat) es c,A.heap[k]?=some (.map es c)->(∃v,Dq B A v/\v≠ .map (some k))->C.heap[k]?=some (.map es c)):bT n0 C mb pa kb B g E2 K:=by
 obtain⟨l1,l2,-⟩:=h.lt
 refine⟨hc _ (by decide) (by decide) _ l1 (.inl rfl) _ _ h.blk,hc _ (by decide) (by decide) _ l2 (.inr rfl) _ _ h.par,?_,bT.okx hx h.ok,?_,h.lo⟩
 .obtain⟨es,c,h1,h2⟩:=h.map
  exact⟨es,c,ho _ _ _ h1 h.ne,h2⟩
 .obtain⟨v,h1,h2⟩:=h.ne
  exact⟨v,hm v h1,h2⟩
theorem bT.kp{n0:Nat}{X:Nat->Prop}{A C:World}{mb pa kb B g:Nat}{E E2:List En}{K:List (Int×Nat)}(h:bT n0 A mb pa kb B g E K)(hx:Ext E E2)(hk:Kp B X A C)(hX:∀k,k=mb\/k=pa->¬X k):bT n0 C mb pa kb B g E2 K:=
 h.mk' hx (λt ht _ k _ hl cs fz e=>hk.cells t ht k (hX k hl) cs fz e) hk.map hk.others
theorem bT.kt{n0:Nat}{A C:World}{mb pa kb B g:Nat}{E E2:List En}{K:List (Int×Nat)}(h:bT n0 A mb pa kb B g E K)(hx:Ext E E2)(hk:Kt B A C):bT n0 C mb pa kb B g E2 K:=
 h.kp hx (Kp.kt hk) (λ_ _ q=>q) (X:=λ_=>False)
theorem bT.ktp{n0:Nat}{A C:World}{mb pa kb B g:Nat}{E E2:List En}{K:List (Int×Nat)}(h:bT n0 A mb pa kb B g E K)(hx:Ext E E2)(hk:Ka B A C):bT n0 C mb pa kb B g E2 K:=
 h.mk' hx (λt ht hp k _ _ cs fz e=>hk.cells t (λq=>ht (by rw[q];decide)) (λq=>ht (by rw[q];decide)) hp k cs fz e) hk.map hk.others
theorem bT.below{n0:Nat}{A C:World}{mb pa kb B g:Nat}{E:List En}{K:List (Int×Nat)}(h:bT n0 A mb pa kb B g E K)(hb:Below A.heap.size A C):bT n0 C mb pa kb B g E K:=h.kt (Ext.refl _) (Kt.of hb)
structure Km(B:Nat)(X:Nat->Prop)(A C:World):Prop where
 cells:∀t:TypeId,t∉Du->∀(k:Nat),¬X k->∀(cs:Array Value) (fz:Nat×Nat),A.heap[k]?=some (.cells cs t fz)->C.heap[k]?=some (.cells cs t fz)
 map:∀v,Dq B A v->Dq B C v
theorem Km.of{B:Nat}{X:Nat->Prop}{A C:World}(h:Kp B X A C):Km B X A C:=⟨h.cells,h.map⟩
theorem Km.trans{B:Nat}{X:Nat->Prop}{A C D:World}(h:Km B X A C)(k:Km B X C D):Km B X A D:=⟨λt a i b cs fz e=>k.cells t a i b cs fz (h.cells t a i b cs fz e),λv e=>k.map v (h.map v e)⟩
theorem Km.mono{B:Nat}{X Y:Nat->Prop}{A C:World}(h:Km B X A C)(hx:∀k,k<A.heap.size->X k->Y k):Km B Y A C:=⟨λt a i b cs fz e=>h.cells t a i (λq=>b (hx i (aga.1 e).1 q)) cs fz e,h.map⟩
theorem Km.sl{α:Type}{B:Nat}{X:Nat->Prop}{A C:World}(h:Km B X A C){lo:Nat}{e:TypeId}{size:Nat}{enc:α->List Value}{v:Value}{l:List α}(hs:aP lo A e size enc v l)(he:e∉Du)(hX:∀b,v.ownBlock=some b->¬X b):aP lo C e size enc v l:=by
 refine⟨hs.1,?_⟩
 rcases hs.2 with hn|⟨g,cap,cur,rfl,hb,hg,rest⟩
 .exact .inl hn
 .exact .inr ⟨g,cap,cur,rfl,hb,h.cells e he g (hX g rfl) _ _ hg,rest⟩
structure Gm(n0 B most g:Nat)(F:List Sy)(X:Nat->Prop)(E E':List En)(W w':World):Prop where
 ext:Ext E E'
 st:gV n0 B most g F E' w'
 below:Below n0 W w'
 km:Km B X W w'
theorem Gm.of{n0 B most g:Nat}{F:List Sy}{X:Nat->Prop}{E E':List En}{W w':World}(h:Gw n0 B most g F X E E' W w'):Gm n0 B most g F X E E' W w':=⟨h.ext,h.st,h.below,.of h.kp⟩
theorem Gm.trans{n0 B most g:Nat}{F:List Sy}{X:Nat->Prop}{E E2 E3:List En}{A C D:World}(h:Gm n0 B most g F X E E2 A C)(k:Gm n0 B most g F X E2 E3 C D):Gm n0 B most g F X E E3 A D:=⟨h.ext.trans k.ext,k.st,h.below.trans k.below,h.km.trans k.km⟩
theorem Gm.mono{n0 B most g:Nat}{F:List Sy}{X Y:Nat->Prop}{E E2:List En}{A C:World}(h:Gm n0 B most g F X E E2 A C)(hx:∀k,k<A.heap.size->X k->Y k):Gm n0 B most g F Y E E2 A C:=⟨h.ext,h.st,h.below,h.km.mono hx⟩
theorem Gm.refl{n0 B most g:Nat}{F:List Sy}{X:Nat->Prop}{E:List En}{W:World}(h:gV n0 B most g F E W):Gm n0 B most g F X E E W W:=.of (Gw.refl h)
theorem aW.mp{n0 B most:Nat}{A C:World}{E:List En}{kb:Nat}{es:Array MapEntry}{c:Nat}(h:aW n0 A B most E)(hg:A.grownBy C (some kb))(hm:A.heap[kb]?=some (.map es c))(hne:∃v,Dq B A v/\v≠ .map (some kb)):aW n0 C B most E:=by
 obtain⟨lv,mb,h1,h2,h3,h4⟩:=h
 have hmb:mb≠kb:=λe=>by
  obtain⟨v,q1,q2⟩:=hne
  have:=q1.inj h1.Zu
  rw[this,e]at q2
  exact q2 rfl
 refine⟨lv,mb,aI hg h1 (λe=>?_),aP.keep h2 (λk cs fz e=>aI hg e (λq=>?_)),h3.of_block (hg.block mb h3.lt (λe=>hmb (agQ e))),h4⟩
 .unfold yC at h1
  rw[e,hm]at h1;cases h1
 .rw[q,hm]at e;cases e
theorem Kt.mp{B:Nat}{A C:World}{kb:Nat}{es:Array MapEntry}{c:Nat}(hg:A.grownBy C (some kb))(hm:A.heap[kb]?=some (.map es c)):(∀t (k:Nat) (cs:Array Value) (fz:Nat×Nat),A.heap[k]?=some (.cells cs t fz)->C.heap[k]?=some (.cells cs t fz))/\∀v,Dq B A v->Dq B C v:=by
 have hc:∀t (k:Nat) (cs:Array Value) (fz:Nat×Nat),A.heap[k]?=some (.cells cs t fz)->C.heap[k]?=some (.cells cs t fz):=λt k cs fz e=>aI hg e (λq=>by rw[q,hm]at e;cases e)
 exact⟨hc,λv ⟨cs,fz,e1,e2⟩=>⟨cs,fz,hc _ _ _ _ e1,e2⟩⟩
theorem jV.mp{n0 g B:Nat}{A C:World}{E:List En}{kb:Nat}{es:Array MapEntry}{c:Nat}(h:jV n0 A g B E)(hg:A.grownBy C (some kb))(hm:A.heap[kb]?=some (.map es c))(hn:n0<=kb):jV n0 C g B E:=by
 obtain⟨v,rows,h1,h2,h3,h4⟩:=h.tb
 have hc:=(Kt.mp (B:=B) hg hm).1
 exact⟨⟨v,rows,hc _ _ _ _ h1,h2.keep (λk cs fz e=>hc _ _ _ _ e),h3,h4⟩,h.lo,h.tab.below (bL hg hn h.lt) h.g0,h.g0⟩
theorem bT.put{n0 B most g:Nat}{F:List Sy}{A C:World}{mb pa kb:Nat}{E:List En}{K:List (Int×Nat)}(h:bT n0 A mb pa kb B g E K)(hP:gV n0 B most g F E A){x:Nat}(h0:0<x)(hx:x<=E.length)(hs:sig (txt E x)∈syms E)(hg:A.grownBy C (some kb))(hm:IM.MapAt (λs:Nat=>vI s) C kb (IM.dM (x:Int) (num E (sig (txt E x))) K)):
    bT n0 C mb pa kb B g E (IM.dM (x:Int) (num E (sig (txt E x))) K)/\Gm n0 B most g F (λ_=>False) E E A C:=by
 obtain⟨es,c,q1,-⟩:=h.map
 obtain⟨hc,hv⟩:=Kt.mp (B:=B) hg q1
 refine⟨⟨hc _ _ _ _ h.blk,hc _ _ _ _ h.par,hm,λp hp=>?_,?_,h.lo⟩,Ext.refl _,⟨hP.st.mp hg q1 h.ne,hP.wf,hP.kt.mp hg q1 h.lo.1,hP.sub,hP.len,hP.most,hP.txt⟩,bL hg h.lo.1 hP.lt,⟨λt _ k _ cs fz e=>hc _ _ _ _ e,hv⟩⟩
 .have:∀{l:List (Int×Nat)},(∀p∈l,∃i:Nat,p.1=(i:Int)/\0<i/\i<=E.length/\sig (txt E i)∈syms E/\p.2=num E (sig (txt E i)))->∀p∈IM.dM (x:Int) (num E (sig (txt E x))) l,∃i:Nat,p.1=(i:Int)/\0<i/\i<=E.length/\sig (txt E i)∈syms E/\p.2=num E (sig (txt E i)):=by
   intro l
   induction l with
   |nil=>
    intro _ p hp
    simp only[IM.dM,agl]at hp
    subst hp
    exact⟨x,rfl,h0,hx,hs,rfl⟩
   |cons q l ih=>
    intro hl p hp
    rw[IM.dM]at hp
    split at hp
    .rcases agm.1 hp with rfl|hp
     .exact⟨x,rfl,h0,hx,hs,rfl⟩
     .exact hl p (agK _ hp)
    .rcases agm.1 hp with rfl|hp
     .exact hl _ (ahl ..)
     .exact ih (λy hy=>hl y (agK _ hy)) p hp
  exact this h.ok p hp
 .obtain⟨v,r1,r2⟩:=h.ne
  exact⟨v,hv v r1,r2⟩
theorem bT.get{n0 B g:Nat}{A:World}{mb pa kb:Nat}{E:List En}{K:List (Int×Nat)}(h:bT n0 A mb pa kb B g E K){x s:Nat}(hx:IM.dQ (x:Int) K=some s):s=num E (sig (txt E x))/\sig (txt E x)∈syms E:=by
 obtain⟨i,h1,h2,h3,h4,h5⟩:=h.ok _ (IM.wE hx)
 have e:x=i:=by have:(x:Int)=(i:Int):=h1;omega
 subst e
 exact⟨h5,h4⟩
end M
end
end Go.Proofs.YtgbhohfabhilgaaGreatDoor
