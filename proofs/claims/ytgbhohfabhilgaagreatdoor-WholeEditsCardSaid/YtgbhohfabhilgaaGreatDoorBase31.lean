import Derived.Test.YtgbhohfabhilgaaGreatDoorBase30
set_option maxRecDepth 100000
set_option maxHeartbeats 8000000
set_option linter.unusedVariables false
set_option linter.unusedSimpArgs false
namespace Go.Proofs.YtgbhohfabhilgaaGreatDoor
section
open Go.RowKit Go.Lib
namespace M
attribute [local go_sem] Oper.semAt_some
variable{E:List En}{F:List Sy}{B g lo most n n0 sb:Nat}{ra rb y:Sy}{vL vM vR:Value}{W:World}{s:iD}
theorem Qf.path{e:Ed}(h:Qf e):(EF e).length<=1000000/\∀y k q,EF e=(y,k)::q->k<=(aZ y).length:=by
 cases e with
 |none=>exact⟨agb _,λy k q e=>by cases e⟩
 |some p=>
  obtain⟨p,x⟩:=p
  obtain⟨a,b,c⟩:=h p x rfl
  refine⟨c,λy k q e=>?_⟩
  have e':p=(y,k)::q:=e
  exact(a (y,k) (by rw[e'];simp)).2.1
theorem qW.fin{E0:List En}{W0 w:World}{pa n1:Nat}{cs:Array Value}{lv:Value}{l:List It}(h:qW n0 B most g F E0 W0 lo sb pa n1 s cs vL vR vM E lv l w)(hb:J8 n0 lo n1 W0 vM):
    bQ (w.setCell ⟨sb,11,none⟩ lv) E lo sb pa ⟨s.L,l,s.R⟩ (cs.setIfInBounds 11 lv) vL vR lv/\Gw n0 B most g F (λq=>lo<=q) E0 E W0 (w.setCell ⟨sb,11,none⟩ lv):=by
 obtain⟨a,b,-⟩:=h.sp.SK h.gw.st hb.l0 (bS.of (af6 w.heap.size w)) ((af6 w.heap.size w).mono (by have:=h.sp.lt;have:=h.sp.low;omega)) (h.ls.mono hb.l1) h.ok
 exact⟨a,(h.gw.mono λq _ hq=>af9 hb.l1 hq).trans b⟩
structure Tj(n:Nat)(l:List It):Prop where
 odd:n%2=1->nM l
 tie:n%2=0->f_ n=true->KM l
 one:n%2=0->f_ n=false->One l
def MgZ(n0 B most g:Nat)(F:List Sy)(E:List En)(W:World)(lo sb pa n:Nat)(s:iD)(e:Ending)(w':World):Prop:=e=.returned .nilIface/\∃E' m,aH m=step n (aH s.mid)/\nM m/\(n%2=1->One m)/\kC n0 B most g F E W lo sb pa ⟨oD n s.L,m,oD n s.R⟩ E' w'
theorem Po(h:gV n0 B most g F E W){pa:Nat}{cs:Array Value}(hlo:n0<=lo)(hp:iW W pa B g)(hpa:pa<lo)(hS:bQ W E lo sb pa s cs vL vR vM)(hBL:Qf s.L)(hBR:Qf s.R)(hmid:Tj n s.mid)(hF:∀y∈step n (aH s.mid),y∈F)(kM:s.mid.length<=400000)(hfl:(aH s.mid).length<=1152921504606846976)(hn1:1<=n)(hn:n<=100001):
    Calls Tryz.prog 148 #[.pointer (some ⟨sb,0,none⟩),vI n] W (MgZ n0 B most g F E W lo sb pa n s):=by
 have HF:∀f,Fence.wide.fn f:=λ_=>trivial
 have HB:aA (J8 n0 lo W.heap.size W vM):=ak ⟨hlo,by have:=hS.lt;have:=hS.low;omega,af7 _,λq hq=>(hS.sj hq).2.2.2.2⟩
 have fV:=ak hp;have eG:=ak (And.intro hlo (And.intro hpa hS.low));have HN:=ak (And.intro hn1 hn)
 have HEL:=ak hBL.path;have HER:=ak hBR.path
 have hUL:∀(E6:List En) (w6:World) (J2:Array Value) (v6:Value) (m:List It),bQ w6 E6 lo sb pa ⟨s.L,m,s.R⟩ J2 vL vR v6->Gw n0 B most g F (λq=>lo<=q) E E6 W w6->Calls Tryz.prog 146 #[.pointer (some ⟨sb,1,none⟩),.int .i64 n] w6 λr w'=>r=.returned (.tuple #[])/\∃Nc Qg,bQ w' E6 lo sb pa ⟨oD n s.L,m,s.R⟩ Nc Qg vR v6/\Gw n0 B most g F (λq=>lo<=q) E E6 W w':=λE6 w6 J2 v6 m hs hg=>by
  have xK:iW _ pa B g:=fV.o.kp hg.kp (by have:=eG.o;omega)
  refine(Lh hg.st (fO eG.o.1 eG.o.2.2) xK hs.left HN.o.1 HEL.o.1 HEL.o.2).mono ?_
  rintro r w' ⟨rfl,hq⟩
  obtain⟨Nc,Qg,a,b⟩:=hs.opL hg.st.wf.wf hq
  exact⟨rfl,Nc,Qg,a,hg.trans b⟩
 have hUR:∀(E6:List En) (w6:World) (J2:Array Value) (v6 Qg:Value) (m:List It),bQ w6 E6 lo sb pa ⟨oD n s.L,m,s.R⟩ J2 Qg vR v6->Gw n0 B most g F (λq=>lo<=q) E E6 W w6->Calls Tryz.prog 146 #[.pointer (some ⟨sb,6,none⟩),.int .i64 n] w6 λr w'=>r=.returned (.tuple #[])/\kC n0 B most g F E W lo sb pa ⟨oD n s.L,m,oD n s.R⟩ E6 w':=λE6 w6 J2 v6 Qg m hs hg=>by
  have xK:iW _ pa B g:=fV.o.kp hg.kp (by have:=eG.o;omega)
  refine(Lh hg.st (fO eG.o.1 eG.o.2.2) xK hs.right HN.o.1 HER.o.1 HER.o.2).mono ?_
  rintro r w' ⟨rfl,hq⟩
  obtain⟨Nc,vR7,a,b⟩:=hs.UC hg.st.wf.wf hq
  exact⟨rfl,Nc,_,_,_,a,hg.trans b⟩
 have ut:=ak hUL
 have HUR:=ak hUR
 have hcore:(n%2=1->Calls Tryz.prog 188 #[.pointer (some ⟨sb,0,none⟩)] W (MgP n0 B most g F E W lo sb pa s cs vL vR vM (step n (aH s.mid)) One))/\(n%2=0->f_ n=true->Calls Tryz.prog 189 #[.pointer (some ⟨sb,0,none⟩)] W (MgT n0 B most g F E W lo sb pa s cs vL vR vM (step n (aH s.mid))))/\(n%2=0->f_ n=false->Calls Tryz.prog 190 #[.pointer (some ⟨sb,0,none⟩),.int .i64 n] W (MgP n0 B most g F E W lo sb pa s cs vL vR vM (step n (aH s.mid)) nM)):=
  ⟨λq=>D5 h hlo hp hpa hS (hmid.odd q) q hF (by omega) hfl,λq t=>vH h hlo hp hpa hS (hmid.tie q t) t hF kM hfl,λq t=>CE h hlo hp hpa hS (hmid.one q t) q hF (by omega) hfl hn⟩
 have HC:=ak hcore
 have Pp:=ak (zP W n (by omega))
 have htie:n%2=0->(Au n).2.2=f_ n:=λq=>Nr q (by omega)
 clear h hlo hp hpa hS hBL hBR hmid hF kM hfl hcore hUL hUR
 rcases(show n%2=1\/n%2=0 by omega)with hod|hev
 .have HR:=ak (HC.o.1 hod)
  have HOD:=ak hod
  have hb0:(n:Int).tmod 2=1:=by rw[ah0 (by omega)];omega
  have hb1:(n:Int)%2=1:=by omega
  clear Pp htie hod
  go_enter Tryz.func148,Tryz.ntmps148
  go_wp2_with fail
  refine HR.o.mono ?_
  rintro e w6 ⟨E6,v6,l6,rfl,vG,YP,YQ,-⟩
  obtain⟨a6,k6,hv6⟩:=vG.ls.len
  obtain⟨m6,Jp⟩:=ay (l6.length)
  rw[Jp]at hv6
  subst hv6
  clear Jp
  have hfin:=vG.fin HB.o
  have c11:=vG.sp.jD
  have f11:=vG.sp.free 11
  obtain⟨w7,hw7⟩:=ay (w6.setCell ⟨sb,11,none⟩ (.slice a6 m6 k6))
  rw[hw7]at hfin
  have HL:=ak (ut.o _ _ _ _ _ hfin.1 hfin.2)
  have HQ:=ak (And.intro YP YQ)
  clear vG YP YQ hfin hb0 hb1
  go_wp2_with fail
  clear hw7 c11 f11
  refine HL.o.mono ?_
  rintro e w8 ⟨rfl,cs8,vL8,YR,EJ⟩
  have ni:=ak (HUR.o _ _ _ _ _ _ YR EJ)
  clear YR EJ
  go_wp2_with fail
  refine ni.o.mono ?_
  rintro e w9 ⟨rfl,YS⟩
  have J5:=ak YS
  clear YS
  go_wp2_with fail
  exact af_ (v:=.nilIface) (by simp[results,Tryz.results148,go_sem]) rfl ⟨rfl,E6,l6,HQ.o.1,HQ.o.2.JX,λ_=>HQ.o.2,J5.o⟩
 .have hb0:¬(n:Int).tmod 2=1:=by rw[ah0 (by omega)];omega
  have hb1:¬(n:Int)%2=1:=by omega
  have hb2:(n:Int).tmod 2=0:=by rw[ah0 (by omega)];omega
  have Un:=ak hev
  rw[htie hev]at Pp
  obtain⟨n1,hn1'⟩:=ay ((Au n).1)
  obtain⟨n2,afl⟩:=ay ((Au n).2.1)
  rw[hn1',afl]at Pp
  clear hn1' afl htie hev
  cases htl:f_ n with
  |true=>
   rw[htl]at Pp
   have HR:=ak (HC.o.2.1 Un.o htl)
   clear htl
   go_enter Tryz.func148,Tryz.ntmps148
   go_wp2_with fail
   clear hb0 hb1 hb2
   refine Pp.o.mono ?_
   rintro e w5 ⟨rfl,eH⟩
   obtain rfl:W=w5:=eH.symm
   go_wp2_with fail
   refine HR.o.mono ?_
   rintro e w6 ⟨E6,v6,l6,rfl,vG,YP,YQ⟩
   obtain⟨a6,k6,hv6⟩:=vG.ls.len
   obtain⟨m6,Jp⟩:=ay (l6.length)
   rw[Jp]at hv6
   subst hv6
   clear Jp
   have hfin:=vG.fin HB.o
   have c11:=vG.sp.jD
   have f11:=vG.sp.free 11
   obtain⟨w7,hw7⟩:=ay (w6.setCell ⟨sb,11,none⟩ (.slice a6 m6 k6))
   rw[hw7]at hfin
   have HL:=ak (ut.o _ _ _ _ _ hfin.1 hfin.2)
   have HQ:=ak (And.intro YP YQ)
   clear vG YP YQ hfin
   go_wp2_with fail
   clear hw7 c11 f11
   refine HL.o.mono ?_
   rintro e w8 ⟨rfl,cs8,vL8,YR,EJ⟩
   have ni:=ak (HUR.o _ _ _ _ _ _ YR EJ)
   clear YR EJ
   go_wp2_with fail
   refine ni.o.mono ?_
   rintro e w9 ⟨rfl,YS⟩
   have J5:=ak YS
   clear YS
   go_wp2_with fail
   exact af_ (v:=.nilIface) (by simp[results,Tryz.results148,go_sem]) rfl ⟨rfl,E6,l6,HQ.o.1,HQ.o.2,λq=>absurd Un.o (by omega),J5.o⟩
  |false=>
   rw[htl]at Pp
   have HR:=ak (HC.o.2.2 Un.o htl)
   clear htl
   go_enter Tryz.func148,Tryz.ntmps148
   go_wp2_with fail
   clear hb0 hb1 hb2
   refine Pp.o.mono ?_
   rintro e w5 ⟨rfl,eH⟩
   obtain rfl:W=w5:=eH.symm
   go_wp2_with fail
   refine HR.o.mono ?_
   rintro e w6 ⟨E6,v6,l6,rfl,vG,YP,YQ,-⟩
   obtain⟨a6,k6,hv6⟩:=vG.ls.len
   obtain⟨m6,Jp⟩:=ay (l6.length)
   rw[Jp]at hv6
   subst hv6
   clear Jp
   have hfin:=vG.fin HB.o
   have c11:=vG.sp.jD
   have f11:=vG.sp.free 11
   obtain⟨w7,hw7⟩:=ay (w6.setCell ⟨sb,11,none⟩ (.slice a6 m6 k6))
   rw[hw7]at hfin
   have HL:=ak (ut.o _ _ _ _ _ hfin.1 hfin.2)
   have HQ:=ak (And.intro YP YQ)
   clear vG YP YQ hfin
   go_wp2_with fail
   clear hw7 c11 f11
   refine HL.o.mono ?_
   rintro e w8 ⟨rfl,cs8,vL8,YR,EJ⟩
   have ni:=ak (HUR.o _ _ _ _ _ _ YR EJ)
   clear YR EJ
   go_wp2_with fail
   refine ni.o.mono ?_
   rintro e w9 ⟨rfl,YS⟩
   have J5:=ak YS
   clear YS
   go_wp2_with fail
   exact af_ (v:=.nilIface) (by simp[results,Tryz.results148,go_sem]) rfl ⟨rfl,E6,l6,HQ.o.1,HQ.o.2,λq=>absurd Un.o (by omega),J5.o⟩
theorem lJ:∀{l:List It},(∀i∈l,1<=i.times)->l.length<=(aH l).length
 | [],_=>agb _
 |i::l,h=>by
  have h1:=lJ (l:=l) λj hj=>h j (by simp[hj])
  obtain⟨m,hm⟩:=FC (h i (by simp))
  rw[bg,hm,af8,agc,agc]
  omega
def GaP(n0 B most g:Nat)(F:List Sy)(E:List En)(W:World)(lo sb pa:Nat)(ra rb:Sy)(n:Nat)(s:iD)(e:Ending)(w':World):Prop:=e=.returned (.tuple #[])/\∃s',Gd ra rb n s s'/\Tj (n+1) s'.mid/\kC n0 B most g F E W lo sb pa s' E w'
theorem Lv(h:gV n0 B most g F E W){pa:Nat}{cs:Array Value}(hlo:n0<=lo)(hp:iW W pa B g)(hpa:pa<lo)(hS:bQ W E lo sb pa s cs vL vR vM)(ha:jB ra)(hb:jB rb)(hta:(aV ra).length<=1152921504606846976)(htb:(aV rb).length<=1152921504606846976)(hI:JW ra rb n s)(Gn:nM s.mid)(hone:(n+1)%2=0->One s.mid)(hb3:(kJ n s).length<=300000)(hn:n<=100000):
    Calls Tryz.prog 145 #[.pointer (some ⟨sb,0,none⟩),.int .i64 ((n+1:Nat):Int)] W (GaP n0 B most g F E W lo sb pa ra rb n s):=by
 have HF:∀f,Fence.wide.fn f:=λ_=>trivial
 have hbl:∀{s':iD},kJ n s'=kJ n s->(aH s'.mid).length+(bK n s'.R).length<=300000:=λe=>by
  have:=agC List.length e
  unfold kJ at this hb3
  simp only[af8]at this hb3
  omega
 have hm0:s.mid.length<=300000:=by
  have h1:=hbl (s':=s) rfl
  have h2:=lJ (l:=s.mid) λi hi=>(Gn i hi).2
  omega
 have hEL:=hI.left.edb ha hta
 have hER:=hI.right.edb hb htb
 rcases(show(n+1)%2=1\/(n+1)%2=0 by omega)with hod|hev
 .have hc:=Cy h hlo hp hpa hS hEL hER (by omega) hn hod
  obtain⟨g1,g2⟩:=Vh ha hb hod hI Gn
  have HG:aA (Gd ra rb n s (iN n (fC n s))/\Tj (n+1) (iN n (fC n s)).mid):=ak ⟨g1,λ_=>g2,λq=>absurd hod (by omega),λq=>absurd hod (by omega)⟩
  obtain⟨n1,hn1⟩:=ay (n+1)
  rw[hn1]at hc
  rw[hn1]
  have HC:=ak hc
  have hb0:(n1:Int).tmod 2=1:=by rw[ah0 (by omega)];omega
  clear h hlo hp hpa hS ha hb hta htb hI Gn hone hb3 hbl hm0 hEL hER g1 g2 hc hod hn1
  go_enter Tryz.func145,Tryz.ntmps145
  go_wp2_with fail
  refine HC.o.mono ?_
  rintro e w6 ⟨rfl,hs6⟩
  have xX:=ak hs6
  clear hs6 hb0
  go_wp2_with fail
  exact af_ (v:=.tuple #[]) (by simp[results,Tryz.results145,go_sem]) rfl ⟨rfl,_,HG.o.1,HG.o.2,xX.o⟩
 .have ho:=hone hev
  obtain⟨a1,a2,a3⟩:=nZ ha hev hI Gn
  have hm1:(bI n s).mid.length<=300000:=by
   have h1:=hbl (s':=bI n s) a2
   have h2:=lJ (l:=(bI n s).mid) λi hi=>(a3 i hi).2
   omega
  have hc:=Cv h hlo hp hpa hS hEL (by omega) hn
  have hnb:=zP W (n+1) (by omega)
  rw[Nr hev (by omega)]at hnb
  have hPA:=ak hp;have eG:=ak (And.intro hlo hpa)
  have aaU:Qf (bI n s).R:=a1.toJW.right.edb hb htb
  cases htl:f_ (n+1)with
  |true=>
   have hst:∀(w6:World) (J2:Array Value) (YT YU YV:Value),bQ w6 E lo sb pa (bI n s) J2 YT YU YV->Gw n0 B most g F (λq=>lo<=q) E E W w6->Calls Tryz.prog 182 #[.pointer (some ⟨sb,0,none⟩),.int .i64 ((n+1:Nat):Int)] w6 (GaP n0 B most g F E W lo sb pa ra rb n s):=λw6 J2 YT YU YV hs6 lu=>by
    have xK:iW w6 pa B g:=hPA.o.kp lu.kp (by have:=eG.o;omega)
    refine(xJ lu.st hlo xK hpa hs6 hb htb a1.toJW.right htl (λk X R' hgs=>by
     have h1:=hbl (s':=bI n s) a2
     have h2:=hgs.len
     have h3:=lJ (l:=X) λi hi=>(hgs.st i hi).1
     omega) hn).mono ?_
    rintro e w7 ⟨rfl,s',hstr,Nc,Qg,vR7,vM7,hs7,Ad⟩
    rcases hstr with⟨rfl,hno⟩|⟨k,X,R',rfl,hgs,hne,hk⟩
    .obtain⟨g1,g2⟩:=ZH ha hb htl hI ho (by rw[<-(pg ha hev hI).2];exact hno)
     exact⟨rfl,_,g1,⟨λq=>absurd hev (by omega),λ_ _=>g2,λ_ q=>by rw[htl]at q;cases q⟩,Nc,Qg,vR7,vM7,hs7,lu.trans Ad⟩
    .obtain⟨g1,g2⟩:=ZI ha htl hI ho (by rw[<-(pg ha hev hI).2];exact hgs) hne hk
     exact⟨rfl,_,g1,⟨λq=>absurd hev (by omega),λ_ _=>g2,λ_ q=>by rw[htl]at q;cases q⟩,Nc,Qg,vR7,vM7,hs7,lu.trans Ad⟩
   rw[htl]at hnb
   obtain⟨b1,hb1⟩:=ay ((Au (n+1)).1)
   obtain⟨b2,hb2⟩:=ay ((Au (n+1)).2.1)
   rw[hb1,hb2]at hnb
   obtain⟨n1,hn1⟩:=ay (n+1)
   rw[hn1]at hc hnb hst
   rw[hn1]
   have HC:=ak hc;have Pp:=ak hnb;have HST:=ak hst
   have hb0:¬(n1:Int).tmod 2=1:=by rw[ah0 (by omega)];omega
   have hbz:(n1:Int).tmod 2=0:=by rw[ah0 (by omega)];omega
   clear h hlo hp hpa hS ha hb hta htb hI Gn hone hb3 hbl hm0 hEL hER hc hev hn1 ho a1 a2 a3 hm1 hnb aaU htl hst hb1 hb2
   go_enter Tryz.func145,Tryz.ntmps145
   go_wp2_with fail
   clear hb0 hbz
   refine Pp.o.mono ?_
   rintro e w5 ⟨rfl,eH⟩
   obtain rfl:W=w5:=eH.symm
   go_wp2_with fail
   refine HC.o.mono ?_
   rintro e w6 ⟨rfl,J2,YT,YU,YV,hs6,lu⟩
   have xX:=ak (HST.o _ _ _ _ _ hs6 lu)
   clear hs6 lu
   go_wp2_with fail
   refine xX.o.mono ?_
   rintro e w7 ⟨rfl,hq⟩
   have HQ:=ak hq
   clear hq
   go_wp2_with fail
   go_end0
   exact⟨rfl,HQ.o⟩
  |false=>
   have hst:∀(w6:World) (J2:Array Value) (YT YU YV:Value),bQ w6 E lo sb pa (bI n s) J2 YT YU YV->Gw n0 B most g F (λq=>lo<=q) E E W w6->Calls Tryz.prog 183 #[.pointer (some ⟨sb,0,none⟩),.int .i64 ((n+1:Nat):Int)] w6 (GaP n0 B most g F E W lo sb pa ra rb n s):=λw6 J2 YT YU YV hs6 lu=>by
    have xK:iW w6 pa B g:=hPA.o.kp lu.kp (by have:=eG.o;omega)
    refine(Aj lu.st hlo xK hpa hs6 aaU (by omega) hn).mono ?_
    rintro e w7 ⟨rfl,Nc,Qg,vR7,vM7,hs7,Ad⟩
    obtain⟨g1,g2⟩:=Rl ha hb hev htl hI ho
    exact⟨rfl,_,g1,⟨λq=>absurd hev (by omega),λ_ q=>(by rw[htl]at q;cases q),λ_ _=>g2⟩,Nc,Qg,vR7,vM7,hs7,lu.trans Ad⟩
   rw[htl]at hnb
   obtain⟨b1,hb1⟩:=ay ((Au (n+1)).1)
   obtain⟨b2,hb2⟩:=ay ((Au (n+1)).2.1)
   rw[hb1,hb2]at hnb
   obtain⟨n1,hn1⟩:=ay (n+1)
   rw[hn1]at hc hnb hst
   rw[hn1]
   have HC:=ak hc;have Pp:=ak hnb;have HST:=ak hst
   have hb0:¬(n1:Int).tmod 2=1:=by rw[ah0 (by omega)];omega
   have hbz:(n1:Int).tmod 2=0:=by rw[ah0 (by omega)];omega
   clear h hlo hp hpa hS ha hb hta htb hI Gn hone hb3 hbl hm0 hEL hER hc hev hn1 ho a1 a2 a3 hm1 hnb aaU htl hst hb1 hb2
   go_enter Tryz.func145,Tryz.ntmps145
   go_wp2_with fail
   clear hb0 hbz
   refine Pp.o.mono ?_
   rintro e w5 ⟨rfl,eH⟩
   obtain rfl:W=w5:=eH.symm
   go_wp2_with fail
   refine HC.o.mono ?_
   rintro e w6 ⟨rfl,J2,YT,YU,YV,hs6,lu⟩
   have xX:=ak (HST.o _ _ _ _ _ hs6 lu)
   clear hs6 lu
   go_wp2_with fail
   refine xX.o.mono ?_
   rintro e w7 ⟨rfl,hq⟩
   have HQ:=ak hq
   clear hq
   go_wp2_with fail
   go_end0
   exact⟨rfl,HQ.o⟩
structure Pq(ra rb:Sy)(n:Nat)(t:List Nat)(u v:Nat)(s:iD):Prop where
 sp:JW ra rb n s
 JX:nM s.mid
 one:(n+1)%2=0->One s.mid
 seq:kJ n s=S n t
 szL:rQ false n s.L<=u
 szR:rQ true n s.R<=v
theorem Pq.next{ra rb:Sy}(ha:jB ra)(hb:jB rb){n:Nat}{t:List Nat}{u v:Nat}{s s':iD}(h:Pq ra rb n t u v s)(hg:Gd ra rb n s s'){m:List It}(hm:aH m=step (n+1) (aH s'.mid))(hs:nM m)(ho:(n+1)%2=1->One m):Pq ra rb (n+1) t u v ⟨oD (n+1) s'.L,m,oD (n+1) s'.R⟩:=by
 obtain⟨a,b,c,d⟩:=hg.next ha hb h.seq hm
 exact⟨b,hs,λq=>ho (by omega),a,af9 c h.szL,af9 d h.szR⟩
theorem YW(t:List Nat):∀n,(S n t).length<=(S 0 t).length
 |0=>af7 _
 |n+1=>af9 (Fy (n+1) (S n t)) (YW t n)
theorem Pq.len{t:List Nat}{u v:Nat}(h:Pq ra rb n t u v s):(kJ n s).length<=(S 0 t).length:=by rw[h.seq];exact YW t n
theorem kG{b:Bool}(hy:jB y):VE b y 0 (some (bD b 0 [] y))/\oC b 0 (some (bD b 0 [] y))=Ay b 0 y:=by
 obtain⟨h1,h2,h3,h4,-⟩:=BM (b:=b) (n:=0) (root:=y) (p:=[]) (x:=y) rfl (λf hf=>by cases hf) hy.ok
 refine⟨λp x e=>?_,?_⟩
 .injection e with e
  have e1:(bD b 0 [] y).1=p:=by rw[e]
  have e2:(bD b 0 [] y).2=x:=by rw[e]
  rw[e1,e2]at h1
  rw[e1]at h2
  rw[e2]at h3
  exact⟨h1,h2,h3⟩
 .show front b 0 (bD b 0 [] y).1++[(bD b 0 [] y).2]=_
  rw[h4];rfl
theorem Wu(s:List Sy):(dA s.reverse).length=(dA s).length:=by
 induction s with
 |nil=>rfl
 |cons x s ih=>rw[ah3,bV,jH,af8,af8,ih];simp[dA];omega
theorem EN{b:Bool}(hy:jB y):rQ b 0 (some (bD b 0 [] y))=(aV y).length:=by
 unfold rQ
 rw[(kG hy).2]
 unfold Ay
 cases b with
 |false=>show(dA (ex 0 y)).length=_;rw[qx]
 |true=>show(dA (ex 0 y).reverse).length=_;rw[Wu,qx]
theorem Pq.start(ha:jB ra)(hb:jB rb):Pq ra rb 0 (aV ra++aV rb) (aV ra).length (aV rb).length ⟨some (bD false 0 [] ra),[],some (bD true 0 [] rb)⟩:=by
 refine⟨⟨(kG ha).1,(kG hb).1⟩,λi hi=>(by cases hi),λ_ i hi=>(by cases hi),?_,aiq (EN ha),aiq (EN hb)⟩
 show oC false 0 (some (bD false 0 [] ra))++aH []++(oC true 0 (some (bD true 0 [] rb))).reverse=_
 rw[(kG ha).2,(kG hb).2,cu,agi]
 show ex 0 ra++(ex 0 rb).reverse.reverse=_
 rw[aif]
 obtain⟨t1,h1,rfl⟩:=ha
 obtain⟨t2,h2,rfl⟩:=hb
 rw[<-BK h1,<-BK h2,eY h1,eY h2]
 show _=(t1++t2).map _
 rw[ag2];rfl
theorem AX(h:gV n0 B most g F E W){p:Nat}(hp:iW W p B g){x:Sy}(hx:x∈syms E)(hok:jF x):
    Calls Tryz.prog 55 #[ku p,vI (num E x)] W λr w'=>r=.returned (.tuple #[vI (aQ x),.nilIface])/\Gw n0 B most g F (λ_=>False) E E W w':=by
 have zI:=ak (xA h hx hok)
 obtain⟨p0,p1⟩:=hp.cells
 have hpos:=(aS hx).1
 obtain⟨ix,hix⟩:=ay (num E x)
 rw[hix]at zI hpos
 rw[hix]
 have hb:((ix:Int)==(0:Int))=false:=agh.2 (by omega)
 have hb':¬(ix:Int)=0:=by omega
 clear h hp hx hok hpos hix
 go_enter Tryz.func55,Tryz.ntmps55
 go_wp2_with fail
 clear p0 p1 hb hb'
 refine zI.o.mono ?_
 rintro e w2 ⟨rfl,hg2⟩
 have HG:=ak hg2
 clear hg2
 go_wp2_with fail
 exact af_ (v:=.tuple #[vI (aQ x),.nilIface]) (by simp[results,Tryz.results55,go_sem]) rfl ⟨rfl,HG.o⟩
end M
end
section
open Go.RowKit Go.Lib
namespace M
variable{n u v:Nat}{ra rb:Sy}
def spC(pa:Nat)(vL:Value)(iL kL:Nat)(vR:Value)(iR kR:Nat):List Value:=[ku pa,ku pa,.bool false,vL,vI iL,vK kL,ku pa,.bool true,vR,vI iR,vK kR,.slice none 0 0]
theorem bQ.start{W:World}{E:List En}{lo sb pa:Nat}{pL pR:gI}{xL xR:Sy}{vL vR:Value}(hblk:W.heap[sb]?=some (.cells (spC pa vL (num E xL) (key xL) vR (num E xR) (key xR)).toArray 251 (0,0)))(hlo:lo<=sb)(hpL:G9 lo W E vL pL)(hmL:∀f∈pL,f.1∈syms E/\jF f.1)(hxL:xL∈syms E/\jF xL)(hpR:G9 lo W E vR pR)(hmR:∀f∈pR,f.1∈syms E/\jF f.1)(hxR:xR∈syms E/\jF xR)(hd:∀q,vL.ownBlock=some q->vR.ownBlock≠some q):
    bQ W E lo sb pa ⟨some (pL,xL),[],some (pR,xR)⟩ (spC pa vL (num E xL) (key xL) vR (num E xR) (key xR)).toArray vL vR (.slice none 0 0):=by
 refine⟨⟨⟨hblk,rfl,rfl,rfl,rfl,rfl,hpL,hmL⟩,λp x e=>?_⟩,⟨⟨hblk,rfl,rfl,rfl,rfl,rfl,hpR,hmR⟩,λp x e=>?_⟩,rfl,rfl,aP.nil _ _ _ _ _,λi hi=>(by cases hi),hd,hlo⟩
 .cases e;exact hxL
 .cases e;exact hxR
theorem Pq.done(ha:jB ra)(hb:jB rb){s:iD}{t:List Nat}(h:Pq ra rb n t u v s)(ht:t≠[])(huv:u+v=t.length)(h1:¬(u=(aV ra).length/\v=0))(h2:¬(v=(aV rb).length/\u=0))(l1:aQ ra<=n)(l2:aQ rb<=n)(l3:aQ (sig t)<=n):s.L=none/\s.R=none/\∃i,s.mid=[i]/\i.times=1/\i.x=sig t:=
 Vg ha hb h.sp h.JX ht h.seq h.szL h.szR huv h1 h2 l1 l2 l3
theorem Pq.ret{t:List Nat}{i:It}(h:Pq ra rb n t u v ⟨none,[i],none⟩)(hi:i.times=1):sig t=i.x:=Rk ((h.JX i (by simp)).1) hi h.seq
end M
end
section
open Go.RowKit Go.Lib
namespace M
attribute [local go_sem] Oper.semAt_some
theorem Jq{n0 B most g:Nat}{F:List Sy}{E:List En}{W:World}(h:gV n0 B most g F E W){pa:Nat}(hp:iW W pa B g){ra rb:Sy}(ha:jB ra)(hb:jB rb)(hra:ra∈syms E)(hrb:rb∈syms E){la lb:Nat}(hla:(aV ra).length=la)(hlb:(aV rb).length=lb)(hlen:la+lb<=300000)(hn0:n0<=W.heap.size)(hF:∀n,∀y∈S n (aV ra++aV rb),y∈F):
    Calls Tryz.prog 106 #[ku pa,vI (num E ra),vI la,vI (num E rb),.int .i64 0] W λe w'=>∃E',e=.returned (.tuple #[vI (num E' (sig (aV ra++aV rb))),.nilIface])/\Gw n0 B most g F (λq=>W.heap.size<=q) E E' W w'/\sig (aV ra++aV rb)∈syms E':=by
 have HF:∀f,Fence.wide.fn f:=λ_=>trivial;have hlv:∀{y:Sy},jB y->(aV y).length<=300000->aQ y<=25338:=λ{y} hy hl=>by
  obtain⟨t,ht,rfl⟩:=hy;rw[eY ht]at hl;exact wR ht (by omega)
 have hva:=hlv ha (by omega);have hvb:=hlv hb (by omega);have hpl:pa<W.heap.size:=by
  have h':W.heap[pa]?=_:=hp;exact(aga.1 h').1
 have YX:aA (Gw n0 B most g F (λq=>W.heap.size<=q) E E W W):=ak (Gw.refl h);have fV:aA (∀w,Gw n0 B most g F (λq=>W.heap.size<=q) E E W w->iW w pa B g):=ak λw hg=>hp.kp hg.kp (by omega);have HTA:aA (∀w,Gw n0 B most g F (λq=>W.heap.size<=q) E E W w->Calls Tryz.prog 55 #[ku pa,vI (num E ra)] w λr w'=>r=.returned (.tuple #[vI (aQ ra),.nilIface])/\Gw n0 B most g F (λ_=>False) E E w w'):=ak λw hg=>AX hg.st (fV.o w hg) hra ha.ok;have Gg:aA (∀w,Gw n0 B most g F (λq=>W.heap.size<=q) E E W w->Calls Tryz.prog 55 #[ku pa,vI (num E rb)] w λr w'=>r=.returned (.tuple #[vI (aQ rb),.nilIface])/\Gw n0 B most g F (λ_=>False) E E w w'):=ak λw hg=>AX hg.st (fV.o w hg) hrb hb.ok;obtain⟨ia,hia⟩:=ay (num E ra);obtain⟨ib,hib⟩:=ay (num E rb);obtain⟨va,aaX⟩:=ay (aQ ra);obtain⟨vb,aaY⟩:=ay (aQ rb);rw[aaX]at hva HTA;rw[aaY]at hvb Gg;rw[hia]at HTA;rw[hib]at Gg;rw[hia,hib];have hga:¬(32768:Int)<(va:Int):=by omega
 have hgb:¬(32768:Int)<(vb:Int):=by omega
 have hix:∀(a b:Value) (w:World),(Instr.index 200 (.agg #[a,b]) (.int .i64 0)).run Tryz.prog w=.ok a w:=λ_ _ _=>by kernel_rfl
 have Ga:∀(a b:Value) (w:World),(Instr.index 200 (.agg #[a,b]) (.int .i64 1)).run Tryz.prog w=.ok b w:=λ_ _ _=>by kernel_rfl
 have DY:=ak (And.intro h (And.intro ha (And.intro hb (And.intro hra (And.intro hrb (And.intro hla (And.intro hlb (And.intro hlen (And.intro hn0 (And.intro hF (And.intro hia (And.intro hib (And.intro aaX aaY)))))))))))));clear h hp ha hb hra hrb hla hlb hlen hn0 hF hia hib aaX aaY hlv hpl hva hvb;go_enter Tryz.func106,Tryz.ntmps106;go_wp2_with fail
 go_loopw [23] (λiv wr=>∃k:Nat,iv=.int .i64 k/\k<=2/\Gw n0 B most g F (λq=>W.heap.size<=q) E E W wr) (λiv _=>2-(intOf iv).toNat)
 case atStart=>exact⟨0,rfl,by omega,YX.o⟩
 obtain⟨k,rfl,hk,hg⟩:=hrel;rcases(show k=0\/k=1\/k=2 by omega)with rfl|rfl|rfl
 .have HC:=ak (HTA.o wr hg);have HG:=ak hg;clear hg hk;go_wp2_with fail
  refine HC.o.mono ?_;rintro e w2 ⟨rfl,hg2⟩;have HG2:=ak (HG.o.trans hg2.free);clear hg2;go_wp2_with fail
  go_roundw
  case rel=>exact⟨1,rfl,by omega,HG2.o⟩
  case measure=>simp[intOf]
 .have HC:=ak (Gg.o wr hg);have HG:=ak hg;clear hg hk;go_wp2_with fail
  refine HC.o.mono ?_;rintro e w2 ⟨rfl,hg2⟩;have HG2:=ak (HG.o.trans hg2.free);clear hg2;go_wp2_with fail
  go_roundw
  case rel=>exact⟨2,rfl,by omega,HG2.o⟩
  case measure=>simp[intOf]
 have HG:=ak hg;obtain⟨-,ha,hb,hra,hrb,hla,hlb,hlen,hn0,-,hia,hib,-,-⟩:=DY.o;have iF:aA (Calls Tryz.prog 57 #[ku pa,vI ib] wr λe w'=>e=.returned (vI lb)/\Below wr.heap.size wr w'):=ak (by
  have:=rZ hg.st (fV.o wr hg) (i:=ib) (by rw[<-hib];exact(aS hrb).2.1);obtain⟨x1,x2,x3⟩:=aS hrb;rw[hib]at x1 x2 x3;rw[og hg.st.wf.wf x1 x2,x3,hlb]at this;exact this)
 have xu:aA (∀(y:Sy) (i l:Nat) (b:Bool),jB y->y∈syms E->num E y=i->(aV y).length=l->l<=300000->∀w,Gw n0 B most g F (λq=>W.heap.size<=q) E E W w->Calls Tryz.prog 144 #[ku pa,.int .i64 i,.int .i64 l,.bool b] w λr w'=>∃v,r=.returned (.agg #[ku pa,.bool b,v,vI (num E (bD b 0 [] y).2),vK (key (bD b 0 [] y).2)])/\G9 w.heap.size w' E v (bD b 0 [] y).1/\(∀f∈(bD b 0 [] y).1,f.1∈syms E/\jF f.1)/\(bD b 0 [] y).2∈syms E/\jF (bD b 0 [] y).2/\Gw n0 B most g F (λq=>w.heap.size<=q) E E w w'):=ak (by
  intro y i l b hy hm hi hl hll w hg;have hv:aQ y<=1000000:=by
   obtain⟨t,ht,rfl⟩:=hy;rw[eY ht]at hl;have:=wR ht (by omega);omega
  have:=Li hg.st (fV.o w hg) hm hy.ok hl hv b;rw[hi]at this;exact this)
 have afn:0<la:=by rw[<-hla];exact gY ha.ok
 have afo:0<lb:=by rw[<-hlb];exact gY hb.ok
 have c1:¬(la:Int)=0:=by omega
 have c1':((la:Int)==(0:Int))=false:=agh.2 c1;have c2:¬(lb:Int)=0:=by omega
 have c2':((lb:Int)==(0:Int))=false:=agh.2 c2;have c3:(lb:Int)-0=(lb:Int):=by omega
 have c3':wrap64 (lb:Int)=(lb:Int):=by unfold wrap64;omega
 have Uo:=ak (And.intro afn (And.intro afo hlen));clear hg hk ha hb hra hrb hla hlb hlen hn0 hia hib afn afo;go_wp2_with fail
 refine iF.o.mono ?_;rintro e w2 ⟨rfl,hb2⟩;have HG2:aA (Gw n0 B most g F (λq=>W.heap.size<=q) E E W w2):=ak (HG.o.trans (Gw.of HG.o.st hb2));clear hb2;go_wp2_with fail
 obtain⟨-,ha,hb,hra,hrb,hla,hlb,hlen,hn0,-,hia,hib,-,-⟩:=DY.o;have HNA:=ak (xu.o ra ia la false ha hra hia hla (by omega) w2 HG2.o);clear ha hb hra hrb hla hlb hlen hn0 hia hib;refine HNA.o.mono ?_;rintro e w3 ⟨vL,rfl,YY,hmL,hxL,hoL,hg3⟩;obtain⟨aL,cL,hvL⟩:=aP.len YY;obtain⟨mL,afp⟩:=ay ((bD false 0 [] ra).1.reverse.length);rw[afp]at hvL;subst hvL;clear afp;have qJ:aA (Gw n0 B most g F (λq=>W.heap.size<=q) E E W w3):=ak (HG2.o.trans (hg3.mono λq _ hq=>af9 HG2.o.below.size hq));have Zi:=ak (And.intro YY (And.intro hmL (And.intro hxL hoL)));clear YY hmL hxL hoL hg3;obtain⟨iL,Gj⟩:=ay (num E (bD false 0 [] ra).snd);obtain⟨kL,Ws⟩:=ay (key (bD false 0 [] ra).snd);rw[Gj,Ws];have HIL:=ak (And.intro Gj Ws);clear Gj Ws;go_wp2_with fail
 try simp only[c3']
 obtain⟨-,ha,hb,hra,hrb,hla,hlb,hlen,hn0,-,hia,hib,-,-⟩:=DY.o;have Pp:=ak (xu.o rb ib lb true hb hrb hib hlb (by omega) w3 qJ.o);clear ha hb hra hrb hla hlb hlen hn0 hia hib;refine Pp.o.mono ?_;rintro e w4 ⟨vR,rfl,hfR,hmR,hxR,hoR,hg4⟩;obtain⟨aR,cR,Lp⟩:=aP.len hfR;obtain⟨mR,afq⟩:=ay ((bD true 0 [] rb).1.reverse.length);rw[afq]at Lp;subst Lp;clear afq;obtain⟨iR,hiR⟩:=ay (num E (bD true 0 [] rb).snd);obtain⟨kR,hkR⟩:=ay (key (bD true 0 [] rb).snd);rw[hiR,hkR];have HIR:=ak (And.intro hiR hkR);have xZ:aA (Gw n0 B most g F (λq=>W.heap.size<=q) E E W w4):=ak (qJ.o.trans (hg4.mono λq _ hq=>af9 qJ.o.below.size hq));have hlt:∀{lo:Nat} {w:World} {v:Value} {p:gI} {q:Nat},G9 lo w E v p->v.ownBlock=some q->lo<=q/\q<w.heap.size:=λhf hq=>by
  obtain⟨a,cur,hc⟩:=hf.blk hq;exact⟨a,(aga.1 hc).1⟩
 have afr:G9 w2.heap.size w4 E (.slice aL mL cL) (bD false 0 [] ra).1:=hg4.kp.sl Zi.o.1 (by decide) (λq hq=>by have:=(hlt Zi.o.1 hq).2;omega);obtain⟨w5,eH⟩:=ay (w4.alloc (.cells #[.pointer (some ⟨pa,0,none⟩),.pointer (some ⟨pa,0,none⟩),.bool false,.slice aL mL cL,.int .i64 iL,.int .u64 kL,.pointer (some ⟨pa,0,none⟩),.bool true,.slice aR mR cR,.int .i64 iR,.int .u64 kR,.slice none 0 0] 251));have hb5:Below w4.heap.size w4 w5:=by rw[<-eH];exact(af6 _ _).alloc (af7 _) _
 have hblk:w5.heap[w4.heap.size]?=some (.cells (spC pa (.slice aL mL cL) (num E (bD false 0 [] ra).2) (key (bD false 0 [] ra).2) (.slice aR mR cR) (num E (bD true 0 [] rb).2) (key (bD true 0 [] rb).2)).toArray 251 (0,0)):=by rw[<-eH,HIL.o.1,HIL.o.2,hiR,hkR];exact aD _ _
 have z2:=HG2.o.below.size;have z3:=qJ.o.below.size;have z4:=xZ.o.below.size;have hS5:=bQ.start (lo:=W.heap.size) hblk z4 (aP.mono (aP.below afr hb5) z2) Zi.o.2.1 Zi.o.2.2 (aP.mono (aP.below hfR hb5) z3) hmR ⟨hxR,hoR⟩ (λq hq hq2=>by
  have h1:=(hlt Zi.o.1 hq).2;have h2:=(hlt hfR hq2).1;omega)
 have qU:=ak hS5;have xY:aA (Gw n0 B most g F (λq=>W.heap.size<=q) E E W w5):=ak (xZ.o.trans (Gw.of xZ.o.st hb5));obtain⟨sb,hsb⟩:=ay (w4.heap.size);rw[hsb]at qU;have HSB:aA (W.heap.size<=sb):=ak (by omega);clear hiR hkR afr hb5 hblk z2 z3 z4 hS5 hfR hmR hxR hoR hg4 hlt;have HW5:=ak eH;have zf:=ak hsb;clear eH hsb;go_wp2_with fail
 rw[HW5.o,zf.o];go_loopw [18] (λiv wr=>∃(n:Nat) (E1:List En) (s:iD) (cs:Array Value) (vL vR vM:Value),iv=.int .i64 ((n+1:Nat):Int)/\n<25338/\bQ wr E1 W.heap.size sb pa s cs vL vR vM/\Gw n0 B most g F (λq=>W.heap.size<=q) E E1 W wr/\Pq ra rb n (aV ra++aV rb) la lb s) (λiv _=>25340-(intOf iv).toNat)
 case atStart=>exact⟨0,E,_,_,_,_,_,rfl,by omega,qU.o,xY.o,by
  obtain⟨-,ha,hb,-,-,hla,hlb,-⟩:=DY.o;rw[<-hla,<-hlb];exact Pq.start ha hb⟩
 obtain⟨n,E1,s,cs,vL,vR,vM,rfl,hn,hS,hg,hI⟩:=hrel;obtain⟨-,ha,hb,hra,hrb,hla,hlb,hlen,hn0,hF,hia,hib,-,-⟩:=DY.o;have hp0:=fV.o W YX.o;have hpl:pa<W.heap.size:=by
  have h':W.heap[pa]?=_:=hp0;exact(aga.1 h').1
 have aft:=Lv hg.st hn0 (hp0.kp hg.kp (by omega)) hpl hS ha hb (by omega) (by omega) hI.sp hI.JX hI.one (by
  have:=hI.len;have e:(S 0 (aV ra++aV rb)).length=(aV ra++aV rb).length:=agM _;rw[af8]at e;omega) (by omega)
 have HGA:=ak aft;have HI:=ak (And.intro hI (And.intro hg hn));obtain⟨n1,hn1⟩:=ay (n+1);rw[hn1]at HGA;rw[hn1];have J3:=ak hn1;clear ha hb hra hrb hla hlb hlen hn0 hF hia hib hp0 hpl aft hS hg hI hn hn1;go_wp2_with fail
 refine HGA.o.mono ?_;rintro e w6 ⟨rfl,s',hgd,hmo,J2,YT,YU,YV,hs6,lu⟩;obtain⟨-,ha,hb,hra,hrb,hla,hlb,hlen,hn0,hF,hia,hib,-,-⟩:=DY.o;obtain⟨hI,hg,hn⟩:=HI.o;have hp0:=fV.o W YX.o;have hpl:pa<W.heap.size:=by
  have h':W.heap[pa]?=_:=hp0;exact(aga.1 h').1
 have hl3:(kJ n s').length<=300000:=by
  rw[hgd.seq];have:=hI.len;have e:(S 0 (aV ra++aV rb)).length=(aV ra++aV rb).length:=agM _;rw[af8]at e;omega
 have hfl:(aH s'.mid).length<=300000:=by
  unfold kJ at hl3;simp only[af8]at hl3;omega
 have hti:∀i∈s'.mid,1<=i.times:=λi hi=>by
  rcases(show(n+1)%2=1\/(n+1)%2=0 by omega)with q|q
  .exact(hmo.odd q i hi).2
  cases ht:f_ (n+1)with
  |true=>exact(hmo.tie q ht i hi).1
  |false=>exact(hmo.one q ht).JX i hi |>.2
 have kM:=lJ hti;have hgg:=hg.trans lu;have hmz:=Po lu.st hn0 (hp0.kp hgg.kp (by omega)) hpl hs6 (hgd.gg.left.edb ha (by omega)) (hgd.gg.right.edb hb (by omega)) hmo (λy hy=>hF (n+1) y (hgd.mem ha hb hI.seq hy)) (by omega) (by omega) (by omega) (by omega);rw[J3.o]at hmz;have HMZ:=ak hmz;have HGD:=ak (And.intro hgd hgg);clear ha hb hra hrb hla hlb hlen hn0 hF hia hib hp0 hpl hI hg hn hl3 hfl hti kM hgg hmz hgd hmo hs6 lu;go_wp2_with fail
 refine HMZ.o.mono ?_;rintro e w7 ⟨rfl,E7,m7,hfm,hsm,EM,Nc,Qg,vR7,vM7,hs7,Ad⟩;obtain⟨-,ha,hb,-⟩:=DY.o;have hln:=HI.o.1.next ha hb HGD.o.1 (by rw[J3.o];exact hfm) hsm (by rw[J3.o];exact EM);rw[J3.o]at hln;have oG:=ak hln;have DN:=ak hs7;have Qd:=ak (HGD.o.2.trans Ad);have cL:=hs7.cL.1;have cR:=hs7.cR.1;have c11:=hs7.jD;have hnb:n1<=25338:=by have:=J3.o;have:=HI.o.2.2;omega
 have lw:wrap64 ((n1:Int)+1)=((n1+1:Nat):Int):=by unfold wrap64;omega
 have Qe:aA (¬(oD n1 s'.L=none/\oD n1 s'.R=none/\∃i,m7=[i]/\i.times=1)->n1<25338):=ak (by
  intro hno;apply ahk;intro hge;obtain⟨-,ha,hb,hra,hrb,hla,hlb,hlen,-⟩:=DY.o;have pa':=gY ha.ok;have pb':=gY hb.ok;have hv:∀{y:Sy},jB y->(aV y).length<=300000->aQ y<=n1:=λ{y} hy hl=>by
   obtain⟨t,ht,rfl⟩:=hy;rw[eY ht]at hl;have:=wR ht (by omega);omega
  have hne:aV ra++aV rb≠[]:=λe=>by
   have:=agC List.length e;rw[af8,ahX]at this;omega
  have hlt:(aV ra++aV rb).length=la+lb:=by rw[af8,hla,hlb]
  obtain⟨a,b,i,c,d,-⟩:=hln.done ha hb hne hlt.symm (by omega) (by omega) (hv ha (by omega)) (hv hb (by omega)) (by have:=wR hne (by omega);omega);exact hno ⟨a,b,i,c,d⟩)
 clear ha hb hfm hsm EM hln hs7 Ad;cases hL:oD n1 s'.L with
 |some q=>
  obtain⟨p,x⟩:=q;have hx:=(DN.o.left.sym p x hL).1;rw[show(Uw E7 (oD n1 s'.L))=num E7 x by rw[hL];rfl]at cL;obtain⟨i4,hi4⟩:=ay (num E7 x);have h40:0<i4:=by rw[<-hi4];exact(aS hx).1
  rw[hi4]at cL;have b4:((i4:Int)==(0:Int))=false:=agh.2 (by omega);have b4':¬(i4:Int)=0:=by omega
  have hlt:=Qe.o (λe=>by rw[hL]at e;cases e.1);have iI:=ak hlt;clear hx hi4 h40 hL hlt;go_wp2_with fail
  go_roundw
  case rel=>exact⟨n1,E7,_,_,_,_,_,by first|rfl|go_num,iI.o,DN.o,Qd.o,oG.o⟩
  case measure=>have:=iI.o;simp[intOf];omega
 |none=>
  replace cL:w7.cell? ⟨sb,4,none⟩=some (.int .i64 0):=by rw[hL]at cL;exact cL
  cases hR:oD n1 s'.R with
  |some q=>
   obtain⟨p,x⟩:=q;have hx:=(DN.o.right.sym p x hR).1;rw[show(Uw E7 (oD n1 s'.R))=num E7 x by rw[hR];rfl]at cR;obtain⟨i4,hi4⟩:=ay (num E7 x);have h40:0<i4:=by rw[<-hi4];exact(aS hx).1
   rw[hi4]at cR;have b4:((i4:Int)==(0:Int))=false:=agh.2 (by omega);have b4':¬(i4:Int)=0:=by omega
   have hlt:=Qe.o (λe=>by rw[hR]at e;cases e.2.1);have iI:=ak hlt;clear hx hi4 h40 hL hR hlt;go_wp2_with fail
   go_roundw
   case rel=>exact⟨n1,E7,_,_,_,_,_,by first|rfl|go_num,iI.o,DN.o,Qd.o,oG.o⟩
   case measure=>have:=iI.o;simp[intOf];omega
  |none=>
   replace cR:w7.cell? ⟨sb,9,none⟩=some (.int .i64 0):=by rw[hR]at cR;exact cR
   by_cases h1:m7.length=1
   .obtain⟨i,rfl⟩:=ajr.1 h1;obtain⟨gm,cap,oq,hc,hat⟩:=DN.o.xI (by intro e;cases e);obtain⟨m0,m1,m2,m3⟩:=hat w7 (af6 _ _) 0 i rfl;obtain⟨i0,hi0⟩:=ay (num E7 i.x);obtain⟨t0,ht0⟩:=ay (i.times);rw[hi0]at m0;rw[ht0]at m3;replace m0:w7.cell? ⟨gm,0,none⟩=some (.int .i64 i0):=m0;replace m3:w7.cell? ⟨gm,3,none⟩=some (.int .i64 t0):=m3;replace oq:vM7=.slice (some ⟨gm,0,none⟩) 1 cap:=oq;rw[oq]at c11;by_cases ht:t0=1
    .have hl:=oG.o;rw[hL,hR]at hl;have hsig:=hl.ret (by rw[ht0];exact ht);have HR:aA (num E7 (sig (aV ra++aV rb))=i0/\sig (aV ra++aV rb)∈syms E7):=ak (by rw[hsig];exact⟨hi0,(DN.o.mem i (by simp)).1⟩);have b4:((t0:Int)==(1:Int))=true:=(by rw[ht];rfl);have b4':(t0:Int)=1:=(by omega);clear hl hsig hL hR h1 hc hat m1 m2 hi0 ht0 ht oq;go_wp2_with fail
     exact af_ (v:=.tuple #[.int .i64 i0,.nilIface]) (by simp[results,Tryz.results106,go_sem]) rfl ⟨E7,by rw[HR.o.1],Qd.o,HR.o.2⟩
    have hlt:=Qe.o (λe=>by obtain⟨-,-,j,e1,e2⟩:=e;injection e1 with e1 _;rw[<-e1,ht0]at e2;exact ht e2);have iI:=ak hlt;have b4:((t0:Int)==(1:Int))=false:=agh.2 (by omega);have b4':¬(t0:Int)=1:=(by omega);clear hL hR h1 hc hat m1 m2 hi0 ht0 ht oq hlt;go_wp2_with fail
    go_roundw
    case rel=>exact⟨n1,E7,_,_,_,_,_,by first|rfl|go_num,iI.o,DN.o,Qd.o,oG.o⟩
    case measure=>have:=iI.o;simp[intOf];omega
   obtain⟨a7,k7,oq⟩:=DN.o.mid.len;obtain⟨l7,hl7⟩:=ay (m7.length);have Pf:vM7=.slice a7 l7 k7:=by rw[<-hl7];exact oq
   rw[Pf]at c11;have b4:((l7:Int)==(1:Int))=false:=agh.2 (by omega);have b4':¬(l7:Int)=1:=by omega
   have hlt:=Qe.o (λe=>by obtain⟨-,-,j,e1,-⟩:=e;exact h1 (by rw[e1];rfl));have iI:=ak hlt;clear hL hR h1 oq hl7 Pf hlt;go_wp2_with fail
   go_roundw
   case rel=>exact⟨n1,E7,_,_,_,_,_,by first|rfl|go_num,iI.o,DN.o,Qd.o,oG.o⟩
   case measure=>have:=iI.o;simp[intOf];omega
def UF(n0 B most g:Nat)(F:List Sy)(E:List En)(W:World)(t:List Nat)(e:Ending)(w':World):Prop:=∃E',e=.returned (.tuple #[vI (num E' (sig t)),.nilIface])/\Gw n0 B most g F (λq=>W.heap.size<=q) E E' W w'/\sig t∈syms E'
theorem UF.pre{n0 B most g:Nat}{F:List Sy}{E:List En}{W W1:World}{t:List Nat}{e:Ending}{w':World}(h:UF n0 B most g F E W1 t e w')(hg:Gw n0 B most g F (λq=>W.heap.size<=q) E E W W1):UF n0 B most g F E W t e w':=by
 obtain⟨E',h1,h2,h3⟩:=h
 exact⟨E',h1,hg.trans (h2.mono λq _ hq=>af9 hg.below.size hq),h3⟩
section
variable {n0 B most g:Nat} {F:List Sy} {E:List En} {W:World}
theorem PI(h:gV n0 B most g F E W){pa:Nat}(hp:iW W pa B g){ra rb:Sy}(ha:jB ra)(hb:jB rb)(hra:ra∈syms E)(hrb:rb∈syms E){la lb:Nat}(hla:(aV ra).length=la)(hlb:(aV rb).length=lb)(hlen:la+lb<=300000)(hn0:n0<=W.heap.size)(hF:∀n,∀y∈S n (aV ra++aV rb),y∈F):
    Calls Tryz.prog 59 #[ku pa,vI (num E ra),vI (num E rb)] W (UF n0 B most g F E W (aV ra++aV rb)):=by
 have UD:aA (∀w,Below W.heap.size W w->Calls Tryz.prog 106 #[ku pa,vI (num E ra),vI la,vI (num E rb),.int .i64 0] w (UF n0 B most g F E w (aV ra++aV rb))):=ak λw hw=>Jq (h.below hw) (au hw hp) ha hb hra hrb hla hlb hlen (af9 hn0 hw.size) hF
 have iF:aA (Calls Tryz.prog 57 #[ku pa,vI (num E ra)] W λe w'=>e=.returned (vI la)/\Below W.heap.size W w'):=ak (by
  obtain⟨x1,x2,x3⟩:=aS hra
  have:=rZ h hp (i:=num E ra) x2
  rw[og h.wf.wf x1 x2,x3,hla]at this
  exact this)
 have HP:=ak h
 obtain⟨ia,hia⟩:=ay (num E ra)
 obtain⟨ib,hib⟩:=ay (num E rb)
 rw[hia]at iF
 rw[hia,hib]at UD
 rw[hia,hib]
 clear h hp ha hb hra hrb hla hlb hlen hn0 hF hia hib
 go_enter Tryz.func59,Tryz.ntmps59
 go_wp2_with fail
 refine iF.o.mono ?_
 rintro e w1 ⟨rfl,b1⟩
 have HS:=ak (UD.o w1 b1)
 have HG:aA (Gw n0 B most g F (λq=>W.heap.size<=q) E E W w1):=ak (Gw.of HP.o b1)
 clear b1
 go_wp2_with fail
 refine HS.o.mono ?_
 rintro e w2 ⟨E2,rfl,g2,m2⟩
 have HR:aA (UF n0 B most g F E W (aV ra++aV rb) (.returned (.tuple #[vI (num E2 (sig (aV ra++aV rb))),.nilIface])) w2):=ak (UF.pre ⟨E2,rfl,g2,m2⟩ HG.o)
 obtain⟨q,hq⟩:=ay (num E2 (sig (aV ra++aV rb)))
 rw[hq]at HR⊢
 clear g2 m2 hq
 go_wp2_with fail
 exact af_ (v:=.tuple #[vI q,.nilIface]) (by simp[results,Tryz.results59,go_sem]) rfl HR.o
theorem TR(h:gV n0 B most g F E W){pa:Nat}(hp:iW W pa B g){ra rb:Sy}(ha:jB ra)(hb:jB rb)(hra:ra∈syms E)(hrb:rb∈syms E){la lb:Nat}(hla:(aV ra).length=la)(hlb:(aV rb).length=lb)(hlen:la+lb<=300000)(hn0:n0<=W.heap.size)(hpn:n0<=pa)(hF:∀n,∀y∈S n (aV ra++aV rb),y∈F):
    Calls Tryz.prog 133 #[ku pa,vI (num E ra),vI (num E rb)] W (UF n0 B most g F E W (aV ra++aV rb)):=by
 have HF:∀f,Fence.wide.fn f:=λ_=>trivial
 have hpl:pa<W.heap.size:=by
  have h':W.heap[pa]?=_:=hp
  exact(aga.1 h').1
 obtain⟨xa1,xa2,xa3⟩:=aS hra
 obtain⟨xb1,xb2,xb3⟩:=aS hrb
 have hEl:=h.room
 have YX:aA (Gw n0 B most g F (λq=>W.heap.size<=q) E E W W):=ak (Gw.refl h)
 have fV:aA (∀w,Gw n0 B most g F (λq=>W.heap.size<=q) E E W w->iW w pa B g):=ak λw hg=>hp.kp hg.kp (by omega)
 have HST:aA (∀w,Gw n0 B most g F (λq=>W.heap.size<=q) E E W w->Calls Tryz.prog 16 #[ku pa] w λe w'=>e=.returned (.pointer (some ⟨B,0,none⟩))/\w'=w):=ak λw hg=>iQ (fV.o w hg)
 have uT:aA (∀w,Gw n0 B most g F (λq=>W.heap.size<=q) E E W w->Calls Tryz.prog 54 #[.pointer (some ⟨B,0,none⟩)] w λe w'=>e=.returned (.int .i64 E.length)/\w'=w):=ak λw hg=>wY hg.st.st
 have HTA:aA (∀w,Gw n0 B most g F (λq=>W.heap.size<=q) E E W w->Calls Tryz.prog 55 #[ku pa,vI (num E ra)] w λr w'=>r=.returned (.tuple #[vI (aQ ra),.nilIface])/\Gw n0 B most g F (λ_=>False) E E w w'):=ak λw hg=>AX hg.st (fV.o w hg) hra ha.ok
 have Gg:aA (∀w,Gw n0 B most g F (λq=>W.heap.size<=q) E E W w->Calls Tryz.prog 55 #[ku pa,vI (num E rb)] w λr w'=>r=.returned (.tuple #[vI (aQ rb),.nilIface])/\Gw n0 B most g F (λ_=>False) E E w w'):=ak λw hg=>AX hg.st (fV.o w hg) hrb hb.ok
 have HSA:aA (∀w,Gw n0 B most g F (λq=>W.heap.size<=q) E E W w->Calls Tryz.prog 57 #[ku pa,vI (num E ra)] w λe w'=>e=.returned (vI la)/\Below w.heap.size w w'):=ak λw hg=>by
  have:=rZ hg.st (fV.o w hg) (i:=num E ra) xa2
  rw[og hg.st.wf.wf xa1 xa2,xa3,hla]at this
  exact this
 have HSB:aA (∀w,Gw n0 B most g F (λq=>W.heap.size<=q) E E W w->Calls Tryz.prog 57 #[ku pa,vI (num E rb)] w λe w'=>e=.returned (vI lb)/\Below w.heap.size w w'):=ak λw hg=>by
  have:=rZ hg.st (fV.o w hg) (i:=num E rb) xb2
  rw[og hg.st.wf.wf xb1 xb2,xb3,hlb]at this
  exact this
 have HAD:aA (∀w,Calls Tryz.prog 56 #[vI la,vI lb] w λe w'=>e=.returned (.tuple #[vI (la+lb),.nilIface])/\w'=w):=ak λw=>by
  have:=lD w (a:=la) (b:=lb) (by omega) (by omega)
  rw[af5 (by omega)]at this
  exact this
 have HJN:aA (∀w,Gw n0 B most g F (λq=>W.heap.size<=q) E E W w->Calls Tryz.prog 59 #[ku pa,vI (num E ra),vI (num E rb)] w (UF n0 B most g F E w (aV ra++aV rb))):=ak λw hg=>PI hg.st (fV.o w hg) ha hb hra hrb hla hlb hlen (af9 hn0 hg.below.size) hF
 obtain⟨ia,hia⟩:=ay (num E ra)
 obtain⟨ib,hib⟩:=ay (num E rb)
 obtain⟨va,hva⟩:=ay (aQ ra)
 obtain⟨vb,hvb⟩:=ay (aQ rb)
 obtain⟨ll,hll⟩:=ay (la+lb)
 obtain⟨el,hel⟩:=ay (E.length)
 rw[hia]at HTA HSA xa2
 rw[hib]at Gg HSB xb2
 rw[hia,hib]at HJN
 rw[hva]at HTA
 rw[hvb]at Gg
 rw[hll]at HAD
 rw[hel]at uT xa2 xb2
 rw[hia,hib]
 have a1:¬(ia:Int)<0:=by omega
 have a2:¬(ia:Int)>(el:Int):=by omega
 have b1:¬(ib:Int)<0:=by omega
 have b2:¬(ib:Int)>(el:Int):=by omega
 have a3:decide ((ia:Int)<0)=false:=agD a1
 have b3:decide ((ib:Int)<0)=false:=agD b1
 have hix:∀(a b:Value) (w:World),(Instr.index 200 (.agg #[a,b]) (.int .i64 0)).run Tryz.prog w=.ok a w:=λ_ _ _=>by kernel_rfl
 have Ga:∀(a b:Value) (w:World),(Instr.index 200 (.agg #[a,b]) (.int .i64 1)).run Tryz.prog w=.ok b w:=λ_ _ _=>by kernel_rfl
 clear h hp ha hb hra hrb hla hlb hlen hn0 hpn hF hia hib hva hvb hll hel hpl hEl xa1 xa3 xb1 xb3
 have JZ:=ak (HST.o W YX.o)
 go_enter Tryz.func133,Tryz.ntmps133
 go_wp2_with fail
 refine JZ.o.mono ?_
 rintro e w' ⟨rfl,hw⟩;rw[hw];clear hw w'
 clear JZ
 go_wp2_with fail
 go_loopw [23] (λiv wr=>(iv=.int .i64 0\/iv=.int .i64 1\/iv=.int .i64 2)/\wr=W) (λiv _=>2-(intOf iv).toNat)
 case atStart=>exact⟨.inl rfl,rfl⟩
 case round=>
  obtain⟨hk,rfl⟩:=hrel
  have JZ:=ak (HST.o wr YX.o)
  have Uo:=ak (uT.o wr YX.o)
  rcases hk with rfl|rfl|rfl
  .go_wp2_with fail
   refine JZ.o.mono ?_
   rintro e w' ⟨rfl,hw⟩;rw[hw];clear hw w'
   go_wp2_with fail
   refine Uo.o.mono ?_
   rintro e w' ⟨rfl,hw⟩;rw[hw];clear hw w'
   go_wp2_with fail
   go_roundw
   case rel=>exact⟨.inr (.inl rfl),by trivial⟩
   case measure=>simp[intOf]
  .go_wp2_with fail
   refine JZ.o.mono ?_
   rintro e w' ⟨rfl,hw⟩;rw[hw];clear hw w'
   go_wp2_with fail
   refine Uo.o.mono ?_
   rintro e w' ⟨rfl,hw⟩;rw[hw];clear hw w'
   go_wp2_with fail
   go_roundw
   case rel=>exact⟨.inr (.inr rfl),by trivial⟩
   case measure=>simp[intOf]
  .clear JZ Uo
   go_wp2_with fail
   go_loopw [40] (λiv w=>(iv=.int .i64 0\/iv=.int .i64 1\/iv=.int .i64 2)/\Gw n0 B most g F (λq=>wr.heap.size<=q) E E wr w) (λiv _=>2-(intOf iv).toNat)
   case atStart=>exact⟨.inl rfl,YX.o⟩
   case round=>
    obtain⟨hk,hg⟩:=hrel
    rcases hk with rfl|rfl|rfl
    .have HC:=ak (HTA.o _ hg)
     have HG:=ak hg
     clear hg
     go_wp2_with fail
     refine HC.o.mono ?_
     rintro e w2 ⟨rfl,hg2⟩
     have HG2:=ak (HG.o.trans hg2.free)
     clear hg2
     go_wp2_with fail
     go_roundw
     case rel=>exact⟨.inr (.inl rfl),HG2.o⟩
     case measure=>simp[intOf]
    .have HC:=ak (Gg.o _ hg)
     have HG:=ak hg
     clear hg
     go_wp2_with fail
     refine HC.o.mono ?_
     rintro e w2 ⟨rfl,hg2⟩
     have HG2:=ak (HG.o.trans hg2.free)
     clear hg2
     go_wp2_with fail
     go_roundw
     case rel=>exact⟨.inr (.inr rfl),HG2.o⟩
     case measure=>simp[intOf]
    .have HG:=ak hg
     have HC:=ak (HSA.o _ hg)
     clear hg
     go_wp2_with fail
     refine HC.o.mono ?_
     rintro e w2 ⟨rfl,b2⟩
     have HG2:=ak (HG.o.trans (Gw.of HG.o.st b2))
     have HC2:=ak (HSB.o _ HG2.o)
     clear b2
     go_wp2_with fail
     refine HC2.o.mono ?_
     rintro e w3 ⟨rfl,b3⟩
     have qJ:=ak (HG2.o.trans (Gw.of HG2.o.st b3))
     have HC3:=ak (HAD.o w3)
     clear b3
     go_wp2_with fail
     refine HC3.o.mono ?_
     rintro e w' ⟨rfl,hw⟩;rw[hw];clear hw w'
     have HC4:=ak (HJN.o _ qJ.o)
     go_wp2_with fail
     refine HC4.o.mono ?_
     rintro e w4 ⟨E4,rfl,g4,m4⟩
     have HR:=ak (UF.pre ⟨E4,rfl,g4,m4⟩ qJ.o)
     obtain⟨q,hq⟩:=ay (num E4 (sig (aV ra++aV rb)))
     rw[hq]at HR⊢
     clear g4 m4 hq
     go_wp2_with fail
     exact af_ (v:=.tuple #[vI q,.nilIface]) (by simp[results,Tryz.results133,go_sem]) rfl HR.o
end
end M
end
end Go.Proofs.YtgbhohfabhilgaaGreatDoor
