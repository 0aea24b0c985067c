import Derived.Test.YtgbhohfabhilgaaGreatDoorMrg01
set_option maxRecDepth 100000
set_option maxHeartbeats 8000000
set_option linter.unusedVariables false
set_option linter.unusedSimpArgs false
namespace Go.Proofs.YtgbhohfabhilgaaGreatDoor
open Go.RowKit Go.Lib
namespace M
attribute [local go_sem] Oper.semAt_some
variable{B g gb kb lo mb n0 pa:Nat}{vl vr:Value}
theorem jO.put{E:List En}{A C:World}{b:Nat}{cs:Array Value}{t:TypeId}{fz:Nat×Nat}(h:jO n0 A B g pa mb kb E)(hb:A.heap[b]?=some (.cells cs t fz))(hg:A.grownBy C (some b))(hlo:n0<=b)(he:t≠127/\t≠142/\t≠124/\t≠129/\t≠140/\t≠136):jO n0 C B g pa mb kb E:=by
 obtain⟨K,hm⟩:=h.mem
 have hne:∀{k:Nat} {cs':Array Value} {t':TypeId} {ZN:Nat×Nat},A.heap[k]?=some (.cells cs' t' ZN)->t≠t'->k≠b:=λe hn q=>by
  rw[q,hb]at e
  injection e with e;injection e with _ e _;exact hn e
 refine⟨h.st.OG (jJ hg hb) (by simpa using λq=>he.2.2.2.2.1 q.symm) (by simpa using λq=>he.2.2.2.2.2 q.symm),h.wf,h.kt.Vs (jJ hg hb) (bL hg hlo h.kt.lt) (by simpa using λq=>he.1 q.symm) (by simpa using λq=>he.2.1 q.symm),K,?_⟩
 refine hm.mk' (Ext.refl _) (λt' _ _ k _ hk cs' ZN e=>aI hg e (λq=>?_)) (λv ⟨cs',ZN,e1,e2⟩=>⟨cs',ZN,aI hg e1 (hne e1 he.2.2.2.2.1),e2⟩) (λk es c e _=>aI hg e (λq=>by rw[q,hb]at e;cases e))
 rcases hk with rfl|rfl
 .exact hne hm.blk he.2.2.1 q
 .exact hne hm.par he.2.2.2.1 q
theorem afh{W:World}{v:Value}{L:List bH}{gr:Grp}{lt rt:Nat}{cf:Bool}(h:mg lo W v L)(hG:GpC W gb vl vr gr lt rt cf):v.ownBlock≠some gb:=λq=>by
 obtain⟨-,cur,e⟩:=aP.blk h q
 unfold GpC at hG
 rw[hG]at e
 injection e with e;injection e with _ e _;cases e
theorem DkX.put{n0 B g pa mb kb k:Nat}{X:Nat->Prop}{E E2:List En}{W w w5:World}{b:Nat}{cs:Array Value}{t:TypeId}{fz:Nat×Nat}(h:DkX n0 B g pa mb kb k X E E2 W w)(hb:w.heap[b]?=some (.cells cs t fz))(hg:w.grownBy w5 (some b))(hlo:n0<=b)(he:t≠127/\t≠142/\t≠124/\t≠129/\t≠140/\t≠136)(hX:X b):DkX n0 B g pa mb kb k X E E2 W w5:=
 ⟨h.dk.put hb hg hlo he,h.ext,h.few,h.Dx.trans (bL hg hlo (af9 hlo (aiP (aga.1 hb).1))),λt' a b' i x cs' ZN q=>aI hg (h.kx t' a b' i x cs' ZN q) (λe=>x (by rw[e];exact hX))⟩
def FlX(gb:Nat)(vl vr:Value)(q:Nat):Prop:=q=gb\/vl.ownBlock=some q\/vr.ownBlock=some q
def FlP(n0 B g pa mb kb k:Nat)(E:List En)(W:World)(gb:Nat)(vl vr:Value)(gr:Grp)(t:List Nat)(e:Ending)(w':World):Prop:=
 ∃E' lt rt,e=.returned .nilIface/\DkX n0 B g pa mb kb k (FlX gb vl vr) E E' W w'/\GpC w' gb vl vr gr lt rt (cfl E t gr)/\fT E' lt (sdT E t gr gr.l)/\fT E' rt (sdT E t gr gr.r)
theorem alf{i k:Nat}{E:List En}{W:World}{t:List Nat}{gr:Grp}(h:jO n0 W B g pa mb kb E)(hb:fT E i t)(hG:GpC W gb vl vr gr 0 0 false)(hl:mg lo W vl gr.l)(hr:mg lo W vr gr.r)(hgb:n0<=gb)(hlo:n0<=lo)(hlo2:lo<=W.heap.size)(hne:∀k,vl.ownBlock=some k->vr.ownBlock≠some k)(hO:GOk t.length gr)(hTl:zZ E gr.l)(hTr:zZ E gr.r)(hLl:gr.l.length<=12)(hLr:gr.r.length<=12)(ht:t.length<=600)(hsl:(sdT E t gr gr.l).length<=600)(hsr:(sdT E t gr gr.r).length<=600)(hk:2320*(gr.l.length+gr.r.length)+26*((sdT E t gr gr.l).length+(sdT E t gr gr.r).length)=k)(hE:E.length+k<=1048575):
    Calls Tryz.prog 123 #[.pointer (some ⟨gb,0,none⟩),.pointer (some ⟨mb,0,none⟩),.int .i64 i] W (FlP n0 B g pa mb kb k E W gb vl vr gr t):=by
 have HF:∀f,Fence.wide.fn f:=λ_=>trivial
 obtain⟨a1,c1,hvl⟩:=hl.len
 obtain⟨a2,c2,hvr⟩:=hr.len
 obtain⟨nl,hnl⟩:=ay (gr.l.length)
 obtain⟨nr,hnr⟩:=ay (gr.r.length)
 rw[hnl]at hvl
 rw[hnr]at hvr
 subst hvl hvr
 have HN:=ak (And.intro hnl hnr)
 have HP:=ak (aaZ h)
 have HS:=ak (abt h)
 have HL:=ak (adr h hb hl hlo hlo2 hG hO hO.fl hO.el hTl hLl ht (by omega) (k:=2320*gr.l.length) rfl (by omega))
 obtain⟨x0,x1,-⟩:=hG.cells
 have HX:=ak (And.intro h (And.intro hb (And.intro hG (And.intro hl (And.intro hr (And.intro hgb (And.intro hlo (And.intro hlo2 (And.intro hne (And.intro hO (And.intro hTl (And.intro hTr (And.intro hLr (And.intro ht (And.intro hsl (And.intro hsr (And.intro hk hE)))))))))))))))))
 clear h hb hG hl hr hgb hlo hlo2 hne hO hTl hTr hLl hLr ht hsl hsr hk hE hnl hnr
 go_enter Tryz.func123,Tryz.ntmps123
 go_wp2_with fail
 refine HP.o.mono ?_;rintro e w' ⟨rfl,hw⟩;rw[hw];clear hw w'
 go_wp2_with fail
 refine HS.o.mono ?_;rintro e w' ⟨rfl,hw⟩;rw[hw];clear hw w'
 go_wp2_with fail
 refine HL.o.mono ?_
 rintro e w1 ⟨E1,lt,rfl,h1,b1⟩
 have k1:GpC w1 gb (.slice a1 nl c1) (.slice a2 nr c2) gr 0 0 false:=h1.kx.gp HX.o.2.2.1 (afh HX.o.2.2.2.1 HX.o.2.2.1)
 obtain⟨-,-,-,-,y4,-,-,yf⟩:=k1.cells
 have yf4:=yf 4
 obtain⟨w2,hw2⟩:=ay (w1.setCell ⟨gb,4,none⟩ (vI lt))
 have k2:GpC w2 gb (.slice a1 nl c1) (.slice a2 nr c2) gr lt 0 false:=by rw[<-hw2];exact aC _ k1
 have g2:w1.grownBy w2 (some gb):=by rw[<-hw2];exact aK _ _ _
 have h2:DkX n0 B g pa mb kb (2320*gr.l.length) (FlX gb (.slice a1 nl c1) (.slice a2 nr c2)) E E1 W w2:=(h1.mono (af7 _) (λ_ _ q=> .inr (.inl q))).put k1 g2 HX.o.2.2.2.2.2.1 (by decide) (.inl rfl)
 have cr2:mg lo w2 (.slice a2 nr c2) gr.r:=by
  have:=h1.kx.sl HX.o.2.2.2.2.1 (by decide) (by decide) (λb q e=>HX.o.2.2.2.2.2.2.2.2.1 b e q)
  exact aP.grown this g2 (.inr (afh this k1))
 have HR:aA (Calls Tryz.prog 158 #[.pointer (some ⟨B,0,none⟩),.int .i64 i,.pointer (some ⟨gb,0,none⟩),.slice a2 nr c2] w2 (SdP n0 B g pa mb kb (2320*gr.r.length) E1 w2 (.slice a2 nr c2) (sdT E1 t gr gr.r))):=ak (by
  obtain⟨h,hb,hG,hl,hr,hgb,hlo,hlo2,hne,hO,hTl,hTr,hLr,ht,hsl,hsr,hk,hE⟩:=HX.o
  have hT1:zZ E1 gr.r:=λc hc=>⟨af9 (hTr c hc).1 h1.ext.le,by rw[h1.ext.ent (hTr c hc).1];exact(hTr c hc).2⟩
  have hs1:=abz (t:=t) (g:=gr) h1.ext (λc hc=>(hTr c hc).1)
  have:=h1.few
  exact adr h2.dk (hb.ext h1.ext) cr2 hlo (af9 hlo2 h2.Dx.size) k2 hO hO.fr hO.er hT1 hLr ht (by rw[hs1];omega) rfl (by omega))
 obtain⟨z0,z1,-⟩:=k2.cells
 have nY:=ak k2;have P_:=ak h2;have HB1:=ak b1;have yQ:=ak h1.ext;have HC2:=ak cr2
 clear k1 k2 g2 h1 h2 b1 yf cr2
 go_wp2_with fail
 refine HR.o.mono ?_
 rintro e w3 ⟨E3,rt,rfl,h3,b3⟩
 have k3:GpC w3 gb (.slice a1 nl c1) (.slice a2 nr c2) gr lt 0 false:=h3.kx.gp nY.o (afh HC2.o nY.o)
 obtain⟨-,-,-,-,-,y5,-,yf⟩:=k3.cells
 have yf5:=yf 5
 obtain⟨w4,hw4⟩:=ay (w3.setCell ⟨gb,5,none⟩ (vI rt))
 have k4:GpC w4 gb (.slice a1 nl c1) (.slice a2 nr c2) gr lt rt false:=by rw[<-hw4];exact aC _ k3
 have g4:w3.grownBy w4 (some gb):=by rw[<-hw4];exact aK _ _ _
 have h4:DkX n0 B g pa mb kb (2320*gr.l.length+2320*gr.r.length) (FlX gb (.slice a1 nl c1) (.slice a2 nr c2)) E E3 W w4:=(P_.o.trans (h3.mono (af7 _) (λ_ _ q=> .inr (.inr q)))).put k3 g4 HX.o.2.2.2.2.2.1 (by decide) (.inl rfl)
 have b4:fT E3 lt (sdT E t gr gr.l)/\fT E3 rt (sdT E t gr gr.r):=⟨HB1.o.ext h3.ext,by rw[<-abz (t:=t) (g:=gr) yQ.o (λc hc=>(HX.o.2.2.2.2.2.2.2.2.2.2.2.1 c hc).1)];exact b3⟩
 obtain⟨z0',z1',-,-,z4,z5,-⟩:=k4.cells
 have uF:=ak k4;have HH4:=ak h4;have cB:=ak b4
 clear k3 k4 g4 h3 h4 b3 b4 yf
 by_cases h0:nl=0\/nr=0
 .have HRR:aA (FlP n0 B g pa mb kb k E W gb (.slice a1 nl c1) (.slice a2 nr c2) gr t (.returned .nilIface) w4):=ak (by
   have hc:cfl E t gr=false:=by
    unfold cfl
    rcases h0 with q|q
    .rw[ahw (HN.o.1.trans q)];rfl
    .rw[ahw (HN.o.2.trans q)];simp
   exact⟨E3,lt,rt,rfl,HH4.o.mono (by have:=HX.o.2.2.2.2.2.2.2.2.2.2.2.2.2.2.2.2.1;omega) (λ_ _ q=>q),by rw[hc];exact uF.o,cB.o.1,cB.o.2⟩)
  have HH0:=ak h0
  clear h0
  by_cases hl0:nl=0
  .subst hl0
   go_wp2_with fail
   exact af_ (v:=.nilIface) (by simp[results,Tryz.results123,go_sem]) rfl HRR.o
  .have e1:((nl:Int)==0)=false:=agh.2 (by omega)
   have e2:¬(nl:Int)=0:=by omega
   obtain rfl:nr=0:=HH0.o.resolve_left hl0
   clear hl0
   go_wp2_with fail
   exact af_ (v:=.nilIface) (by simp[results,Tryz.results123,go_sem]) rfl HRR.o
 have e1:((nl:Int)==0)=false:=agh.2 (by omega)
 have e3:((nr:Int)==0)=false:=agh.2 (by omega)
 have e2:¬(nl:Int)=0:=by omega
 have e4:¬(nr:Int)=0:=by omega
 have HH0:=ak h0
 clear h0
 go_wp2_with fail
 clear hw2 hw4 x0 x1 z0 z1 z0' z1' y4 y5 yf4 yf5
 have m4:∀w,Below w4.heap.size w4 w->w.cell? ⟨gb,4,none⟩=some (vI lt):=λw hw=>(GpC.cells (show GpC w gb (.slice a1 nl c1) (.slice a2 nr c2) gr lt rt false from au hw uF.o)).2.2.2.2.1
 have m5:∀w,Below w4.heap.size w4 w->w.cell? ⟨gb,5,none⟩=some (vI rt):=λw hw=>(GpC.cells (show GpC w gb (.slice a1 nl c1) (.slice a2 nr c2) gr lt rt false from au hw uF.o)).2.2.2.2.2.1
 refine dD (S:=Below w4.heap.size w4) ((af6 _ _).drew) λwq S0=>?_
 have hEQ:Calls Tryz.prog 159 #[.pointer (some ⟨mb,0,none⟩),.int .i64 lt,.int .i64 rt] wq (EqP n0 B g pa mb kb (26*((sdT E t gr gr.l).length+(sdT E t gr gr.r).length)) E3 wq (sdT E t gr gr.l) (sdT E t gr gr.r)):=by
  obtain⟨h,hb,hG,hl,hr,hgb,hlo,hlo2,hne,hO,hTl,hTr,hLr,ht,hsl,hsr,hk,hE⟩:=HX.o
  have:=HH4.o.few
  exact aff (HH4.o.dk.below S0) cB.o.1 cB.o.2 hsl hsr (af7 _) (by omega)
 refine bJ 0 1 2 3 4 5 ?_
 refine tk3 6 7 8 ?_
 refine aJ.wall (i:=9) (by kernel_rfl) rfl HF (by rfl) (λK hK=>?_)
 go_simp
 try with_reducible refine⟨rfl,?_⟩
 refine agq.2 (hEQ.mono ?_)
 rintro e w5 ⟨E5,rfl,h5⟩
 have H5:=ak h5
 have T0:uz w5:=trivial
 refine hK uz _ _ ?_
 clear hK K h5
 refine zD 10 11 12 13 14 ?_
 refine aO ?_
 have k5:GpC w5 gb (.slice a1 nl c1) (.slice a2 nr c2) gr lt rt false:=H5.o.kd _ (by decide) (by decide) _ _ _ (au S0 uF.o)
 obtain⟨-,-,-,-,-,-,y6,yf⟩:=k5.cells
 have yf6:=yf 6
 obtain⟨cf,hcf⟩:∃b,decide (sdT E t gr gr.l=sdT E t gr gr.r)=b:=⟨_,rfl⟩
 rw[hcf]
 obtain⟨w6,dH⟩:=ay (w5.setCell ⟨gb,6,none⟩ (.bool !cf))
 have k6:GpC w6 gb (.slice a1 nl c1) (.slice a2 nr c2) gr lt rt (!cf):=by rw[<-dH];exact aC _ k5
 have g6:w5.grownBy w6 (some gb):=by rw[<-dH];exact aK _ _ _
 have HRR:aA (FlP n0 B g pa mb kb k E W gb (.slice a1 nl c1) (.slice a2 nr c2) gr t (.returned .nilIface) w6):=ak (by
  have hc:cfl E t gr= !cf:=by
   unfold cfl
   rw[hcf,agw (p:=gr.l≠[]) (λq=>HH0.o (.inl (by rw[<-HN.o.1,q];rfl))),agw (p:=gr.r≠[]) (λq=>HH0.o (.inr (by rw[<-HN.o.2,q];rfl)))]
   rfl
  have h6:=((HH4.o.blw S0).trans (.of H5.o)).put k5 g6 HX.o.2.2.2.2.2.1 (by decide) (.inl rfl)
  exact⟨E5,lt,rt,rfl,h6.mono (by have:=HX.o.2.2.2.2.2.2.2.2.2.2.2.2.2.2.2.2.1;omega) (λ_ _ q=>q),by rw[hc];exact k6,cB.o.1.ext H5.o.ext,cB.o.2.ext H5.o.ext⟩)
 clear m4 m5 S0 hEQ k5 k6 g6 yf hcf
 go_wp2_with fail
 exact af_ (v:=.nilIface) (by simp[results,Tryz.results123,go_sem]) rfl HRR.o
end M
end Go.Proofs.YtgbhohfabhilgaaGreatDoor
namespace Go.Proofs.YtgbhohfabhilgaaGreatDoor
open Go.RowKit Go.Lib
namespace M
attribute [local go_sem] Oper.semAt_some
variable{E E0 E1:List En}{t:List Nat}{L p q:List bH}{B g k kb lo mb n0 pa:Nat}{vl vr:Value}{W w:World}
theorem acw(E:List En){L:List bH}:∀{G:List (List bH)},L∈G->dN E L<=dN E G.flatten
 |A::G,h=>by
  rw[ahW,abR]
  rcases agm.1 h with rfl|h
  .omega
  .have:=acw E h;omega
theorem ac_{L:List bH}:∀{G:List (List bH)},L∈G->L.length<=G.flatten.length
 |A::G,h=>by
  rw[ahW,af8]
  rcases agm.1 h with rfl|h
  .omega
  .have:=ac_ h;omega
theorem abS{g:Grp}(hg:g∈aae p q):(∀c∈g.l,c∈p)/\(∀c∈g.r,c∈q)/\g.l.length<=p.length/\g.r.length<=q.length/\∀E,dN E g.l<=dN E p/\dN E g.r<=dN E q:=by
 obtain⟨h1,h2⟩:=aaH p q
 have m1:g.l∈(aae p q).map (·.l):=agz.2 ⟨g,hg,rfl⟩
 have m2:g.r∈(aae p q).map (·.r):=agz.2 ⟨g,hg,rfl⟩
 refine⟨λc hc=>?_,λc hc=>?_,?_,?_,λE=>⟨?_,?_⟩⟩
 .rw[<-h1];exact akb.2 ⟨_,m1,hc⟩
 .rw[<-h2];exact akb.2 ⟨_,m2,hc⟩
 .have:=ac_ m1;rwa [h1]at this
 .have:=ac_ m2;rwa [h2]at this
 .have:=acw E m1;rwa [h1]at this
 .have:=acw E m2;rwa [h2]at this
def ada(E:List En)(t:List Nat)(g:Grp):Nat:=2320*(g.l.length+g.r.length)+26*((sdT E t g g.l).length+(sdT E t g g.r).length)
def abO(E:List En)(t:List Nat):List Grp->Nat
 | []=>0
 |g::G=>ada E t g+abO E t G
theorem acC(E:List En)(t:List Nat):∀A B:List Grp,abO E t (A++B)=abO E t A+abO E t B
 | [],B=>by show abO E t B=0+abO E t B;omega
 |a::A,B=>by show ada E t a+abO E t (A++B)=ada E t a+abO E t A+abO E t B;rw[acC E t A B];omega
theorem afS(E:List En)(t:List Nat):∀G:List Grp,abO E t G=2320*(G.map (λg=>g.l.length+g.r.length)).sum+26*ab_ E t G
 | []=>rfl
 |g::G=>by
  show ada E t g+abO E t G=2320*(g.l.length+g.r.length+(G.map (λg=>g.l.length+g.r.length)).sum)+26*((sdT E t g g.l).length+(sdT E t g g.r).length+ab_ E t G)
  rw[afS E t G];unfold ada;omega
theorem afT(hp:bC t.length (-1) p=true)(hq:bC t.length (-1) q=true)(ht:t.length<=120)(hlp:p.length<=12)(hlq:q.length<=12)(pV:dN E p<=240)(hiq:dN E q<=240):abO E t (aae p q)<=74500:=by
 have h1:=abM hp hq
 have hm:(t.length:Int)<=dX:=by unfold dX;omega
 have h2:=abV (E:=E) hm h1
 have h3:=acj h1 (by omega)
 rw[aco]at h2
 rw[afS,acY]
 omega
def adb(E0:List En)(t:List Nat)(E1:List En)(w:World)(x:Nat×Grp)(v:Nat×Nat):Prop:=
 ∃vl vr,GpC w x.1 vl vr x.2 v.1 v.2 (cfl E0 t x.2)/\(∃a c,vl=.slice a x.2.l.length c)/\fT E1 v.1 (sdT E0 t x.2 x.2.l)/\fT E1 v.2 (sdT E0 t x.2 x.2.r)
def abZ(E0:List En)(t:List Nat)(E1:List En)(w:World)(X:List (Nat×Grp))(V:List (Nat×Nat)):Prop:=X.length=V.length/\∀i (h:i<X.length) (h2:i<V.length),adb E0 t E1 w X[i] V[i]
theorem adb.keep{E2:List En}{A C:World}{x:Nat×Grp}{v:Nat×Nat}(h:adb E0 t E1 A x v)(hx:Ext E1 E2){X:Nat->Prop}(hk:Kx X A C)(hX:¬X x.1):adb E0 t E2 C x v:=by
 obtain⟨vl,vr,h1,h2,h3,h4⟩:=h
 exact⟨vl,vr,hk.gp h1 hX,h2,h3.ext hx,h4.ext hx⟩
theorem abZ.keep{E0 E1 E2:List En}{t:List Nat}{A C:World}{L:List (Nat×Grp)}{V:List (Nat×Nat)}(h:abZ E0 t E1 A L V)(hx:Ext E1 E2){X:Nat->Prop}(hk:Kx X A C)(hX:∀x∈L,¬X x.1):abZ E0 t E2 C L V:=⟨h.1,λi h1 h2=>(h.2 i h1 h2).keep hx hk (hX _ (ag0 h1))⟩
theorem abZ.snoc{L:List (Nat×Grp)}{V:List (Nat×Nat)}{x:Nat×Grp}{v:Nat×Nat}(h:abZ E0 t E1 w L V)(hx:adb E0 t E1 w x v):abZ E0 t E1 w (L++[x]) (V++[v]):=by
 refine⟨by simp[h.1],λj h1 h2=>?_⟩
 by_cases hq:j<L.length
 .rw[ajk hq,ajk (by rw[<-h.1];exact hq)];exact h.2 j hq _
 .have e:j=L.length:=by simp at h1;omega
  subst e
  have e1:(L++[x])[L.length]'h1=x:=by rw[ah_ (af7 _)];simp
  have e2:(V++[v])[L.length]'h2=v:=by rw[ah_ (by rw[h.1];exact af7 _)];simp[h.1]
  rw[e1,e2];exact hx
theorem DkX.then{n0 B g pa mb kb k1 k2:Nat}{X Y:Nat->Prop}{E E2 E3:List En}{W w w3:World}(h:DkX n0 B g pa mb kb k1 X E E2 W w)(k:DkX n0 B g pa mb kb k2 Y E2 E3 w w3)(hy:∀i,i<W.heap.size->Y i->X i):DkX n0 B g pa mb kb (k1+k2) X E E3 W w3:=
 ⟨k.dk,h.ext.trans k.ext,by have:=h.few;have:=k.few;omega,h.Dx.trans k.Dx,h.kx.then k.kx hy⟩
theorem alg{gb:Nat}{M:List bH}{gr:Grp}{lt rt:Nat}{cf:Bool}{cs:Array Value}{t:TypeId}{fz:Nat×Nat}(e:w.heap[k]?=some (.cells cs t fz))(hG:GpC w gb vl vr gr lt rt cf)(hl:mg lo w vl L)(hr:mg lo w vr M)(h1:t≠170)(h2:t≠107):¬FlX gb vl vr k:=λq=>by
 have hs:∀{v:Value} {L:List bH},mg lo w v L->v.ownBlock≠some k:=λhv q=>by
  obtain⟨-,cur,e1⟩:=aP.blk hv q
  rw[e]at e1
  injection e1 with e1;injection e1 with _ e1 _;exact h2 e1
 rcases q with rfl|q|q
 .unfold GpC at hG
  rw[hG]at e
  injection e with e;injection e with _ e _;exact h1 e.symm
 .exact hs hl q
 .exact hs hr q
structure MgI(n0 B g pa mb kb bl hi:Nat)(E:List En)(W:World)(t:List Nat)(gv:Value)(Xa Xb:List (Nat×Grp))(V:List (Nat×Nat))(E1:List En)(lo:Nat)(w:World):Prop where
 dk:DkX n0 B g pa mb kb (abO E t (Xa.map (·.2))) (λ_=>False) E E1 W w
 fin:abZ E t E1 w Xa V
 gs:aaG w lo hi Xb
 low:bl<=lo/\W.heap.size<=bl/\n0<=bl
 lt:∀x∈Xa,x.1<lo/\bl<=x.1
 pts:Pts bl w gv ((Xa++Xb).map (·.1))
theorem MgI.step{bl hi:Nat}{gv:Value}{Xa Xb:List (Nat×Grp)}{x:Nat×Grp}{V:List (Nat×Nat)}(h:MgI n0 B g pa mb kb bl hi E W t gv Xa (x::Xb) V E1 lo w)(hG:GpC w x.1 vl vr x.2 0 0 false){m:Nat}(hm:x.1<m)(hl:mg (x.1+1) w vl x.2.l)(hr:mg (x.1+1) w vr x.2.r)(ho1:∀k,vl.ownBlock=some k->k<m/\vr.ownBlock≠some k)(ho2:∀k,vr.ownBlock=some k->k<m)(hgs:aaG w m hi Xb)(hlo:lo<=x.1)(hs:sdT E1 t x.2 x.2.l=sdT E t x.2 x.2.l/\sdT E1 t x.2 x.2.r=sdT E t x.2 x.2.r)(hk:k=ada E t x.2){e:Ending}{w':World}(hF:FlP n0 B g pa mb kb k E1 w x.1 vl vr x.2 t e w'):
    e=.returned .nilIface/\∃E2 v,MgI n0 B g pa mb kb bl hi E W t gv (Xa++[x]) Xb (V++[v]) E2 m w':=by
 obtain⟨E2,lt,rt,rfl,h1,h2,h3,h4⟩:=hF
 subst hk
 have hnl:∀q,FlX x.1 vl vr q->x.1<=q/\q<m:=λq hq=>by
  rcases hq with rfl|hq|hq
  .exact⟨af7 _,hm⟩
  .have:=(aP.blk hl hq).1;exact⟨by omega,(ho1 q hq).1⟩
  .have:=(aP.blk hr hq).1;exact⟨by omega,ho2 q hq⟩
 have hlow:=h.low
 have hc:cfl E1 t x.2=cfl E t x.2:=by unfold cfl;rw[hs.1,hs.2]
 refine⟨rfl,E2,(lt,rt),?_,?_,?_,⟨by omega,hlow.2⟩,λy hy=>?_,?_⟩
 .have:=h.dk.then h1 (λi hi hq=>by have:=hnl i hq;omega)
  rw[ag2,acC]
  exact this.mono (by show _<=_+(ada E t x.2+0);omega) (λ_ _ q=>q)
 .refine(h.fin.keep h1.ext h1.kx (λy hy hq=>by have:=hnl _ hq;have:=(h.lt y hy).1;omega)).snoc ⟨vl,vr,by rw[<-hc];exact h2,?_,by rw[<-hs.1];exact h3,by rw[<-hs.2];exact h4⟩
  obtain⟨a,c,q⟩:=aP.len hl
  exact⟨a,c,q⟩
 .refine hgs.keep (λk hk1 hk2 t' ht' cs fz e=>h1.kx t' ?_ ?_ k (λhq=>by have:=hnl k hq;omega) cs fz e)
  .rcases ht' with rfl|rfl<;>decide
  .rcases ht' with rfl|rfl<;>decide
 .rcases ags.1 hy with q|q
  .have:=h.lt y q;exact⟨by omega,this.2⟩
  .simp at q;subst q;omega
 .rw[agf]
  exact aP.keep h.pts (λk cs fz e=>h1.kx _ (by decide) (by decide) k (alg e hG hl hr (by decide) (by decide)) cs fz e)
def MgR(n0 B g pa mb kb k:Nat)(E:List En)(W:World)(t:List Nat)(p q:List bH)(e:Ending)(w':World):Prop:=
 ∃E' gv X V,e=.returned (.tuple #[gv,.nilIface])/\mM n0 B g pa mb kb k E E' W w'/\Pts W.heap.size w' gv (X.map (·.1))/\X.map (·.2)=aae p q/\abZ E t E' w' X V/\X.length<=1000/\∀x∈X,W.heap.size<=x.1
structure aaN(E:List En)(W:World)(b:Nat)(v:Value)(t:List Nat)(L:List bH):Prop where
 Am:mg b W v L
 zV:zZ E L
 len:L.length<=12
 form:bC t.length (-1) L=true
 ins:dN E L<=240
theorem aaN.lng{b:Nat}{v:Value}(h:aaN E W b v t L)(ht:t.length<=120):∃n:Nat,gK E t.length L=((n:Int),0):=by
 have h1:=pO (E:=E) (t:=t) L (-1) 0 h.form (by omega) (agb _)
 have h2:=yF (len:=(t.length:Int)) (by omega) h.form
 have h3:=h.ins
 exact⟨_,A8 (E:=E) (t:=t) (by unfold dX;omega) h.form (by unfold dX;omega)⟩
theorem abP{i bp bq:Nat}{vp vq:Value}(h:jO n0 W B g pa mb kb E)(hb:fT E i t)(hp:aaN E W bp vp t p)(hq:aaN E W bq vq t q)(ht:t.length<=120)(hE:E.length+74500<=1048575):
    Calls Tryz.prog 78 #[.pointer (some ⟨mb,0,none⟩),.int .i64 i,vp,vq] W (MgR n0 B g pa mb kb 74500 E W t p q):=by
 have HF:∀f,Fence.wide.fn f:=λ_=>trivial
 obtain⟨a1,c1,hv1⟩:=hp.Am.len
 obtain⟨a2,c2,hv2⟩:=hq.Am.len
 obtain⟨np,hnp⟩:=ay (p.length)
 obtain⟨nq,hnq⟩:=ay (q.length)
 rw[hnp]at hv1
 rw[hnq]at hv2
 subst hv1 hv2
 have HP:=ak (aaZ h)
 have HS:=ak (abt h)
 obtain⟨u,hu,hwu⟩:=abI h hb (by omega)
 have HW:=ak (hwu W (af6 _ _))
 have HX:=ak (And.intro h (And.intro hb (And.intro hp (And.intro hq (And.intro ht (And.intro hE hu))))))
 clear h hb hp hq ht hE hwu hu hnp hnq
 go_enter Tryz.func78,Tryz.ntmps78
 go_wp2_with fail
 refine HP.o.mono ?_;rintro e w' ⟨rfl,hw⟩;rw[hw];clear hw w'
 go_wp2_with fail
 refine HP.o.mono ?_;rintro e w' ⟨rfl,hw⟩;rw[hw];clear hw w'
 go_wp2_with fail
 refine HS.o.mono ?_;rintro e w' ⟨rfl,hw⟩;rw[hw];clear hw w'
 go_wp2_with fail
 refine HP.o.mono ?_;rintro e w' ⟨rfl,hw⟩;rw[hw];clear hw w'
 go_wp2_with fail
 refine HS.o.mono ?_;rintro e w' ⟨rfl,hw⟩;rw[hw];clear hw w'
 go_wp2_with fail
 refine HW.o.mono ?_
 rintro e w1 ⟨rfl,b1⟩
 obtain⟨wz,w2,hz,hss,k2,b2,⟨q0,q1,q2,q3,q4,q5⟩,r0,r1,r2,r3,r4,r5⟩:=kE w1 u
 have HB2:=ak (Below.after b1 b2);have nY:=ak k2
 have Vl:=ak (qy (HX.o.1.st.below HB2.o) HX.o.2.1.le (by have:=HX.o.2.2.2.2.2.1;omega))
 rw[HX.o.2.1.even]at Vl
 clear b1 b2 k2
 go_wp2_with fail
 clear hz hss q0 q1 q2 q3 q4 q5 r0 r1 r2 r3 r4 r5
 refine Vl.o.mono ?_
 rintro e w3 ⟨rfl,b3⟩
 obtain⟨gs,hgs⟩:=ay (w3.heap.size)
 obtain⟨w4,hw4⟩:=ay (w3.alloc (.cells #[.slice a1 np c1,.slice a2 nq c2] 62))
 have k4:w4.heap[gs]?=some (.cells #[.slice a1 np c1,.slice a2 nq c2] 62 (0,0)):=by rw[<-hw4,<-hgs];exact aD _ _
 have HGS:aA (∀w,Below w4.heap.size w4 w->w.cell? ⟨gs,0,none⟩=some (.slice a1 np c1)/\w.cell? ⟨gs,1,none⟩=some (.slice a2 nq c2)):=ak λw hw=>by
  have:=au hw k4
  simp[World.cell?,this]
 have b4:Below w3.heap.size w3 w4:=by rw[<-hw4];exact(af6 _ _).alloc (af7 _) _
 have acF:aA (Below w2.heap.size w2 w4):=ak (Below.after b3 b4)
 clear b3 b4 k4
 go_wp2_with fail
 clear hw4 hgs
 go_loopw [65] (λjv wr=>∃j:Nat,jv=.int .i64 j/\j<=2/\Below w4.heap.size w4 wr) (λjv _=>2-(intOf jv).toNat)
 case atStart=>exact⟨0,rfl,by omega,af6 _ _⟩
 case round=>
  obtain⟨j,rfl,hj,hB⟩:=hrel
  obtain rfl|rfl|rfl:j=0\/j=1\/j=2:=by omega
  .have z0:=(HGS.o wr hB).1
   have x0:=(dz.cells (au ((acF.o.trans (hB.mono acF.o.size))) nY.o)).1
   have oG:aA (∃n:Nat,Calls Tryz.prog 72 #[.pointer (some ⟨B,0,none⟩),.int .i64 u.len,.slice a1 np c1] wr λe w'=>e=.returned (.tuple #[.int .i64 (n:Int),.nilIface])/\Below wr.heap.size wr w'):=ak (by
    obtain⟨h,hb,hp,hq,ht,hE,hu⟩:=HX.o
    obtain⟨n,hn⟩:=hp.lng ht
    have hbw:Below W.heap.size W wr:=(HB2.o.trans (acF.o.mono HB2.o.size)).trans (hB.mono (af9 HB2.o.size acF.o.size))
    have:=rR ((h.below hbw).st) h.wf.wf (by omega) (hp.Am.below hbw) hp.zV (by have:=hp.len;omega) (t.length:Int)
    rw[hn]at this
    rw[hu]
    exact⟨n,this⟩)
   obtain⟨n,hln⟩:=oG.o
   have H6:=ak hln
   have HBB:=ak hB
   clear hB hln
   go_wp2_with fail
   refine H6.o.mono ?_
   rintro e w6 ⟨rfl,b6⟩
   have zH:=ak b6
   clear b6
   go_wp2_with fail
   go_roundw
   case rel=>exact⟨1,by go_num,by omega,HBB.o.trans (zH.o.mono HBB.o.size)⟩
   case measure=>simp[intOf]
  .have z0:=(HGS.o wr hB).2
   have x0:=(dz.cells (au ((acF.o.trans (hB.mono acF.o.size))) nY.o)).1
   have oG:aA (∃n:Nat,Calls Tryz.prog 72 #[.pointer (some ⟨B,0,none⟩),.int .i64 u.len,.slice a2 nq c2] wr λe w'=>e=.returned (.tuple #[.int .i64 (n:Int),.nilIface])/\Below wr.heap.size wr w'):=ak (by
    obtain⟨h,hb,hp,hq,ht,hE,hu⟩:=HX.o
    obtain⟨n,hn⟩:=hq.lng ht
    have hbw:Below W.heap.size W wr:=(HB2.o.trans (acF.o.mono HB2.o.size)).trans (hB.mono (af9 HB2.o.size acF.o.size))
    have:=rR ((h.below hbw).st) h.wf.wf (by omega) (hq.Am.below hbw) hq.zV (by have:=hq.len;omega) (t.length:Int)
    rw[hn]at this
    rw[hu]
    exact⟨n,this⟩)
   obtain⟨n,hln⟩:=oG.o
   have H6:=ak hln
   have HBB:=ak hB
   clear hB hln
   go_wp2_with fail
   refine H6.o.mono ?_
   rintro e w6 ⟨rfl,b6⟩
   have zH:=ak b6
   clear b6
   go_wp2_with fail
   go_roundw
   case rel=>exact⟨2,by go_num,by omega,HBB.o.trans (zH.o.mono HBB.o.size)⟩
   case measure=>simp[intOf]
  .obtain⟨wd,rfl⟩:∃w,w=wr:=⟨_,rfl⟩
   have hbw:Below W.heap.size W wd:=(HB2.o.trans (acF.o.mono HB2.o.size)).trans (hB.mono (af9 HB2.o.size acF.o.size))
   have HDV:aA (Calls Tryz.prog 122 #[.slice a1 np c1,.slice a2 nq c2] wd (alN wd p q)):=ak (by
    obtain⟨h,hb,hp,hq,ht,hE,hu⟩:=HX.o
    exact adw (hp.Am.below hbw) (hq.Am.below hbw) hp.form hq.form (by have:=hp.len;have:=hq.len;omega))
   have vk:=ak hbw
   clear hbw hB
   go_wp2_with fail
   refine HDV.o.mono ?_
   rintro e w5 ⟨gv,X,rfl,abo,hgs,hXd,hb5,aa6⟩
   obtain⟨g5,c5,hgv⟩:=abo.len
   obtain⟨xn,hxn⟩:=ay (X.length)
   rw[agM,hxn]at hgv
   subst hgv
   have hI0:MgI n0 B g pa mb kb wd.heap.size w5.heap.size E W t (.slice g5 xn c5) [] X [] E wd.heap.size w5:=
    ⟨(DkX.of (mM.of HX.o.1 (vk.o.trans (hb5.mono vk.o.size)))).mono (agb _) (λ_ _ q=>q),⟨rfl,λi h=>by simp at h⟩,hgs,⟨af7 _,vk.o.size,af9 HX.o.1.st.lt vk.o.size⟩,λx hx=>by simp at hx,abo⟩
   have HI0:=ak hI0;have HXD:=ak hXd;have HXN:=ak (And.intro hxn aa6)
   clear abo hgs hXd hb5 aa6 hI0 hxn
   go_wp2_with fail
   go_loopw [86] (λjv wr2=>∃Xa Xb V E1 lo,jv=.int .i64 (Xa.length:Nat)/\X=Xa++Xb/\MgI n0 B g pa mb kb wd.heap.size w5.heap.size E W t (.slice g5 xn c5) Xa Xb V E1 lo wr2) (λjv _=>xn-(intOf jv).toNat)
   case atStart=>exact⟨[],X,[],E,wd.heap.size,rfl,rfl,HI0.o⟩
   case round=>
    clear HI0
    obtain⟨Xa,Xb,V,E1,lo,rfl,hX,hI⟩:=hrel
    cases Xb with
    |nil=>
     rw[agi]at hX
     subst hX
     have HR:aA (MgR n0 B g pa mb kb 74500 E W t p q (.returned (.tuple #[.slice g5 xn c5,.nilIface])) wr):=ak (by
      obtain⟨h,hb,hp,hq,ht,hE,hu⟩:=HX.o
      have abo:=hI.pts
      rw[agi]at abo
      have hlow:=hI.low
      refine⟨E1,_,X,V,rfl,(hI.dk.mono ?_ (λ_ _ q=>q)).dks,abo.mono hlow.2.1,HXD.o,hI.fin,HXN.o.2,λx hx=>af9 hlow.2.1 (hI.lt x hx).2⟩
      rw[HXD.o]
      exact afT hp.form hq.form ht hp.len hq.len hp.ins hq.ins)
     have g1:¬((X.length:Nat):Int)<(xn:Int):=by have:=HXN.o.1;omega
     have g2:¬X.length<xn:=by have:=HXN.o.1;omega
     clear hI
     go_wp2_with fail
     exact af_ (v:=.tuple #[.slice g5 xn c5,.nilIface]) (by simp[results,Tryz.results78,go_sem]) rfl HR.o
    |cons x Xb=>
     obtain⟨j,hj⟩:=ay (Xa.length)
     have hjl:j<xn:=by rw[<-HXN.o.1,hX];simp;omega
     have hjn:j<((Xa++x::Xb).map (·.1)).length:=by simp;omega
     obtain⟨g6,c6,hv6,z0⟩:=abN hI.pts hjn
     have hxe:((Xa++x::Xb).map (·.1))[j]'hjn=x.1:=by subst hj;simp
     rw[hxe]at z0
     simp only[agn]at hv6
     obtain⟨rfl,-,rfl⟩:=hv6
     obtain⟨hlo,m,⟨vl,vr,hG,hm,hl,hr,ho1,ho2⟩,hgs⟩:=hI.gs
     have hxm:x.2∈aae p q:=by rw[<-HXD.o,hX];simp
     have hsd:sdT E1 t x.2 x.2.l=sdT E t x.2 x.2.l/\sdT E1 t x.2 x.2.r=sdT E t x.2 x.2.r:=by
      obtain⟨d1,d2,-⟩:=abS hxm
      exact⟨abz hI.dk.ext (λc hc=>(HX.o.2.2.1.zV c (d1 c hc)).1),abz hI.dk.ext (λc hc=>(HX.o.2.2.2.1.zV c (d2 c hc)).1)⟩
     have HFL:aA (Calls Tryz.prog 123 #[.pointer (some ⟨x.1,0,none⟩),.pointer (some ⟨mb,0,none⟩),.int .i64 i] wr (FlP n0 B g pa mb kb (ada E t x.2) E1 wr x.1 vl vr x.2 t)):=ak (by
      obtain⟨h,hb,hp,hq,ht,hE,hu⟩:=HX.o
      obtain⟨d1,d2,d3,d4,d5⟩:=abS hxm
      have hO:=aaR (abM hp.form hq.form) _ hxm
      have kM:(t.length:Int)<=dX:=by unfold dX;omega
      have s1:=aby (E:=E) kM hO hO.fl hO.el
      have s2:=aby (E:=E) kM hO hO.fr hO.er
      have o1:=hO.lo;have o2:=hO.hi
      have i1:=(d5 E).1;have i2:=(d5 E).2
      have p1:=hp.ins;have p2:=hq.ins;have p3:=hp.len;have p4:=hq.len
      have hcs:=afT hp.form hq.form ht hp.len hq.len hp.ins hq.ins
      rw[<-HXD.o,hX,ag2,acC]at hcs
      have hcs2:abO E t (List.map (·.2) (x::Xb))=ada E t x.2+abO E t (Xb.map (·.2)):=rfl
      have hfw:=hI.dk.few
      have hlow:=hI.low
      have hT:∀{L M:List bH},zZ E M->(∀c∈L,c∈M)->zZ E1 L:=λhM hs c hc=>⟨af9 (hM c (hs c hc)).1 hI.dk.ext.le,by rw[hI.dk.ext.ent (hM c (hs c hc)).1];exact(hM c (hs c hc)).2⟩
      exact alf hI.dk.dk (hb.ext hI.dk.ext) hG hl hr (by omega) (by omega) (aga.1 hG).1 (λk q=>(ho1 k q).2) hO (hT hp.zV d1) (hT hq.zV d2) (by omega) (by omega) (by omega) (by rw[hsd.1];omega) (by rw[hsd.2];omega) (by rw[hsd.1,hsd.2];rfl) (by omega))
     have HST:=ak (λ(e:Ending) (w':World) hF=>hI.step hG hm hl hr ho1 ho2 hgs hlo hsd rfl (e:=e) (w':=w') hF)
     have hlt1:(j:Int)<(xn:Int):=by omega
     have ady:(0:Int)<=(j:Int):=by omega
     have hwj:IntKind.i64.wrap ((j:Int)+1)=((j+1:Nat):Int):=by rw[agd];have:=HXN.o;omega
     rw[hj]
     have HXX:=ak (And.intro hX (And.intro hj hjl))
     clear hX hj hI hG hm hl hr ho1 ho2 hgs hlo hsd hxm hxe hjn
     go_wp2_with fail
     refine HFL.o.mono ?_
     intro e w7 hF
     obtain⟨rfl,E2,v,hI2⟩:=HST.o e w7 hF
     have HI2:=ak hI2
     clear hF hI2 z0
     go_wp2_with fail
     go_roundw
     case rel=>exact⟨Xa++[x],Xb,V++[v],E2,m,by rw[af8,HXX.o.2.1];rfl,by rw[HXX.o.1];simp,HI2.o⟩
     case measure=>have:=HXX.o.2.2;have:=HXX.o.2.1;simp[intOf];omega
end M
end Go.Proofs.YtgbhohfabhilgaaGreatDoor
namespace Go.Proofs.YtgbhohfabhilgaaGreatDoor
open Go.RowKit Go.Lib
namespace M
attribute [local go_sem] Oper.semAt_some
structure Cfx where
 pos:Int
 n:Int
 l:Nat
 r:Nat
def alh(c:Cfx):List Value:=[.int .i64 c.pos,.int .i64 c.n,.int .i64 c.l,.int .i64 c.r]
theorem acR(c:Cfx):(alh c).length=4:=rfl
abbrev Cfs(B:Nat)(W:World)(v:Value)(L:List Cfx):Prop:=aP B W 79 4 alh v L
theorem alP:Elem Tryz.prog 73 79 4 32:=gP Tryz.underlying73 (z:=.agg #[.int .i64 0,.int .i64 0,.int .i64 0,.int .i64 0]) (by kernel_rfl) rfl (by decide) (by decide)
def afj(E:List En)(c:Cfx):Int×Int×List Nat×List Nat:=(c.pos,c.n,txt E c.l,txt E c.r)
def abQ(E:List En)(t:List Nat)(g:Grp):Int×Int×List Nat×List Nat:=(g.pos,g.en-g.pos,sdT E t g g.l,sdT E t g g.r)
def CfB(E:List En)(L:List Cfx):Prop:=∀c∈L,fT E c.l (txt E c.l)/\fT E c.r (txt E c.r)
structure OfI(n0 B g pa mb kb K:Nat)(E E1:List En)(W:World)(t:List Nat)(X:List (Nat×Grp))(V:List (Nat×Nat))(gv:Value)(j:Nat)(Mg:List bH)(Cf:List Cfx)(vm vc:Value)(w:World):Prop where
 oDk:mM n0 B g pa mb kb K E E1 W w
 oMg:mg W.heap.size w vm Mg
 oCf:Cfs W.heap.size w vc Cf
 oKm:Mg.map (aas E1)=(aax E t ((X.take j).map (·.2))).map (aaW E t)
 oKc:Cf.map (afj E1)=(aaq E t ((X.take j).map (·.2))).map (abQ E t)
 oTm:zZ E1 Mg
 oTc:CfB E1 Cf
 abJ:abZ E t E1 w X V
 ade:Pts W.heap.size w gv (X.map (·.1))
 oNm:Mg.length<=j/\Cf.length<=j
section
variable {n0 B g pa mb kb K:Nat} {E E1:List En} {W:World} {t:List Nat} {X:List (Nat×Grp)} {V:List (Nat×Nat)} {gv:Value} {j:Nat} {Mg:List bH} {Cf:List Cfx} {vm vc:Value} {w:World}
theorem OfI.below{w2:World}(h:OfI n0 B g pa mb kb K E E1 W t X V gv j Mg Cf vm vc w)(hb:Below w.heap.size w w2):OfI n0 B g pa mb kb K E E1 W t X V gv j Mg Cf vm vc w2:=
 ⟨(h.oDk.trans (.of h.oDk.dk hb)).mono (by omega),h.oMg.below hb,h.oCf.below hb,h.oKm,h.oKc,h.oTm,h.oTc,h.abJ.keep (Ext.refl _) (X:=λ_=>False) (.of (.of hb)) (λ_ _ q=>q),h.ade.below hb,h.oNm⟩
theorem abT(E:List En)(t:List Nat)(G:List Grp)(g:Grp):aax E t (G++[g])=aax E t G++(if cfl E t g then[]else[g]):=by
 unfold aax
 rw[List.filter_append]
 cases h:cfl E t g<;>simp[h]
theorem aa2(E:List En)(t:List Nat)(G:List Grp)(g:Grp):aaq E t (G++[g])=aaq E t G++(if cfl E t g then[g]else[]):=by
 unfold aaq
 rw[List.filter_append]
 cases h:cfl E t g<;>simp[h]
theorem aal{j:Nat}(hj:j<X.length):(X.take (j+1)).map (·.2)=(X.take j).map (·.2)++[X[j].2]:=by
 rw[kI hj,ag2];rfl
theorem alj{x:Nat×Grp}{v:Nat×Nat}(h:adb E t E1 w x v):fT E1 (if x.2.l=[]then v.2 else v.1) (mrT E t x.2):=by
 obtain⟨vl,vr,-,-,h3,h4⟩:=h
 unfold mrT
 by_cases q:x.2.l=[]
 .rw[af5 q,af4 (λk=>k q)];exact h4
 .rw[af4 q,af5 q];exact h3
theorem OfI.more{w2:World}{v2:Value}(h:OfI n0 B g pa mb kb K E E1 W t X V gv j Mg Cf vm vc w)(hj:j<X.length){v:Nat×Nat}(hf:adb E t E1 w X[j] v)(hc:cfl E t X[j].2=false)(hS:mg W.heap.size w2 v2 (Mg++[⟨X[j].2.pos,X[j].2.en-X[j].2.pos,if X[j].2.l=[]then v.2 else v.1⟩])){cs:Array Value}(hg:(w.alloc (.cells cs 107)).grownBy w2 vm.ownBlock)(hb:Below W.heap.size w w2)(hlo:n0<=W.heap.size):
    OfI n0 B g pa mb kb K E E1 W t X V gv (j+1) (Mg++[⟨X[j].2.pos,X[j].2.en-X[j].2.pos,if X[j].2.l=[]then v.2 else v.1⟩]) Cf v2 vc w2:=by
 have uo:=alj hf
 have hK:Kd W w2:=λt' a b k cs' fz e=>Kx.app hg t' a b k (λq=>by have:=(aP.blk h.oMg q).1;have:=(aga.1 e).1;omega) cs' fz (h.oDk.kd t' a b k cs' fz e)
 refine⟨⟨h.oDk.dk.app h.oMg hg (by decide) hlo,h.oDk.ext,h.oDk.few,h.oDk.Dx.trans (hb.mono hlo),hK⟩,hS,aP.ap2 h.oCf h.oMg hg (by decide),?_,?_,?_,h.oTc,⟨h.abJ.1,λi h1 h2=>?_⟩,aP.ap2 h.ade h.oMg hg (by decide),by have:=h.oNm;rw[af8];simp;omega⟩
 .rw[aal hj,abT,af4 (c:=cfl E t X[j].2=true) (by rw[hc];simp),ag2,ag2,h.oKm]
  congr 1
  show[aas E1 _]=[aaW E t _]
  unfold aas aaW
  rw[uo.txt]
 .rw[aal hj,aa2,af4 (c:=cfl E t X[j].2=true) (by rw[hc];simp),agi];exact h.oKc
 .intro c hc
  rcases ags.1 hc with q|q
  .exact h.oTm c q
  .simp only[agl]at q;subst q;exact⟨uo.le,uo.even⟩
 .obtain⟨vl,vr,k1,k2⟩:=h.abJ.2 i h1 h2
  exact⟨vl,vr,aah k1 h.oMg hg (by decide),k2⟩
theorem OfI.clash{w2:World}{v2:Value}(h:OfI n0 B g pa mb kb K E E1 W t X V gv j Mg Cf vm vc w)(hj:j<X.length){v:Nat×Nat}(hf:adb E t E1 w X[j] v)(hc:cfl E t X[j].2=true)(hS:Cfs W.heap.size w2 v2 (Cf++[⟨X[j].2.pos,X[j].2.en-X[j].2.pos,v.1,v.2⟩])){cs:Array Value}(hg:(w.alloc (.cells cs 79)).grownBy w2 vc.ownBlock)(hb:Below W.heap.size w w2)(hlo:n0<=W.heap.size):
    OfI n0 B g pa mb kb K E E1 W t X V gv (j+1) Mg (Cf++[⟨X[j].2.pos,X[j].2.en-X[j].2.pos,v.1,v.2⟩]) vm v2 w2:=by
 have hK:Kd W w2:=λt' a b k cs' fz e=>Kx.app hg t' a b k (λq=>by have:=(aP.blk h.oCf q).1;have:=(aga.1 e).1;omega) cs' fz (h.oDk.kd t' a b k cs' fz e)
 obtain⟨vl,vr,f1,f2,f3,f4⟩:=hf
 refine⟨⟨h.oDk.dk.app h.oCf hg (by decide) hlo,h.oDk.ext,h.oDk.few,h.oDk.Dx.trans (hb.mono hlo),hK⟩,aP.ap2 h.oMg h.oCf hg (by decide),hS,?_,?_,h.oTm,?_,⟨h.abJ.1,λi h1 h2=>?_⟩,aP.ap2 h.ade h.oCf hg (by decide),by have:=h.oNm;rw[af8];simp;omega⟩
 .rw[aal hj,abT,af5 hc,agi];exact h.oKm
 .rw[aal hj,aa2,af5 hc,ag2,ag2,h.oKc]
  congr 1
  show[afj E1 _]=[abQ E t _]
  unfold afj abQ
  rw[f3.txt,f4.txt]
 .intro c hc
  rcases ags.1 hc with q|q
  .exact h.oTc c q
  .simp only[agl]at q;subst q
   exact⟨by show fT E1 v.1 (txt E1 v.1);rw[f3.txt];exact f3,by show fT E1 v.2 (txt E1 v.2);rw[f4.txt];exact f4⟩
 .obtain⟨vl,vr,k1,k2⟩:=h.abJ.2 i h1 h2
  exact⟨vl,vr,aah k1 h.oCf hg (by decide),k2⟩
def MoP(n0 B g pa mb kb K:Nat)(E:List En)(W:World)(t:List Nat)(p q:List bH)(e:Ending)(w':World):Prop:=
 ∃E' vm vc Mg Cf,e=.returned (.tuple #[vm,vc,.nilIface])/\mM n0 B g pa mb kb K E E' W w'/\mg W.heap.size w' vm Mg/\Cfs W.heap.size w' vc Cf/\Mg.map (aas E')=(aax E t (aae p q)).map (aaW E t)/\Cf.map (afj E')=(aaq E t (aae p q)).map (abQ E t)/\zZ E' Mg/\CfB E' Cf
theorem adh{i bp bq:Nat}{vp vq:Value}{p q:List bH}(hD:jO n0 W B g pa mb kb E)(hb:fT E i t)(hp:aaN E W bp vp t p)(hq:aaN E W bq vq t q)(ht:t.length<=120)(hE:E.length+74500<=1048575):
    Calls Tryz.prog 30 #[.pointer (some ⟨mb,0,none⟩),.int .i64 i,vp,vq] W (MoP n0 B g pa mb kb 74500 E W t p q):=by
 have HF:∀f,Fence.wide.fn f:=λ_=>trivial
 have HM:=ak (abP hD hb hp hq ht hE)
 have eG:=ak hD.st.lt
 have SN:aA (∀y∈aae p q,0<=y.pos/\y.pos<=y.en/\y.en<=120):=ak λy hy=>by
  have h:=aaR (abM hp.form hq.form) y hy
  exact⟨h.lo,h.le,by have:=h.hi;omega⟩
 clear hD hb hp hq ht hE
 go_enter Tryz.func30,Tryz.ntmps30
 go_wp2_with fail
 refine HM.o.mono ?_
 rintro e w1 ⟨E1,gv,X,V,rfl,hdk,abo,hXd,hfin,aa6,alk⟩
 obtain⟨g5,c5,hgv⟩:=abo.len
 obtain⟨xn,hxn⟩:=ay (X.length)
 rw[agM,hxn]at hgv
 subst hgv
 have HI0:aA (OfI n0 B g pa mb kb 74500 E E1 W t X V (.slice g5 xn c5) 0 [] [] (.slice none 0 0) (.slice none 0 0) w1):=ak
  ⟨hdk,aP.nil _ _ _ _ _,aP.nil _ _ _ _ _,rfl,rfl,λc hc=>by simp at hc,λc hc=>by simp at hc,hfin,abo,af7 _,af7 _⟩
 have HXN:=ak (And.intro hxn (And.intro hXd aa6))
 clear hdk abo hXd hfin aa6 alk hxn HM
 go_wp2_with fail
 go_loopw [13,14,30] (λvm vc jv wr=>∃j Mg Cf,jv=.int .i64 (j:Nat)/\j<=xn/\OfI n0 B g pa mb kb 74500 E E1 W t X V (.slice g5 xn c5) j Mg Cf vm vc wr) (λ_ _ jv _=>xn-(intOf jv).toNat)
 case atStart=>exact⟨0,[],[],rfl,agb _,HI0.o⟩
 case round=>
  clear HI0
  obtain⟨j,Mg,Cf,rfl,hj,hI⟩:=hrel
  obtain⟨am,cm,hvm⟩:=hI.oMg.len
  obtain⟨ac,cc,hvc⟩:=hI.oCf.len
  obtain⟨nm,hnm⟩:=ay (Mg.length)
  obtain⟨nc,hnc⟩:=ay (Cf.length)
  rw[hnm]at hvm
  rw[hnc]at hvc
  subst hvm hvc
  by_cases hlt:j<xn
  rotate_left
  .obtain rfl:j=xn:=by omega
   have HR:aA (MoP n0 B g pa mb kb 74500 E W t p q (.returned (.tuple #[.slice am nm cm,.slice ac nc cc,.nilIface])) wr):=ak
    ⟨E1,_,_,Mg,Cf,rfl,hI.oDk,hI.oMg,hI.oCf,by rw[hI.oKm,agI (by rw[HXN.o.1];exact af7 _),HXN.o.2.1],by rw[hI.oKc,agI (by rw[HXN.o.1];exact af7 _),HXN.o.2.1],hI.oTm,hI.oTc⟩
   clear hI
   go_wp2_with fail
   exact af_ (v:=.tuple #[.slice am nm cm,.slice ac nc cc,.nilIface]) (by simp[results,Tryz.results30,go_sem]) rfl HR.o
  have hjx:j<X.length:=by rw[HXN.o.1];exact hlt
  have hjn:j<(X.map (·.1)).length:=by rw[agM];exact hjx
  have hjv:j<V.length:=by rw[<-hI.abJ.1];exact hjx
  obtain⟨g6,c6,hv6,z0⟩:=abN hI.ade hjn
  rw[aiK]at z0
  simp only[agn]at hv6
  obtain⟨rfl,-,rfl⟩:=hv6
  have HMO:aA (∀{w w2:World} {v2:Value} {cs:Array Value},OfI n0 B g pa mb kb 74500 E E1 W t X V (.slice (some ⟨g6,0,none⟩) xn c5) j Mg Cf (.slice am nm cm) (.slice ac nc cc) w->cfl E t X[j].2=false->mg W.heap.size w2 v2 (Mg++[⟨X[j].2.pos,X[j].2.en-X[j].2.pos,if X[j].2.l=[]then V[j].2 else V[j].1⟩])->(w.alloc (.cells cs 107)).grownBy w2 (Value.slice am nm cm).ownBlock->Below W.heap.size w w2->OfI n0 B g pa mb kb 74500 E E1 W t X V (.slice (some ⟨g6,0,none⟩) xn c5) (j+1) (Mg++[⟨X[j].2.pos,X[j].2.en-X[j].2.pos,if X[j].2.l=[]then V[j].2 else V[j].1⟩]) Cf v2 (.slice ac nc cc) w2):=ak λh hc hS hg hb=>h.more hjx (h.abJ.2 j hjx hjv) hc hS hg hb eG.o
  have RL:aA (∀{w w2:World} {v2:Value} {cs:Array Value},OfI n0 B g pa mb kb 74500 E E1 W t X V (.slice (some ⟨g6,0,none⟩) xn c5) j Mg Cf (.slice am nm cm) (.slice ac nc cc) w->cfl E t X[j].2=true->Cfs W.heap.size w2 v2 (Cf++[⟨X[j].2.pos,X[j].2.en-X[j].2.pos,V[j].1,V[j].2⟩])->(w.alloc (.cells cs 79)).grownBy w2 (Value.slice ac nc cc).ownBlock->Below W.heap.size w w2->OfI n0 B g pa mb kb 74500 E E1 W t X V (.slice (some ⟨g6,0,none⟩) xn c5) (j+1) Mg (Cf++[⟨X[j].2.pos,X[j].2.en-X[j].2.pos,V[j].1,V[j].2⟩]) (.slice am nm cm) v2 w2):=ak λh hc hS hg hb=>h.clash hjx (h.abJ.2 j hjx hjv) hc hS hg hb eG.o
  obtain⟨vl,vr,k1,hvl,-,-⟩:=hI.abJ.2 j hjx hjv
  have hgo:=SN.o X[j].2 (by rw[<-HXN.o.2.1];exact agz.2 ⟨_,ag0 hjx,rfl⟩)
  generalize X[j]=x at *
  generalize V[j]=v at *
  have hws:IntKind.i64.wrap (x.2.en-x.2.pos)=x.2.en-x.2.pos:=by rw[agd];omega
  have hwj:IntKind.i64.wrap ((j:Int)+1)=((j+1:Nat):Int):=by rw[agd];have:=HXN.o.2.2;have:=HXN.o.1;omega
  have hlt1:(j:Int)<(xn:Int):=by omega
  have ady:(0:Int)<=(j:Int):=by omega
  obtain⟨-,-,-,-,-,-,x6,-⟩:=k1.cells
  have HI:=ak hI;have jU:=ak (And.intro hnm (And.intro hnc (And.intro hlt (And.intro hgo hvl))))
  have hlo:W.heap.size<=wr.heap.size:=hI.oDk.Dx.size
  have OO:=ak hlo
  clear hI hnm hnc hlt hgo hvl hjx hjn hjv hj hlo
  cases hcf:cfl E t x.2 with
  |true=>
   rw[hcf]at k1 x6
   have HK:=ak k1;have HCF:=ak hcf
   clear k1 hcf
   go_wp2_with fail
   clear z0 x6
   refine aU (λw=>GpC w x.1 vl vr x.2 v.1 v.2 true) ?_
   have S0:GpC wr.drew x.1 vl vr x.2 v.1 v.2 true:=au (af6 _ _).drew HK.o
   have HIQ:=ak (HI.o.below (af6 _ _).drew)
   have HKQ:=ak S0
   have I5:aA (Below wr.heap.size wr wr.drew):=ak (af6 _ _).drew
   generalize wr.drew=wq at *
   have m2:∀w,GpC w x.1 vl vr x.2 v.1 v.2 true->w.cell? ⟨x.1,2,none⟩=some (.int .i64 x.2.pos):=λw hw=>hw.cells.2.2.1
   have m3:∀w,GpC w x.1 vl vr x.2 v.1 v.2 true->w.cell? ⟨x.1,3,none⟩=some (.int .i64 x.2.en):=λw hw=>hw.cells.2.2.2.1
   have m4:∀w,GpC w x.1 vl vr x.2 v.1 v.2 true->w.cell? ⟨x.1,4,none⟩=some (vI v.1):=λw hw=>hw.cells.2.2.2.2.1
   have m5:∀w,GpC w x.1 vl vr x.2 v.1 v.2 true->w.cell? ⟨x.1,5,none⟩=some (vI v.2):=λw hw=>hw.cells.2.2.2.2.2.1
   refine bJ 0 1 2 3 4 5 ?_
   refine bJ 6 7 8 9 10 11 ?_
   refine bJ 12 13 14 15 16 17 ?_
   refine zD 18 19 20 21 22 ?_
   refine aT 23 λK hK=>?_
   go_simp
   have qI:GpC (wq.alloc (.cells #[.int .i64 x.2.pos,.int .i64 (x.2.en-x.2.pos),.int .i64 v.1,.int .i64 v.2] 79)) x.1 vl vr x.2 v.1 v.2 true:=au ((af6 _ _).alloc (af7 _) _) HKQ.o
   refine hK _ _ qI ?_
   clear hK K qI
   obtain⟨v2,w6,hrun,hS2,hgr,hb6,-⟩:=eB alP acR 73 HIQ.o.oCf ⟨x.2.pos,x.2.en-x.2.pos,v.1,v.2⟩ 1 (cs:=#[.int .i64 x.2.pos,.int .i64 (x.2.en-x.2.pos),.int .i64 v.1,.int .i64 v.2]) rfl (by simp[alh,Value.oneCell']) (by have:=HIQ.o.oNm;have:=HXN.o.2.2;have:=HXN.o.1;have:=jU.o.2.2.1;omega) (by have:=OO.o;have:=I5.o.size;omega)
   obtain⟨a6,n6,cap6,rfl⟩:∃a m c,v2=.slice a m c:=by obtain⟨a,c,h⟩:=hS2.len;exact⟨_,_,_,h⟩
   have S6:GpC w6 x.1 vl vr x.2 v.1 v.2 true:=aah HKQ.o HIQ.o.oCf hgr (by decide)
   have kH:=ak (RL.o HIQ.o HCF.o hS2 hgr hb6)
   clear hS2 hgr hb6
   refine aT 24 λK hK=>?_
   simp[execOp,resolve,invoke,builtin,hrun,Result.andThen,Act.eval,Oper.uponIn]
   refine hK _ _ S6 ?_
   clear hK K hrun
   refine tk1 25 ?_
   refine aO ?_
   clear m2 m3 m4 m5 S0 S6
   go_wp2_with fail
   go_roundw
   case rel=>exact⟨j+1,_,_,rfl,jU.o.2.2.1,kH.o⟩
   case measure=>have:=jU.o.2.2.1;simp[intOf];omega
  |false=>
   rw[hcf]at k1 x6
   have HK:=ak k1;have HCF:=ak hcf
   clear k1 hcf
   go_wp2_with fail
   clear z0 x6
   refine aU (λw=>GpC w x.1 vl vr x.2 v.1 v.2 false) ?_
   have S0:GpC wr.drew x.1 vl vr x.2 v.1 v.2 false:=au (af6 _ _).drew HK.o
   have HIQ:=ak (HI.o.below (af6 _ _).drew)
   have HKQ:=ak S0
   have I5:aA (Below wr.heap.size wr wr.drew):=ak (af6 _ _).drew
   generalize wr.drew=wq at *
   have m2:∀w,GpC w x.1 vl vr x.2 v.1 v.2 false->w.cell? ⟨x.1,2,none⟩=some (.int .i64 x.2.pos):=λw hw=>hw.cells.2.2.1
   have m3:∀w,GpC w x.1 vl vr x.2 v.1 v.2 false->w.cell? ⟨x.1,3,none⟩=some (.int .i64 x.2.en):=λw hw=>hw.cells.2.2.2.1
   have hTX:Calls Tryz.prog 79 #[.pointer (some ⟨x.1,0,none⟩)] wq λe w'=>e=.returned (vI (if x.2.l=[]then v.2 else v.1))/\w'=wq:=acQ HKQ.o jU.o.2.2.2.2
   generalize hid:(if x.2.l=[]then v.2 else v.1)=id at *
   refine bJ 0 1 2 3 4 5 ?_
   refine bJ 6 7 8 9 10 11 ?_
   refine tk3 12 13 14 ?_
   refine aT 15 λK hK=>?_
   go_simp
   try with_reducible refine⟨rfl,?_⟩
   refine agq.2 (hTX.mono ?_)
   rintro e wn ⟨rfl,rfl⟩
   refine hK _ _ HKQ.o ?_
   clear hK K
   refine tk1 16 ?_
   refine aT 17 λK hK=>?_
   go_simp
   have qI:GpC (wn.alloc (.cells #[.int .i64 x.2.pos,.int .i64 (x.2.en-x.2.pos),.int .i64 id] 107)) x.1 vl vr x.2 v.1 v.2 false:=au ((af6 _ _).alloc (af7 _) _) HKQ.o
   refine hK _ _ qI ?_
   clear hK K qI
   obtain⟨v2,w6,hrun,hS2,hgr,hb6,-⟩:=eB vg iV 62 HIQ.o.oMg ⟨x.2.pos,x.2.en-x.2.pos,id⟩ 1 (cs:=#[.int .i64 x.2.pos,.int .i64 (x.2.en-x.2.pos),.int .i64 id]) rfl (by simp[w_,Value.oneCell']) (by have:=HIQ.o.oNm;have:=HXN.o.2.2;have:=HXN.o.1;have:=jU.o.2.2.1;omega) (by have:=OO.o;have:=I5.o.size;omega)
   obtain⟨a6,n6,cap6,rfl⟩:∃a m c,v2=.slice a m c:=by obtain⟨a,c,h⟩:=hS2.len;exact⟨_,_,_,h⟩
   have S6:GpC w6 x.1 vl vr x.2 v.1 v.2 false:=aah HKQ.o HIQ.o.oMg hgr (by decide)
   have kH:=ak (HMO.o HIQ.o HCF.o hS2 hgr hb6)
   clear hS2 hgr hb6
   refine aT 18 λK hK=>?_
   simp[execOp,resolve,invoke,builtin,hrun,Result.andThen,Act.eval,Oper.uponIn]
   refine hK _ _ S6 ?_
   clear hK K hrun
   refine tk1 19 ?_
   refine aO ?_
   clear m2 m3 S0 S6 hTX
   go_wp2_with fail
   go_roundw
   case rel=>exact⟨j+1,_,_,rfl,jU.o.2.2.1,kH.o⟩
   case measure=>have:=jU.o.2.2.1;simp[intOf];omega
end
end M
end Go.Proofs.YtgbhohfabhilgaaGreatDoor
