import Derived.Test.YtgbhohfabhilgaaGreatDoorBase22
set_option maxRecDepth 100000
set_option maxHeartbeats 8000000
set_option linter.unusedVariables false
set_option linter.unusedSimpArgs false
namespace Go.Proofs.YtgbhohfabhilgaaGreatDoor
section
open Go.RowKit Go.Lib
namespace M
attribute [local go_sem] Oper.semAt_some
variable{b:Bool}{A E:List En}{l:List It}{t:List Nat}{F:List Sy}{B g h i k lo most n n0 o sb:Nat}{y:Sy}{T:TypeId}{v:Value}{W w':World}
def EK(p:gI):Prop:=∀f∈p,1<=f.2/\f.2<=(aZ f.1).length/\f.2<=1152921504606846976
theorem He.after{w:World}{pa:Nat}{cs cs1:Array Value}{v1:Value}{e:Ed}(h:He n0 B most g F E w T lo sb o pa b cs1 v1 e w')(hg:Gw n0 B most g F (G_ sb v W.heap.size) E E W w)(hb:lV o cs cs1)(ho:pE W.heap.size v v1):He n0 B most g F E W T lo sb o pa b cs v e w':=by
 obtain⟨cs',v',h1,h2,h3,h4⟩:=h
 exact⟨cs',v',h1,hb.trans h2,zM ho h3 hg.below.size,hg.trans (h4.mono λq _ hq=>O8 ho hg.below.size q hq)⟩
theorem iq.have'{pa:Nat}{q:gI}{cs:Array Value}{cap gb:Nat}(hr:iq W E T lo sb o pa b ((y,h)::q) i k cs (.slice (some ⟨gb,0,none⟩) (q.length+1) cap))(hT:T≠289)(h2:Nat):
    iq (W.setCell ⟨gb,q.length*8+7,none⟩ (vI h2)) E T lo sb o pa b ((y,h2)::q) i k cs (.slice (some ⟨gb,0,none⟩) (q.length+1) cap):=by
 have hne:gb≠sb:=hr.ne hT rfl;have hp:=hr.path;unfold G9 at hp;have hl:((y,h)::q).reverse.length=q.length+1:=by simp
 have hs:=aP.setAt (tY E) hp (i:=q.length) (j:=7) (by rw[hl];omega) (by omega) (x':=(y,h2)) (u:=vI h2) (by
  have e2:((y,h)::q).reverse[q.length]'(by rw[hl];omega)=(y,h):=by
   simp only[ah3];rw[ah_ (by simp)];simp
  rw[e2];rfl)
 have e3:((y,h)::q).reverse.set q.length (y,h2)=((y,h2)::q).reverse:=by
  rw[ah3,ah3,aiY _ _ (by simp)];simp
 rw[e3]at hs;exact⟨by rw[agU _ _ _ _ (by exact λe=>hne e.symm)];exact hr.blk,hr.c0,hr.c1,hr.c2,hr.c3,hr.c4,hs,λf hf=>by
  rcases agm.1 hf with rfl|hf
  .exact hr.mem (y,h) (by simp)
  .exact hr.mem f (agK _ hf)⟩
theorem Cq{t:Nat}{p:gI}:bE b n t ((y,h)::p)=if t<h then some (bD b n ((y,h-t)::p) (AA b y (h-t)))else bE b n 1 p:=by
 conv=>lhs;unfold bE
theorem gZ(h:gV n0 B most g F E W){pa:Nat}{t:Nat}{p:gI}{x:Sy}{cs:Array Value}(hl:EdL n0 lo sb T)(hp:iW W pa B g)(he:J6 W E T lo sb o pa b (some (p,x)) cs v)(hok:EK p)(ht:∀y h q,p=(y,h)::q->t<=h)(hlen:∀y h q,p=(y,h)::q->p.length+aQ y<=1000000)(hmax:∀f∈p,aQ f.1+p.length<=1000000):
    Calls Tryz.prog 210 #[.pointer (some ⟨sb,o,none⟩),vI t,vI n] W λr w'=>r=.returned (.tuple #[])/\He n0 B most g F E W T lo sb o pa b cs v (bE b n t p) w':=by
 have HF:∀f,Fence.wide.fn f:=λ_=>trivial;have HP:=ak h;have fV:=ak hp;have HL:=ak hl;have HM:=ak hmax;have hr:iq W E T lo sb o pa b p (num E x) (key x) cs v:=he.r;have HX:=ak (hr.pa hl hp);obtain⟨-,-,-,c3,c4,f6⟩:=hr.cells;have f3:=f6 (o+3);have f4:=f6 (o+4);have h1:=hr.id hl.t2 0;have h2:=h1.key hl.t2 0;obtain⟨w1,hw1⟩:=ay ((W.setCell ⟨sb,o+3,none⟩ (.int .i64 0)).setCell ⟨sb,o+4,none⟩ (.int .u64 0));have hg1:W.grownBy w1 (some sb):=by rw[<-hw1];exact aM (aK _ _ _) (aK _ ⟨sb,o+4,none⟩ _)
 have hgw1:Gw n0 B most g F (G_ sb v W.heap.size) E E W w1:=Gw.put h hg1 hr.blk hl.t1 (by have:=hl.l0;have:=hl.l1;omega) (.inl rfl);have h2':iq w1 E T lo sb o pa b p 0 0 ((cs.setIfInBounds (o+3) (vI 0)).setIfInBounds (o+4) (vK 0)) v:=by rw[<-hw1];exact h2
 have HB1:aA (lV o cs ((cs.setIfInBounds (o+3) (vI 0)).setIfInBounds (o+4) (vK 0))):=ak ((lV.set (cs:=cs) (o:=o) (j:=o+3) (by omega) (by omega) (vI 0)).trans (lV.set (o:=o) (j:=o+4) (by omega) (by omega) (vK 0)));have HG1:=ak hgw1;have HR1:=ak h2';have mF:=ak (And.intro hok ht);have uq:aA (p.length<=1000000):=ak (by
  cases p with
  |nil=>exact agb _
  |cons f q=>have:=hlen f.1 f.2 q rfl;omega)
 have gW:=ak h.wf.wf;obtain⟨a0,m0,cap0,hv⟩:∃a m c,v=.slice a m c:=by obtain⟨a,c,e⟩:=hr.path.len;exact⟨_,_,_,e⟩
 obtain⟨-,-,d2,-,-,-⟩:=h2'.cells;have hvl:(m0:Nat)=p.length:=by
  obtain⟨a,c,e⟩:=hr.path.len;rw[hv]at e;simp only[agn,ajw]at e;exact e.2.1
 rw[hv]at d2;have HV:=ak (And.intro hv hvl);clear h hp he hok ht hlen hmax hr h1 h2 h2' hg1 hgw1 f6 hl hv hvl;go_enter Tryz.func210,Tryz.ntmps210;go_wp2_with fail
 clear hw1 c3 c4 f3 f4 d2;go_loopw [1,6] (λtv nv wr=>∃(p':gI) (t':Nat) (cs':Array Value) (v':Value) (m:Nat),nv=.int .i64 m/\tv=.int .i64 t'/\m=p'.length/\m<=1000000/\iq wr E T lo sb o pa b p' 0 0 cs' v'/\bE b n t' p'=bE b n t p/\Gw n0 B most g F (G_ sb v W.heap.size) E E W wr/\lV o cs cs'/\pE W.heap.size v v'/\EK p'/\(∀y h q,p'=(y,h)::q->t'<=h)/\∀f∈p',aQ f.1+p'.length<=1000000) (λ_ nv _=>(intOf nv).toNat)
 case atStart=>
  exact⟨p,t,_,v,m0,rfl,rfl,HV.o.2,by rw[HV.o.2];exact uq.o,HR1.o,rfl,HG1.o,HB1.o,vB _ _,mF.o.1,mF.o.2,HM.o⟩
 obtain⟨p',t',cs',v',m,rfl,rfl,hm,hmb,hr,hd,hg,hb,ho,hok,ht,hmx⟩:=hrel;cases p' with
 |nil=>
  obtain rfl:m=0:=hm;have hdn:bE b n t p=none:=hd.symm;have HR:aA (He n0 B most g F E W T lo sb o pa b cs v (bE b n t p) wr):=ak (by
   rw[hdn];exact⟨cs',v',⟨hr,λ_ _ e=>by cases e⟩,hb,ho,hg⟩)
  clear hmb hr hd hg hb ho hok ht hmx hdn;go_wp2_with fail
  go_end0;exact⟨rfl,HR.o⟩
 |cons f q=>
  obtain⟨y,h⟩:=f;obtain⟨gb,cap,rfl,-,hc1,hc2,-⟩:=hr.top;obtain⟨o1,o2,o3⟩:1<=h/\h<=(aZ y).length/\h<=1152921504606846976:=hok (y,h) (by simp);have hth:=ht y h q rfl;have hsb:=hr.ne HL.o.t2 (q:=gb) rfl;obtain⟨h2,KX⟩:=ay (h-t');have hr2:=hr.have' HL.o.t2 h2;obtain⟨mq,vC⟩:=ay (q.length);obtain rfl:m=mq+1:=by rw[hm,agc,vC]
  rw[vC]at hr2;obtain⟨-,-,d2,-,-,-⟩:=hr.cells;have c7:=hr.jo.2.2.2.2.2.2.2.1;have f7:=hr.jo.2.2.2.2.2.2.2.2 (q.length*8+7);rw[vC]at c7 f7 d2;obtain⟨w2,hw2⟩:=ay (wr.setCell ⟨gb,mq*8+7,none⟩ (.int .i64 h2));have hr2':iq w2 E T lo sb o pa b ((y,h2)::q) 0 0 cs' (.slice (some ⟨gb,0,none⟩) (mq+1) cap):=by rw[<-hw2];exact hr2
  have hg2:wr.grownBy w2 (some gb):=by rw[<-hw2];exact aK _ _ _
  obtain⟨-,cur,jN⟩:=hr.path.blk (b:=gb) rfl;have SG:Gw n0 B most g F (G_ sb v W.heap.size) E E W w2:=hg.trans (Gw.put hg.st hg2 jN (by decide) (by have:=HL.o.l0;have:=(hr.Ux (q:=gb) rfl).1;omega) (F7 ho rfl));have l1:(mq+1:Int)>0:=by omega
  have lh:IntKind.i64.wrap ((h:Int)-(t':Int))=(h2:Int):=by rw[agd];omega
  have lh':wrap64 ((h:Int)-(t':Int))=(h2:Int):=by unfold wrap64;omega
  have HR2:=ak hr2';have HG2:=ak SG;have Q0:=ak (And.intro hb ho);have Oy:=ak hd;have HMX:=ak hmx;have HQ:=ak (And.intro vC (And.intro KX hth));have Oh:aA (EK q):=ak λf hf=>hok f (agK _ hf);have e7:w2.cell? ⟨gb,mq*8+7,none⟩=some (.int .i64 h2):=by rw[<-vC]at hr2'⊢;exact hr2'.jo.2.2.2.2.2.2.2.1
  have hmb2:mq<=1000000:=by omega
  have hcc:mq+1<=cap/\cap<=9223372036854775807:=by unfold maxLen at hc2;omega
  have hcc1:=hcc.1;have hcc2:=hcc.2;by_cases hz:0<h2
  .have l2:(h2:Int)>0:=by omega
   have hok1:1<=h2/\h2<=(aZ y).length:=by omega
   have hg:=AB (b:=b) (y:=y) (h:=h2) (by omega) hok1.2;have hmk:AA b y h2∈aZ y:=qp.1 (agE hg);have hym:=(hr.mem (y,h) (by simp));have hcm:=pz gW.o hym.1 hmk;have hco:=wS hym.2 hmk;have hcl:=jQ hmk;obtain⟨c,hc⟩:=ay (AA b y h2);obtain⟨nc,hnc⟩:=ay (num E (AA b y h2));obtain⟨f,pW⟩:=ay (frF E y h2);have HCH:aA (∀w,Calls Tryz.prog 177 #[.agg #[.int .i64 f.i,.int .i64 f.kd,.int .u8 f.lt,.int .i64 f.l,.int .i64 f.r,.int .i64 f.tm,.int .i64 f.lv,.int .i64 f.h],.bool b] w λe w'=>e=.returned (vI nc)/\Below w.heap.size w w'):=ak λw=>by
    rw[<-pW,<-hnc];exact EH (W:=w) E (y:=y) (h:=h2) b hok1.1 hok1.2
   have VV:∀w,Below w2.heap.size w2 w->iq w E T lo sb o pa b ((y,h2)::q) 0 0 cs' (.slice (some ⟨gb,0,none⟩) (q.length+1) cap):=λw hw=>by rw[vC];exact hr2'.below hw
   have g0:∀w,Below w2.heap.size w2 w->w.cell? ⟨gb,mq*8,none⟩=some (.int .i64 f.i):=λw hw=>by rw[<-pW,<-vC];exact(VV w hw).jo.1
   have g1:∀w,Below w2.heap.size w2 w->w.cell? ⟨gb,mq*8+1,none⟩=some (.int .i64 f.kd):=λw hw=>by rw[<-pW,<-vC];exact(VV w hw).jo.2.1
   have g2:∀w,Below w2.heap.size w2 w->w.cell? ⟨gb,mq*8+2,none⟩=some (.int .u8 f.lt):=λw hw=>by rw[<-pW,<-vC];exact(VV w hw).jo.2.2.1
   have g3:∀w,Below w2.heap.size w2 w->w.cell? ⟨gb,mq*8+3,none⟩=some (.int .i64 f.l):=λw hw=>by rw[<-pW,<-vC];exact(VV w hw).jo.2.2.2.1
   have g4:∀w,Below w2.heap.size w2 w->w.cell? ⟨gb,mq*8+4,none⟩=some (.int .i64 f.r):=λw hw=>by rw[<-pW,<-vC];exact(VV w hw).jo.2.2.2.2.1
   have g5:∀w,Below w2.heap.size w2 w->w.cell? ⟨gb,mq*8+5,none⟩=some (.int .i64 f.tm):=λw hw=>by rw[<-pW,<-vC];exact(VV w hw).jo.2.2.2.2.2.1
   have g6:∀w,Below w2.heap.size w2 w->w.cell? ⟨gb,mq*8+6,none⟩=some (.int .i64 f.lv):=λw hw=>by rw[<-pW,<-vC];exact(VV w hw).jo.2.2.2.2.2.2.1
   have g7:∀w,Below w2.heap.size w2 w->w.cell? ⟨gb,mq*8+7,none⟩=some (.int .i64 f.h):=λw hw=>by rw[<-pW,<-vC];exact(VV w hw).jo.2.2.2.2.2.2.2.1
   have e1:∀w,Below w2.heap.size w2 w->w.cell? ⟨sb,o+1,none⟩=some (.bool b):=λw hw=>(HR2.o.below hw).cells.2.1;have HC:=ak (And.intro hnc (And.intro hcm (And.intro hco hcl)));have P_:=ak hz;have HFH:aA (h2=f.h):=ak (by rw[<-pW]);clear hr hd hg hb ho hok ht hmx hr2 hr2' hg2 SG jN VV pW hnc hc hcm hco hcl hym hmk hok1 hz o1 o2 o3 hth hcc hm hmb hc1 hc2 hsb vC KX;go_wp2_with fail
   clear hw2 d2 c7 f7 lh lh' e7 l1 l2;refine aU (Below w2.heap.size w2) ?_;obtain⟨we,bU⟩:=ay (w2.drew);have S0:Below w2.heap.size w2 we:=by rw[<-bU];exact(af6 _ _).drew
   rw[bU];clear bU;refine bJ 0 1 2 3 4 5 ?_;refine tk2 6 7 ?_;refine aT 8 λK hK=>?_;go_simp
   try with_reducible refine⟨rfl,?_⟩
   refine agq.2 ((HCH.o _).mono ?_);rintro e w3 ⟨rfl,bn⟩;replace S0:=Below.after S0 bn;refine hK _ _ S0 ?_;clear hK K bn;refine tk2 9 10 ?_;refine aJ.cK 11 (by kernel_rfl) ?_;simp only[agr,agj];clear e1 g0 g1 g2 g3 g4 g5 g6 g7 HCH;have F9:=HR2.o.below S0;obtain⟨-,-,-,c3,-,f6⟩:=F9.cells;have f3:=f6 (o+3);have Jg:=F9.id HL.o.t2 nc;obtain⟨w4,hw4⟩:=ay (w3.setCell ⟨sb,o+3,none⟩ (vI nc));rw[hw4]at Jg;have lu:w3.grownBy w4 (some sb):=by rw[<-hw4];exact aK _ _ _
   have hG4:Gw n0 B most g F (G_ sb v W.heap.size) E E W w4:=(HG2.o.trans (Gw.of HG2.o.st S0)).trans (Gw.put (HG2.o.st.below S0) lu F9.blk HL.o.t1 (by have:=HL.o.l0;have:=HL.o.l1;omega) (.inl rfl));rw[<-HC.o.1]at Jg;have Qe:=ak ((Jf hG4.st HL.o (fV.o.kp hG4.kp HX.o) (n:=n) Jg HC.o.2.1 HC.o.2.2.1 (by
    have q1:aQ y+((y,h)::q).length<=1000000:=HMX.o (y,h) (by simp);have q2:=HC.o.2.2.2;rw[agc]at q1;show q.length+1+_<=_;omega)).mono (R':=λe w'=>e=.returned (.tuple #[])/\He n0 B most g F E W T lo sb o pa b cs v (bE b n t p) w') (by
    rintro e w' ⟨rfl,hE⟩;refine⟨rfl,?_⟩;rw[<-Oy.o,Cq,af5 (by have:=HQ.o;have:=P_.o;omega),HQ.o.2.1];exact hE.after hG4 (Q0.o.1.trans (lV.set (by omega) (by omega) _)) Q0.o.2))
   clear F9 f6 Jg lu hG4 S0;gi_wp2_with fail
   clear hw4 c3 f3;go_wp2_with fail
   refine Qe.o.mono ?_;rintro e w5 ⟨rfl,hE⟩;have HE:=ak hE;clear hE Qe;go_wp2_with fail
   exact af_ (v:=.tuple #[]) (by simp[results,Tryz.results210,go_sem]) rfl ⟨rfl,HE.o⟩
  have l2:¬(h2:Int)>0:=by omega
  have hr9:iq w2 E T lo sb o pa b ((y,h2)::q) 0 0 cs' (.slice (some ⟨gb,0,none⟩) (q.length+1) cap):=by rw[vC];exact hr2'
  have hr3:=hr9.pop HL.o.t2;rw[vC]at hr3;obtain⟨-,-,AR,-,-,f6⟩:=hr2'.cells;have f2:=f6 (o+2);obtain⟨w3,hw3⟩:=ay (w2.setCell ⟨sb,o+2,none⟩ (.slice (some ⟨gb,0,none⟩) mq cap));rw[hw3]at hr3;have hg3:w2.grownBy w3 (some sb):=by rw[<-hw3];exact aK _ _ _
  have qJ:aA (Gw n0 B most g F (G_ sb v W.heap.size) E E W w3):=ak (SG.trans (Gw.put SG.st hg3 hr2'.blk HL.o.t1 (by have:=HL.o.l0;have:=HL.o.l1;omega) (.inl rfl)));have HR3:=ak hr3;obtain⟨-,-,d3,-,-,-⟩:=hr3.cells;have HD3:aA (bE b n 1 q=bE b n t p):=ak (by rw[<-hd,Cq,af4 (by omega)]);have HO3:aA (pE W.heap.size v (.slice (some ⟨gb,0,none⟩) mq cap)):=ak ho;have l3:(mq:Int)<=(cap:Int):=by omega
  clear hr hd hg hb ho hok ht hmx hr2 hr2' hg2 SG jN hz o1 o2 o3 hth hcc hm hmb hc1 hc2 hsb vC KX hr9 hr3 f6 hg3;go_wp2_with fail
  go_roundw
  case rel=>
   exact⟨q,1,_,_,mq,rfl,rfl,HQ.o.1.symm,hmb2,HR3.o,HD3.o,qJ.o,Q0.o.1.trans (lV.set (by omega) (by omega) _),HO3.o,Oh.o,λy' h' q' e=>(Oh.o (y',h') (by rw[e];simp)).1,λf hf=>by have:=HMX.o f (agK _ hf);rw[agc]at this;omega⟩
  case measure=>simp[intOf]
def O_(W:World)(g:Nat)(a:Value)(b:Bool)(v:Value)(i k:Nat):Prop:=W.heap[g]?=some (.cells #[a,.bool b,v,vI i,vK k] 247 (0,0))
theorem O_.all{a:Value}(h:O_ W g a b v i k):W.cell? ⟨g,0,none⟩=some a/\W.cell? ⟨g,1,none⟩=some (.bool b)/\W.cell? ⟨g,2,none⟩=some v/\W.cell? ⟨g,3,none⟩=some (vI i)/\W.cell? ⟨g,4,none⟩=some (vK k)/\∀j,W.frozen? ⟨g,j,none⟩=false:=by
 unfold O_ at h
 simp[World.cell?,World.frozen?,h]
abbrev adu(W:World)(g:Nat)(a:Value)(b:Bool)(v:Value)(i k:Nat):World:=((((W.setCell ⟨g,0,none⟩ a).setCell ⟨g,1,none⟩ (.bool b)).setCell ⟨g,2,none⟩ v).setCell ⟨g,3,none⟩ (vI i)).setCell ⟨g,4,none⟩ (vK k)
theorem O_.set{a0:Value}{b0:Bool}{v0:Value}{i0 k0:Nat}(h:O_ W g a0 b0 v0 i0 k0)(a:Value)(b:Bool)(v:Value)(i k:Nat):O_ (adu W g a b v i k) g a b v i k:=by
 have q:=aC (i:=4) (vK k) (aC (i:=3) (vI i) (aC (i:=2) v (aC (i:=1) (.bool b) (aC (i:=0) a h))))
 simp only[agx,agu,agv]at q
 exact q
theorem Cr(W:World)(g:Nat)(a:Value)(b:Bool)(v:Value)(i k:Nat):W.grownBy (adu W g a b v i k) (some g):=
 aM (aK _ ⟨g,0,none⟩ _) (aM (aK _ ⟨g,1,none⟩ _) (aM (aK _ ⟨g,2,none⟩ _) (aM (aK _ ⟨g,3,none⟩ _) (aK _ ⟨g,4,none⟩ _))))
theorem VW(h:n0<=lo)(k:lo<=sb):EdL n0 lo sb 247:=⟨h,k,by decide,by decide,by decide⟩
theorem Li(h:gV n0 B most g F E W){pa:Nat}(hp:iW W pa B g)(hy:y∈syms E)(hok:jF y)(hn:(aV y).length=n)(adv:aQ y<=1000000)(b:Bool):
    Calls Tryz.prog 144 #[ku pa,vI (num E y),vI n,.bool b] W λr w'=>∃v,r=.returned (.agg #[ku pa,.bool b,v,vI (num E (bD b 0 [] y).2),vK (key (bD b 0 [] y).2)])/\G9 W.heap.size w' E v (bD b 0 [] y).1/\(∀f∈(bD b 0 [] y).1,f.1∈syms E/\jF f.1)/\(bD b 0 [] y).2∈syms E/\jF (bD b 0 [] y).2/\Gw n0 B most g F (λq=>W.heap.size<=q) E E W w':=by
 have HP:=ak h;have fV:=ak hp;have HY:=ak (And.intro hy (And.intro hok adv))
 have hn1:0<n:=by rw[<-hn];exact gY hok
 obtain⟨i,hi⟩:=ay (num E y)
 obtain⟨w1,hw1⟩:=ay (W.alloc (.cells #[.pointer none,.bool false,.slice none 0 0,.int .i64 0,.int .u64 0] 247))
 have k1:O_ w1 W.heap.size (.pointer none) false (.slice none 0 0) 0 0:=by rw[<-hw1];exact aD _ _
 have b1:Below W.heap.size W w1:=by rw[<-hw1];exact(af6 _ _).alloc (af7 _) _
 have s1:w1.heap.size=W.heap.size+1:=by rw[<-hw1,ag1]
 obtain⟨wz,hwz⟩:=ay (w1.alloc (.cells #[.pointer none,.bool false,.slice none 0 0,.int .i64 0,.int .u64 0] 247))
 have kz:O_ wz (W.heap.size+1) (.pointer none) false (.slice none 0 0) 0 0:=by rw[<-hwz,<-s1];exact aD _ _
 have bz:Below w1.heap.size w1 wz:=by rw[<-hwz];exact(af6 _ _).alloc (af7 _) _
 obtain⟨w2,hw2⟩:=ay (((((wz.setCell ⟨W.heap.size+1,0,none⟩ (ku pa)).setCell ⟨W.heap.size+1,1,none⟩ (.bool b)).setCell ⟨W.heap.size+1,2,none⟩ (.slice none 0 0)).setCell ⟨W.heap.size+1,3,none⟩ (.int .i64 0)).setCell ⟨W.heap.size+1,4,none⟩ (.int .u64 0))
 have k2:O_ w2 (W.heap.size+1) (ku pa) b (.slice none 0 0) 0 0:=by rw[<-hw2];exact kz.set (ku pa) b (.slice none 0 0) 0 0
 have b2:Below w1.heap.size w1 w2:=by rw[<-hw2];exact bz.grown (Cr wz (W.heap.size+1) (ku pa) b (.slice none 0 0) 0 0) bz.size (λk e=>by cases e;omega)
 obtain⟨z0,z1,z2,z3,z4,z6⟩:=kz.all
 have Jh:=z6 0;have Ji:=z6 1;have GY:=z6 2;have Jj:=z6 3;have fz4:=z6 4
 obtain⟨w3,hw3⟩:=ay (w2.setCell ⟨W.heap.size+1,3,none⟩ (.int .i64 i))
 have k3:O_ w3 (W.heap.size+1) (ku pa) b (.slice none 0 0) i 0:=by
  rw[<-hw3]
  have q:=aC (i:=3) (vI i) k2
  simp only[agx,agu,agv]at q
  exact q
 have b3:Below w1.heap.size w1 w3:=by rw[<-hw3];exact b2.setCell (p:=⟨W.heap.size+1,3,none⟩) (by rw[s1];exact af7 _) _
 obtain⟨-,-,-,y3,-,y6⟩:=k2.all
 have fy3:=y6 3
 have HB3:aA (Below W.heap.size W w3):=ak (Below.after b1 b3)
 have wN:aA (O_ w3 W.heap.size (.pointer none) false (.slice none 0 0) 0 0):=ak (au b3 k1)
 have qH:=ak k3
 have hsz:(aF E i).w.len=n:=by
  obtain⟨x1,x2,x3⟩:=aS hy
  rw[<-hn,<-hi,og h.wf.wf x1 x2,x3]
 have hSZ:=rZ (h.below HB3.o) (hp.below HB3.o) (i:=i) (by rw[<-hi];exact(aS hy).2.1)
 rw[hsz]at hSZ
 have iF:=ak hSZ
 have j_:=ak s1
 have c3:=k3.all.2.2.2.1
 have HI:=ak hi
 have l1:¬(n:Int)=0:=by omega
 have l2:((n:Int)==0)=false:=agh.2 l1
 rw[hi]
 clear h hp hy hok adv hn hi k1 b1 kz bz k2 b2 k3 b3 z6 y6 hsz hSZ
 go_enter Tryz.func144,Tryz.ntmps144
 go_wp2_with fail
 clear hw1 hwz hw2 hw3 z0 z1 z2 z3 z4 Jh Ji GY Jj fz4 y3 fy3 s1 c3
 go_loopw [2] (λnv wr=>nv=.int .i64 n/\wr=w3) (λ_ _=>0)
 case atStart=>exact⟨by with_reducible rfl,by with_reducible rfl⟩
 case round=>
  obtain⟨rfl,rfl⟩:=hrel
  have c3:=qH.o.all.2.2.2.1
  go_wp2_with fail
  refine iF.o.mono ?_
  rintro e w4 ⟨rfl,hb4⟩
  have cB:=ak hb4
  have hk4:=au hb4 qH.o
  have hr:iq w4 E 247 W.heap.size (W.heap.size+1) 0 pa b [] (num E y) 0 #[ku pa,.bool b,.slice none 0 0,vI i,vK 0] (.slice none 0 0):=⟨hk4,rfl,rfl,rfl,by rw[HI.o];rfl,rfl,aP.nil _ _ _ _ _,λf hf=>by cases hf⟩
  have xZ:aA (Gw n0 B most g F (λq=>W.heap.size<=q) E E W w4):=ak (Gw.of HP.o (Below.after HB3.o hb4))
  have Qe:=ak (Jf (n:=0) xZ.o.st (VW HP.o.lt (by omega)) (fV.o.below (Below.after HB3.o hb4)) hr HY.o.1 HY.o.2.1 (by have:=HY.o.2.2;simp;exact this))
  have hk1:=au hb4 wN.o
  have aay:=ak hk1
  clear hb4 hk4 hr hk1 c3
  have l4:¬(n:Int)<(n:Int):=by omega
  go_wp2_with fail
  refine Qe.o.mono ?_
  rintro e w5 ⟨rfl,cs',v',he,hbt,ho,hg5⟩
  have hk1:=hg5.kp.cells 247 (by decide) W.heap.size (by
   have:=(aga.1 aay.o).1
   rintro(q|q|q)
   .omega
   .cases q
   .omega) _ _ aay.o
  have aaz:O_ w5 W.heap.size (.pointer none) false (.slice none 0 0) 0 0:=hk1
  obtain⟨d0,d1,d2,d3,d4,-⟩:=he.r.cells
  replace d0:w5.cell? ⟨W.heap.size+1,0,none⟩=some (ku pa):=d0
  replace d1:w5.cell? ⟨W.heap.size+1,1,none⟩=some (.bool b):=d1
  replace d2:w5.cell? ⟨W.heap.size+1,2,none⟩=some v':=d2
  obtain⟨i5,hi5⟩:=ay (num E (bD b 0 [] y).2)
  obtain⟨k5,hk5⟩:=ay (key (bD b 0 [] y).2)
  replace d3:w5.cell? ⟨W.heap.size+1,3,none⟩=some (.int .i64 i5):=by rw[<-hi5];exact d3
  replace d4:w5.cell? ⟨W.heap.size+1,4,none⟩=some (.int .u64 k5):=by rw[<-hk5];exact d4
  obtain⟨a5,m5,c5,hv5⟩:∃a m c,v'=.slice a m c:=by obtain⟨a,c,e⟩:=he.r.path.len;exact⟨_,_,_,e⟩
  obtain⟨z0,z1,z2,z3,z4,z6⟩:=aaz.all
  have Jh:=z6 0;have Ji:=z6 1;have GY:=z6 2;have Jj:=z6 3;have fz4:=z6 4
  rw[hv5]at d2
  obtain⟨w6,dH⟩:=ay (((((w5.setCell ⟨W.heap.size,0,none⟩ (ku pa)).setCell ⟨W.heap.size,1,none⟩ (.bool b)).setCell ⟨W.heap.size,2,none⟩ (.slice a5 m5 c5)).setCell ⟨W.heap.size,3,none⟩ (.int .i64 i5)).setCell ⟨W.heap.size,4,none⟩ (.int .u64 k5))
  have k6:O_ w6 W.heap.size (ku pa) b (.slice a5 m5 c5) i5 k5:=by rw[<-dH];exact aaz.set (ku pa) b (.slice a5 m5 c5) i5 k5
  have lu:w5.grownBy w6 (some W.heap.size):=by rw[<-dH];exact Cr w5 W.heap.size (ku pa) b (.slice a5 m5 c5) i5 k5
  have Sj:=ak k6
  have hown:∀q,v'.ownBlock=some q->q≠W.heap.size:=λq hq=>by
   rcases ho with e|⟨r,e,hr⟩
   .rw[e]at hq;cases hq
   .rw[hq]at e
    cases e
    have:=cB.o.size;have:=j_.o;have:=HB3.o.size
    have:W.heap.size+1<w4.heap.size:=by
     have:=(aga.1 aay.o).1
     have:=he.r.lt
     have h3:=(aga.1 qH.o).1
     omega
    omega
  have HR:aA (G9 W.heap.size w6 E (.slice a5 m5 c5) (bD b 0 [] y).1/\(∀f∈(bD b 0 [] y).1,f.1∈syms E/\jF f.1)/\(bD b 0 [] y).2∈syms E/\jF (bD b 0 [] y).2/\Gw n0 B most g F (λq=>W.heap.size<=q) E E W w6):=ak (by
   have hs:=he.sym _ _ rfl
   refine⟨by rw[<-hv5];exact he.r.path.grown lu (by
    cases hq:v'.ownBlock with
    |none=>exact .inl rfl
    |some q=>exact .inr (λe=>hown q hq (agQ e))),he.r.mem,hs.1,hs.2,?_⟩
   refine(xZ.o.trans (hg5.mono λq _ hq=>?_)).trans (Gw.put hg5.st lu hk1 (by decide) HP.o.lt (af7 _))
   have:=cB.o.size;have:=HB3.o.size
   rcases hq with hq|hq|hq
   .omega
   .cases hq
   .omega)
  have Hf:=ak (And.intro hi5 hk5)
  clear hk1 aaz z6 hown he hbt ho hg5 k6 lu hv5 hi5 hk5
  go_wp2_with fail
  obtain⟨x0,x1,x2,x3,x4,-⟩:=Sj.o.all
  refine af_ (v:=.agg #[ku pa,.bool b,.slice a5 m5 c5,.int .i64 i5,.int .u64 k5]) (by simp[results,Tryz.results144,go_sem,x0,x1,x2,x3,x4]) rfl ?_
  exact⟨.slice a5 m5 c5,by rw[Hf.o.1,Hf.o.2],HR.o⟩
def Qa(W:World)(b:Nat)(t:List Nat):Prop:=∃(cs:Array Value) (fz:Nat×Nat),W.heap[b]?=some (.cells cs 5 fz)/\∀(i x:Nat),t[i]?=some x->cs[i]?=some (.int .u8 x)
theorem Qa.kp{B':Nat}{X:Nat->Prop}{A C:World}{b:Nat}(h:Qa A b t)(hk:Kp B' X A C)(hX:¬X b):Qa C b t:=by
 obtain⟨cs,fz,h1,h2⟩:=h;exact⟨cs,fz,hk.cells _ (by decide) _ hX _ _ h1,h2⟩
theorem Qa.cell{W:World}{b:Nat}{t:List Nat}(h:Qa W b t){i x:Nat}(hx:t[i]?=some x):W.cell? ⟨b,i,none⟩=some (.int .u8 x):=by
 obtain⟨cs,fz,h1,h2⟩:=h;have:=h2 i x hx;simp only[World.cell?,h1];simpa using this
theorem Qa.lt{b:Nat}(h:Qa W b t):b<W.heap.size:=by
 obtain⟨cs,fz,h1,h2⟩:=h;exact(aga.1 h1).1
theorem iW.lt{p:Nat}(h:iW W p B g):p<W.heap.size:=(aga.1 h).1
def PPl(n c:Nat):Nat->Value->World->Prop
 |2,v,w=>∃b,v=.slice (some ⟨b,0,none⟩) 0 c/\n<=b/\Hs w 27 b c [] 0 []
 |5,v,w=>∃b,v=.slice (some ⟨b,0,none⟩) 0 c/\n<=b/\Hs w 88 b c [] 0 []
 |6,v,w=>∃b1 b2,v=.agg #[.slice (some ⟨b1,0,none⟩) 0 c,.slice (some ⟨b2,0,none⟩) 0 c]/\(n<=b1/\n<=b2)/\Hs w 27 b1 c [] 0 []/\Hs w 88 b2 c [] 0 []
 |7,v,w=>∃b,v=.pointer (some ⟨b,0,none⟩)/\n<=b/\jM w b (.slice none 0 0) (.slice none 0 0)
 |_,_,_=>True
theorem PPl.mono{c:Nat}:∀(x:Nat) (v:Value) (w w':World),PPl n c x v w->Below w.heap.size w w'->PPl n c x v w'
 |2,v,w,w',h,hb=>by obtain⟨b,h1,h2,h3⟩:=h;exact⟨b,h1,h2,h3.below hb⟩
 |5,v,w,w',h,hb=>by obtain⟨b,h1,h2,h3⟩:=h;exact⟨b,h1,h2,h3.below hb⟩
 |6,v,w,w',h,hb=>by obtain⟨b1,b2,h1,h2,h3,h4⟩:=h;exact⟨b1,b2,h1,h2,h3.below hb,h4.below hb⟩
 |7,v,w,w',h,hb=>by obtain⟨b,h1,h2,h3⟩:=h;exact⟨b,h1,h2,au hb h3⟩
 |0,_,_,_,_,_=>trivial
 |1,_,_,_,_,_=>trivial
 |3,_,_,_,_,_=>trivial
 |4,_,_,_,_,_=>trivial
 |_+8,_,_,_,_,_=>trivial
theorem Nh(w:World)(e:TypeId)(z:Value)(c:Nat):Hs (w.alloc (.cells (madeCells #[z] c) e)) e w.heap.size c [] 0 []:=
 ⟨_,aD _ _,by rw[size_madeCells],λi v h=>by simp at h,λi v _ h=>by simp at h⟩
theorem I8(h:gV n0 B most g F E W){p:Nat}(hp:iW W p B g){gt ct:Nat}(ht:Qa W gt t)(hn:t.length=n)(hlen:n<=65536)(hb:∀b∈t,b<256)(hF:∀b∈t,.lt b∈F):
    Calls Tryz.prog 138 #[.pointer (some ⟨p,0,none⟩),.slice (some ⟨gt,0,none⟩) n ct] W λe w'=>∃b1 b2 E',e=.returned (.tuple #[.agg #[.slice (some ⟨b1,0,none⟩) n n,.slice (some ⟨b2,0,none⟩) n n],.nilIface])/\
     (W.heap.size<=b1/\W.heap.size<=b2)/\Gw n0 B most g F (λ_=>False) E E' W w'/\Row w' E' b1 b2 n (t.map .lt):=by
 have HF:∀f,Fence.wide.fn f:=λ_=>trivial;have HP:=ak h;have fV:=ak hp;have HT:=ak ht;have HN:=ak hn;have HBF:=ak (And.intro hb hF);have hn0:=h.lt;have hm1:∀w:World,(Instr.makeSlice 30 (.int .i64 0) (.int .i64 (n:Int))).run Tryz.prog w=.ok (.slice (some ⟨w.heap.size,0,none⟩) 0 n) (w.alloc (.cells (madeCells #[.int .i64 0] n) 27)):=λw=>by
  have:=Ba (P:=Tryz.prog) (w:=w) Tryz.underlying30 (e:=27) (z:=.int .i64 0) (size:=1) (bytes:=8) (by kernel_rfl) 0 n (by omega) (by omega) (by omega);rw[ag3]at this;exact this
 have hm2:∀w:World,(Instr.makeSlice 133 (.int .i64 0) (.int .i64 (n:Int))).run Tryz.prog w=.ok (.slice (some ⟨w.heap.size,0,none⟩) 0 n) (w.alloc (.cells (madeCells #[.int .u64 0] n) 88)):=λw=>by
  have:=Ba (P:=Tryz.prog) (w:=w) Tryz.underlying133 (e:=88) (z:=.int .u64 0) (size:=1) (bytes:=8) (by kernel_rfl) 0 n (by omega) (by omega) (by omega);rw[ag3]at this;exact this
 obtain⟨W1,hW1⟩:=ay (W.alloc (.cells #[.slice none 0 0,.slice none 0 0] 237));have k1:jM W1 W.heap.size (.slice none 0 0) (.slice none 0 0):=by rw[<-hW1];exact aD _ _
 have b1:Below W.heap.size W W1:=by rw[<-hW1];exact(af6 _ _).alloc (af7 _) _
 have s1:W1.heap.size=W.heap.size+1:=by rw[<-hW1,ag1]
 have K1:=ak k1;have B1:=ak b1;go_enter Tryz.func138,Tryz.ntmps138;go_wp2_with fail
 refine aU (Below W1.heap.size W1) ?_;have S0:Below W1.heap.size W1 W1.drew:=(af6 _ _).drew;refine tk4 0 1 3 4 ?_;refine aJ.Kj [2,5,6,7] 8 (λx=>match x with|6=>[2,5]|_=>[]) (λx=>match x with|2=>14|5=>17|6=>18|_=>6) (PPl W1.heap.size n) (λx=>x==7) (by kernel_rfl) (by kernel_rfl) (aju (by kernel_rfl)) HF S0 (λx _ v w w' h hb=>PPl.mono x v w w' h hb) ?box ?step ?tail
 case box=>
  intro x hx hal v w h;simp only[agm,ahA,ahD]at hx;rcases hx with rfl|rfl|rfl|rfl
  .cases hal
  .cases hal
  .cases hal
  obtain⟨b,h1,h2,h3⟩:=h;exact⟨b,h1,(aga.1 h3).1⟩
 case step=>
  intro x hx vs w hS hP K hK;simp only[agm,ahA,ahD]at hx;rcases hx with rfl|rfl|rfl|rfl
  .refine iH.mk rfl (by rfl) ?_;simp only[mP,aho,ag5,Act.put,agx,agu,agv]at hK⊢;go_simp;exact hK _ _ (hS.alloc hS.size _) ((af6 _ _).alloc (af7 _) _) ⟨_,rfl,hS.size,Nh _ _ _ _⟩ (λh=>absurd h (by decide))
  .refine iH.mk rfl (by rfl) ?_;simp only[mP,aho,ag5,Act.put,agx,agu,agv]at hK⊢;go_simp;exact hK _ _ (hS.alloc hS.size _) ((af6 _ _).alloc (af7 _) _) ⟨_,rfl,hS.size,Nh _ _ _ _⟩ (λh=>absurd h (by decide))
  .obtain⟨q1,e1,l1,t1⟩:∃b,vs 2=.slice (some ⟨b,0,none⟩) 0 n/\W1.heap.size<=b/\Hs w 27 b n [] 0 []:=hP 2 (by simp);obtain⟨q2,e2,l2,t2⟩:∃b,vs 5=.slice (some ⟨b,0,none⟩) 0 n/\W1.heap.size<=b/\Hs w 88 b n [] 0 []:=hP 5 (by simp);refine iH.mk rfl (by rfl) ?_;simp only[mP,aho,ag5,e1,e2,Act.put,agx,agu,agv]at hK⊢;go_simp;exact hK _ _ hS (af6 _ _) ⟨_,_,rfl,⟨l1,l2⟩,t1,t2⟩ (λh=>absurd h (by decide))
  refine iH.mk rfl (by rfl) ?_;simp only[mP,aho,ag5,Act.put,agx,agu,agv]at hK⊢;go_simp;exact hK _ _ (hS.alloc hS.size _) ((af6 _ _).alloc (af7 _) _) ⟨_,rfl,hS.size,aD _ _⟩ (λ_=>rfl)
 intro vs w hS hP hD;obtain⟨b1,b2,e6,⟨l1,l2⟩,t1,t2⟩:∃b1 b2,vs 6=.agg #[.slice (some ⟨b1,0,none⟩) 0 n,.slice (some ⟨b2,0,none⟩) 0 n]/\(W1.heap.size<=b1/\W1.heap.size<=b2)/\Hs w 27 b1 n [] 0 []/\Hs w 88 b2 n [] 0 []:=hP 6 (by simp);obtain⟨b6,e7,l6,q6⟩:∃b,vs 7=.pointer (some ⟨b,0,none⟩)/\W1.heap.size<=b/\jM w b (.slice none 0 0) (.slice none 0 0):=hP 7 (by simp);simp only[mP,aho,ag5,e6,e7,Act.put,agx,agu,agv,agr,agj];generalize vs 2=v2;generalize vs 5=v5;obtain⟨c0,c1,f6⟩:=q6.cells;have f0:=f6 0;have f1:=f6 1;obtain⟨w2,hw2⟩:∃w',(w.setCell ⟨b6,0,none⟩ (.slice (some ⟨b1,0,none⟩) 0 n)).setCell ⟨b6,1,none⟩ (.slice (some ⟨b2,0,none⟩) 0 n)=w':=⟨_,rfl⟩;have g2:w.grownBy w2 (some b6):=by rw[<-hw2];exact aM (aK _ _ _) (aK _ ⟨b6,1,none⟩ _)
 have q2:jM w2 b6 (.slice (some ⟨b1,0,none⟩) 0 n) (.slice (some ⟨b2,0,none⟩) 0 n):=by rw[<-hw2];exact(q6.set0 _).set1 _
 have hne1:=t1.Dv q6 (by decide);have hne2:=t2.Dv q6 (by decide);have HW2:aA (Below W.heap.size W w2):=ak ((Below.after B1.o hS).trans (bL g2 (by omega) (af9 B1.o.size hS.size)));have DJ:=ak q2;have HT1:=ak (t1.other g2 hne1);have HT2:=ak (t2.other g2 hne2);have nY:aA (jM w2 W.heap.size (.slice none 0 0) (.slice none 0 0)):=ak (aI g2 (au hS K1.o) (by omega));have HL:=ak (show W.heap.size<b1/\W.heap.size<b2/\W.heap.size<b6 by omega);gi_wp2_with fail
 go_wp2_with fail
 go_loopw [21] (λiv wr=>∃(j:Nat) (E1:List En),iv=.int .i64 j/\j<=n/\Gw n0 B most g F (λk=>W.heap.size<=k) E E1 W wr/\jM wr b6 (.slice (some ⟨b1,0,none⟩) j n) (.slice (some ⟨b2,0,none⟩) j n)/\jM wr W.heap.size (.slice none 0 0) (.slice none 0 0)/\(∀y∈(t.take j).map Sy.lt,y∈syms E1)/\Hs wr 27 b1 n (xx E1 ((t.take j).map Sy.lt)) n []/\Hs wr 88 b2 n (yU ((t.take j).map Sy.lt)) n []) (λiv _=>n-(intOf iv).toNat)
 case atStart=>
  exact⟨0,E,rfl,agb _,Gw.of HP.o HW2.o,DJ.o,nY.o,λy hy=>by simp at hy,HT1.o.fin,HT2.o.fin⟩
 obtain⟨j,E1,rfl,hj,hG,hq,hk,hm,h1,h2⟩:=hrel;have hpl:=fV.o.lt;have hgl:=HT.o.lt;by_cases hjn:j<n
 .have l1:(j:Int)<(n:Int):=by omega
  have l0:(0:Int)<=(j:Int):=by omega
  obtain⟨x,hx⟩:∃x,t[j]?=some x:=⟨_,agt (by rw[HN.o];exact hjn)⟩;have hxt:x∈t:=agE hx;have ca:=(HT.o.kp hG.kp (by omega)).cell hx;obtain⟨p0,p1⟩:=(fV.o.kp hG.kp (by omega)).cells;have htk:(t.take (j+1)).map Sy.lt=(t.take j).map Sy.lt++[Sy.lt x]:=by rw[ajB,hx,ag2];rfl
  have htl:((t.take j).map Sy.lt).length=j:=by rw[agM,agB,HN.o];omega
  have aag:=ak (ac9 hG.st (HBF.o.1 x hxt) (HBF.o.2 x hxt));obtain⟨T,hT⟩:=ay ((t.take j).map Sy.lt);rw[hT]at hm h1 h2 htk htl;have HG:=ak hG;have HQ:=ak hq;have HK:=ak hk;have HM:=ak hm;have Ur:=ak h1;have P_:=ak h2;have I9:=ak (And.intro htk htl);have HJ:=ak (And.intro hj hjn);have uq:=ak (And.intro hpl hgl);go_wp2_with fail
  refine aag.o.mono ?_;rintro r w1 ⟨E2,rfl,hG2,hm2⟩;have hl6:=HL.o;have q2:=HQ.o.kp hG2.kp (λq=>q);have k2:=HK.o.kp hG2.kp (λq=>q);have t1:=Ur.o.kp hG2.kp (by decide) (λq=>q);have t2:=P_.o.kp hG2.kp (by decide) (λq=>q);rw[<-tT hG2.ext HM.o]at t1;have hpa:iW w1 p B g:=(fV.o.kp HG.o.kp (by have:=uq.o;omega)).kp hG2.kp (λq=>q);have hn1:=HP.o.lt;have Vy:=ak (R6 hG2.st hpa q2 t1 t2 I9.o.2 (by omega) (by omega) hm2 (by omega) (by omega) (by omega));have HG2:=ak hG2;have nY:=ak k2;have kZ:=ak hm2;go_wp2_with fail
  refine Vy.o.mono ?_;rintro r w4 ⟨rfl,hG3,q3,t3,t4⟩;have HR:aA (Gw n0 B most g F (λk=>W.heap.size<=k) E E2 W w4):=ak ((HG.o.trans HG2.o.free).trans (hG3.mono λk _ hk=>by have:=HL.o;omega));have HQ3:=ak q3;have HT3:=ak t3;have qG:=ak t4;have qH:=ak (nY.o.kp hG3.kp (by have:=HL.o;omega));go_wp2_with fail
  go_roundw
  case rel=>
   refine⟨j+1,E2,by go_num,by have:=HJ.o;omega,HR.o,HQ3.o,qH.o,λy hy=>?_,?_,?_⟩
   .rw[I9.o.1]at hy;rcases ags.1 hy with hy|hy
    .exact HG2.o.ext.mem (HM.o y hy)
    rw[agl.1 hy];exact kZ.o
   .rw[I9.o.1];exact HT3.o
   rw[I9.o.1];exact qG.o
  case measure=>have:=HJ.o;simp[intOf];omega
 have l1:¬(j:Int)<(n:Int):=by omega
 obtain rfl:j=n:=by omega
 have htk:t.take j=t:=agI (by rw[HN.o];omega);rw[htk]at hm h1 h2;obtain⟨d0,d1,-⟩:=hq.cells;obtain⟨c0,c1,f6⟩:=hk.cells;have f0:=f6 0;have f1:=f6 1;obtain⟨w3,hw3⟩:∃w',(wr.setCell ⟨W.heap.size,0,none⟩ (.slice (some ⟨b1,0,none⟩) j j)).setCell ⟨W.heap.size,1,none⟩ (.slice (some ⟨b2,0,none⟩) j j)=w':=⟨_,rfl⟩;have g3:wr.grownBy w3 (some W.heap.size):=by rw[<-hw3];exact aM (aK _ _ _) (aK _ ⟨W.heap.size,1,none⟩ _)
 have q3:jM w3 W.heap.size (.slice (some ⟨b1,0,none⟩) j j) (.slice (some ⟨b2,0,none⟩) j j):=by rw[<-hw3];exact(hk.set0 _).set1 _
 have HR:aA (Gw n0 B most g F (λ_=>False) E E1 W w3):=ak ((hG.trans (Gw.put hG.st g3 hk (by decide) HP.o.lt (af7 _))).mono λk hk h=>by omega);have HT3:=ak (h1.other g3 (by have:=HL.o;omega) |>.fin (k2:=0));have qG:=ak (h2.other g3 (by have:=HL.o;omega) |>.fin (k2:=0));have HM:=ak hm;have HQ3:=ak q3;go_wp2_with fail
 obtain⟨x0,x1,-⟩:=HQ3.o.cells;refine af_ (v:=.tuple #[.agg #[.slice (some ⟨b1,0,none⟩) j j,.slice (some ⟨b2,0,none⟩) j j],.nilIface]) (by simp[results,Tryz.results138,go_sem,x0,x1]) rfl ?_;exact⟨b1,b2,rfl,by have:=HL.o;omega,E1,HR.o,HM.o,HT3.o,qG.o⟩
def VY(E:List En):Option Sy->Nat
 |none=>0
 |some y=>num E y
def jK(E:List En)(i:It):List Value:=[vI (num E i.x),vI (VY E i.nx),vK (key i.x),vI i.times]
theorem bG(E:List En)(i:It):(jK E i).length=4:=rfl
theorem eF(E:List En)(i:It):∀u∈jK E i,u.oneCell'=true:=by simp[jK,Value.oneCell']
def r_(E:List En)(l:List It):Prop:=∀i∈l,i.x∈syms E/\(∀y,i.nx=some y->y∈syms E)/\i.times<=1152921504606846976
abbrev Its(lo:Nat)(W:World)(E:List En)(v:Value)(l:List It):Prop:=aP lo W 254 4 (jK E) v l
theorem Pd{B:List En}(h:Ext A B){i:It}(hi:i.x∈syms A/\(∀y,i.nx=some y->y∈syms A)/\i.times<=1152921504606846976):jK B i=jK A i:=by
 obtain⟨x,nx,t⟩:=i
 unfold jK
 rw[eZ h hi.1]
 cases nx with
 |none=>rfl
 |some y=>show[_,vI (num B y),_,_]=[_,vI (num A y),_,_];rw[eZ h (hi.2.1 y rfl)]
theorem r_.ext{B:List En}(h:r_ A l)(hx:Ext A B):r_ B l:=λi hi=>⟨hx.mem (h i hi).1,λy e=>hx.mem ((h i hi).2.1 y e),(h i hi).2.2⟩
theorem r_.app{m:List It}(h:r_ E l)(k:r_ E m):r_ E (l++m):=λi hi=>by
 rcases ags.1 hi with q|q
 .exact h i q
 .exact k i q
theorem Its.gw{X:Nat->Prop}{E':List En}(h:Its lo W E v l)(hg:Gw n0 B most g F X E E' W w')(hm:r_ E l)(hX:∀q,v.ownBlock=some q->¬X q):Its lo w' E' v l:=
 (hg.kp.sl h (by decide) hX).congr λi hi=>Pd hg.ext (hm i hi)
theorem Gw.item(h:gV n0 B most g F E W)(ho:bS [254] W w')(hb:Below lo W w')(hlo:n0<=lo):Gw n0 B most g F (λq=>lo<=q) E E W w':=by
 have hb0:=hb.mono hlo
 refine⟨Ext.refl _,⟨h.st.OG ho (by decide) (by decide),h.wf,h.kt.Vs ho hb0 (by decide) (by decide),h.sub,h.len,h.most,h.txt⟩,hb0,⟨λt _ k hk cs fz e=>?_,λv ⟨cs,fz,e1,e2⟩=>⟨cs,fz,ho.cells e1 (by decide),e2⟩,λk es c e _=>ho.block k _ e (λ_ _ _ q=>by cases q)⟩⟩
 rw[hb.block k (by omega)];exact e
structure bQ(W:World)(E:List En)(lo sb pa:Nat)(s:iD)(cs:Array Value)(vL vR vM:Value):Prop where
 left:J6 W E 251 lo sb 1 pa false s.L cs vL
 right:J6 W E 251 lo sb 6 pa true s.R cs vR
 c0:cs[0]?=some (ku pa)
 c11:cs[11]?=some vM
 mid:Its lo W E vM s.mid
 mem:r_ E s.mid
 VZ:∀q,vL.ownBlock=some q->vR.ownBlock≠some q
 low:lo<=sb
theorem fO(h:n0<=lo)(k:lo<=sb):EdL n0 lo sb 251:=⟨h,k,by decide,by decide,by decide⟩
section
variable {W w':World} {E:List En} {lo sb pa:Nat} {s:iD} {cs:Array Value} {vL vR vM:Value}
variable{F:List Sy}{B g most n0:Nat}
theorem bQ.blk(h:bQ W E lo sb pa s cs vL vR vM):W.heap[sb]?=some (.cells cs 251 (0,0)):=h.left.r.blk
theorem bQ.lt(h:bQ W E lo sb pa s cs vL vR vM):sb<W.heap.size:=h.left.r.lt
theorem bQ.cell0(h:bQ W E lo sb pa s cs vL vR vM):W.cell? ⟨sb,0,none⟩=some (ku pa):=by
 simp only[World.cell?,h.blk];simpa using h.c0
theorem bQ.jD(h:bQ W E lo sb pa s cs vL vR vM):W.cell? ⟨sb,11,none⟩=some vM:=by
 simp only[World.cell?,h.blk];simpa using h.c11
theorem bQ.free(h:bQ W E lo sb pa s cs vL vR vM)(j:Nat):W.frozen? ⟨sb,j,none⟩=false:=by simp[World.frozen?,h.blk]
theorem bQ.sj(h:bQ W E lo sb pa s cs vL vR vM){q:Nat}(hq:vM.ownBlock=some q):q≠sb/\vL.ownBlock≠some q/\vR.ownBlock≠some q/\lo<=q/\q<W.heap.size:=by
 obtain⟨a,cur,hc⟩:=h.mid.blk hq
 refine⟨?_,λe=>?_,λe=>?_,a,(aga.1 hc).1⟩
 .rintro rfl
  have:=h.blk
  rw[hc]at this
  injection this with this;injection this with _ this _
  exact absurd this (by decide)
 .obtain⟨-,cur',hc'⟩:=h.left.r.path.blk e
  rw[hc]at hc'
  injection hc' with hc';injection hc' with _ hc' _
  exact absurd hc' (by decide)
 .obtain⟨-,cur',hc'⟩:=h.right.r.path.blk e
  rw[hc]at hc'
  injection hc' with hc';injection hc' with _ hc' _
  exact absurd hc' (by decide)
theorem bQ.call{E':List En}(h:bQ W E lo sb pa s cs vL vR vM)(hwf:Wf E)(hg:Gw n0 B most g F (λ_=>False) E E' W w'):bQ w' E' lo sb pa s cs vL vR vM:=
 ⟨h.left.gw hg hwf (by decide) (λq=>q) (λ_ _ q=>q),h.right.gw hg hwf (by decide) (λq=>q) (λ_ _ q=>q),h.c0,h.c11,h.mid.gw hg h.mem (λ_ _ q=>q),h.mem.ext hg.ext,h.VZ,h.low⟩
theorem bQ.below(h:bQ W E lo sb pa s cs vL vR vM)(hb:Below W.heap.size W w'):bQ w' E lo sb pa s cs vL vR vM:=
 ⟨h.left.below hb,h.right.below hb,h.c0,h.c11,h.mid.below hb,h.mem,h.VZ,h.low⟩
theorem bQ.opL(h:bQ W E lo sb pa s cs vL vR vM)(hwf:Wf E){e:Ed}(hE:He n0 B most g F E W 251 lo sb 1 pa false cs vL e w'):∃cs' vL',bQ w' E lo sb pa ⟨e,s.mid,s.R⟩ cs' vL' vR vM/\Gw n0 B most g F (λq=>lo<=q) E E W w':=by
 obtain⟨cs',v',he,hb,ho,hg⟩:=hE
 have hneR:∀q,vR.ownBlock=some q->¬G_ sb vL W.heap.size q:=λq hq=>by
  have h1:=h.right.r.ne (by decide) hq
  have h2:=(h.right.r.Ux hq).2
  rintro(e|e|e)
  .exact h1 e
  .exact h.VZ q e hq
  .omega
 have aaB:∀q,vM.ownBlock=some q->¬G_ sb vL W.heap.size q:=λq hq=>by
  obtain⟨a,b,c,d,e⟩:=h.sj hq
  rintro(q1|q1|q1)
  .exact a q1
  .exact b q1
  .omega
 refine⟨cs',v',⟨he,⟨⟨he.r.blk,by rw[hb.get _ (.inr (by omega))];exact h.right.r.c0,by rw[hb.get _ (.inr (by omega))];exact h.right.r.c1,by rw[hb.get _ (.inr (by omega))];exact h.right.r.c2,by rw[hb.get _ (.inr (by omega))];exact h.right.r.c3,by rw[hb.get _ (.inr (by omega))];exact h.right.r.c4,hg.kp.sl h.right.r.path (by decide) hneR,h.right.r.mem⟩,h.right.sym⟩,by rw[hb.get _ (.inl (by omega))];exact h.c0,by rw[hb.get _ (.inr (by omega))];exact h.c11,h.mid.gw hg h.mem aaB,h.mem,λq hq hq2=>?_,h.low⟩,hg.mono λq _ hq=>?_⟩
 .rcases ho with e|⟨r,e,hr⟩
  .exact h.VZ q (by rw[<-e];exact hq) hq2
  .rw[hq]at e
   cases e
   have:=(h.right.r.Ux hq2).2
   omega
 .have:=h.low
  rcases hq with q1|q1|q1
  .omega
  .exact(h.left.r.Ux q1).1
  .have:=h.lt;omega
theorem bQ.UC(h:bQ W E lo sb pa s cs vL vR vM)(hwf:Wf E){e:Ed}(hE:He n0 B most g F E W 251 lo sb 6 pa true cs vR e w'):∃cs' vR',bQ w' E lo sb pa ⟨s.L,s.mid,e⟩ cs' vL vR' vM/\Gw n0 B most g F (λq=>lo<=q) E E W w':=by
 obtain⟨cs',v',he,hb,ho,hg⟩:=hE
 have hneL:∀q,vL.ownBlock=some q->¬G_ sb vR W.heap.size q:=λq hq=>by
  have h1:=h.left.r.ne (by decide) hq
  have h2:=(h.left.r.Ux hq).2
  rintro(e|e|e)
  .exact h1 e
  .exact h.VZ q hq e
  .omega
 have aaB:∀q,vM.ownBlock=some q->¬G_ sb vR W.heap.size q:=λq hq=>by
  obtain⟨a,b,c,d,e⟩:=h.sj hq
  rintro(q1|q1|q1)
  .exact a q1
  .exact c q1
  .omega
 refine⟨cs',v',⟨⟨⟨he.r.blk,by rw[hb.get _ (.inl (by omega))];exact h.left.r.c0,by rw[hb.get _ (.inl (by omega))];exact h.left.r.c1,by rw[hb.get _ (.inl (by omega))];exact h.left.r.c2,by rw[hb.get _ (.inl (by omega))];exact h.left.r.c3,by rw[hb.get _ (.inl (by omega))];exact h.left.r.c4,hg.kp.sl h.left.r.path (by decide) hneL,h.left.r.mem⟩,h.left.sym⟩,he,by rw[hb.get _ (.inl (by omega))];exact h.c0,by rw[hb.get _ (.inr (by omega))];exact h.c11,h.mid.gw hg h.mem aaB,h.mem,λq hq hq2=>?_,h.low⟩,hg.mono λq _ hq=>?_⟩
 .rcases ho with e|⟨r,e,hr⟩
  .exact h.VZ q hq (by rw[<-e];exact hq2)
  .rw[hq2]at e
   cases e
   have:=(h.left.r.Ux hq).2
   omega
 .have:=h.low
  rcases hq with q1|q1|q1
  .omega
  .exact(h.right.r.Ux q1).1
  .have:=h.lt;omega
theorem bQ.SK(h:bQ W E lo sb pa s cs vL vR vM)(hP:gV n0 B most g F E W)(hlo:n0<=lo)(ho:bS [254] W w')(hb:Below lo W w'){v:Value}{l:List It}(hs:Its lo w' E v l)(hm:r_ E l):
    bQ (w'.setCell ⟨sb,11,none⟩ v) E lo sb pa ⟨s.L,l,s.R⟩ (cs.setIfInBounds 11 v) vL vR v/\Gw n0 B most g F (λq=>lo<=q) E E W (w'.setCell ⟨sb,11,none⟩ v)/\w'.heap[sb]?=some (.cells cs 251 (0,0)):=by
 have hblk:w'.heap[sb]?=some (.cells cs 251 (0,0)):=ho.cells h.blk (by decide)
 have hpk:∀{u:Value} {p:gI},G9 lo W E u p->G9 lo w' E u p:=λhp=>by
  refine⟨hp.1,?_⟩
  rcases hp.2 with hn|⟨g,cap,cur,rfl,hb,hg,rest⟩
  .exact .inl hn
  .exact .inr ⟨g,cap,cur,rfl,hb,ho.cells hg (by decide),rest⟩
 have hne:∀{j:Nat},j≠11->(cs.setIfInBounds 11 v)[j]?=cs[j]?:=λhj=>iP (λe=>hj e.symm)
 have hg1:=Gw.item hP ho hb hlo
 refine⟨⟨⟨⟨aC _ hblk,by rw[hne (by omega)];exact h.left.r.c0,by rw[hne (by omega)];exact h.left.r.c1,by rw[hne (by omega)];exact h.left.r.c2,by rw[hne (by omega)];exact h.left.r.c3,by rw[hne (by omega)];exact h.left.r.c4,(hpk h.left.r.path).setCell _ hblk (by decide),h.left.r.mem⟩,h.left.sym⟩,
  ⟨⟨aC _ hblk,by rw[hne (by omega)];exact h.right.r.c0,by rw[hne (by omega)];exact h.right.r.c1,by rw[hne (by omega)];exact h.right.r.c2,by rw[hne (by omega)];exact h.right.r.c3,by rw[hne (by omega)];exact h.right.r.c4,(hpk h.right.r.path).setCell _ hblk (by decide),h.right.r.mem⟩,h.right.sym⟩,
  by rw[hne (by omega)];exact h.c0,Cn h.c11,hs.setCell _ hblk (by decide),hm,h.VZ,h.low⟩,hg1.trans (Gw.put hg1.st (aK _ _ _) hblk (by decide) (af9 hlo h.low) h.low),hblk⟩
end
def kC(n0 B most g:Nat)(F:List Sy)(E:List En)(W:World)(lo sb pa:Nat)(s:iD)(E':List En)(w':World):Prop:=∃cs vL vR vM,bQ w' E' lo sb pa s cs vL vR vM/\Gw n0 B most g F (λq=>lo<=q) E E' W w'
end M
end
end Go.Proofs.YtgbhohfabhilgaaGreatDoor
