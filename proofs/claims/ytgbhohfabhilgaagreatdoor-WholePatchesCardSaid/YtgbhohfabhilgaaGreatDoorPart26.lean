import Derived.Test.YtgbhohfabhilgaaGreatDoorPart25
set_option maxRecDepth 100000
set_option maxHeartbeats 8000000
set_option linter.unusedVariables false
set_option linter.unusedSimpArgs false
namespace Go.Proofs.YtgbhohfabhilgaaGreatDoor
section
open Go.RowKit Go.Lib
namespace M
attribute [local go_sem] Oper.semAt_some
theorem Co.all{W:World}{g:Nat}{r:Ru}(h:Co W g r):W.cell? ⟨g,0,none⟩=some (.int .i64 r.kind)/\W.cell? ⟨g,1,none⟩=some (.int .u8 r.letter)/\W.cell? ⟨g,2,none⟩=some (.int .i64 r.left)/\W.cell? ⟨g,3,none⟩=some (.int .i64 r.right)/\W.cell? ⟨g,4,none⟩=some (.int .i64 r.times)/\∀i,W.frozen? ⟨g,i,none⟩=false:=by
 unfold Co at h
 simp[World.cell?,World.frozen?,h]
theorem Co.set{W:World}{g:Nat}{r0:Ru}(h:Co W g r0)(r:Ru):Co (((((W.setCell ⟨g,0,none⟩ (.int .i64 r.kind)).setCell ⟨g,1,none⟩ (.int .u8 r.letter)).setCell ⟨g,2,none⟩ (.int .i64 r.left)).setCell ⟨g,3,none⟩ (.int .i64 r.right)).setCell ⟨g,4,none⟩ (.int .i64 r.times)) g r:=by
 unfold Co at h⊢
 exact aC _ (aC _ (aC _ (aC _ (aC _ h))))
structure F8 where
 i:Nat
 kd:Nat
 lt:Nat
 l:Nat
 r:Nat
 tm:Nat
 lv:Nat
 h:Nat
def uy(W:World)(g:Nat)(f:F8):Prop:=W.heap[g]?=some (.cells #[.int .i64 f.i,.int .i64 f.kd,.int .u8 f.lt,.int .i64 f.l,.int .i64 f.r,.int .i64 f.tm,.int .i64 f.lv,.int .i64 f.h] 289 (0,0))
theorem uy.all{W:World}{g:Nat}{f:F8}(q:uy W g f):W.cell? ⟨g,0,none⟩=some (.int .i64 f.i)/\W.cell? ⟨g,1,none⟩=some (.int .i64 f.kd)/\W.cell? ⟨g,2,none⟩=some (.int .u8 f.lt)/\W.cell? ⟨g,3,none⟩=some (.int .i64 f.l)/\W.cell? ⟨g,4,none⟩=some (.int .i64 f.r)/\
    W.cell? ⟨g,5,none⟩=some (.int .i64 f.tm)/\W.cell? ⟨g,6,none⟩=some (.int .i64 f.lv)/\W.cell? ⟨g,7,none⟩=some (.int .i64 f.h)/\∀i,W.frozen? ⟨g,i,none⟩=false:=by
 unfold uy at q
 simp[World.cell?,World.frozen?,q]
abbrev yY(W:World)(g:Nat)(f:F8):World:=(((((((W.setCell ⟨g,0,none⟩ (.int .i64 f.i)).setCell ⟨g,1,none⟩ (.int .i64 f.kd)).setCell ⟨g,2,none⟩ (.int .u8 f.lt)).setCell ⟨g,3,none⟩ (.int .i64 f.l)).setCell ⟨g,4,none⟩ (.int .i64 f.r)).setCell ⟨g,5,none⟩ (.int .i64 f.tm)).setCell ⟨g,6,none⟩ (.int .i64 f.lv)).setCell ⟨g,7,none⟩ (.int .i64 f.h)
theorem uy.set{W:World}{g:Nat}{f0:F8}(h:uy W g f0)(f:F8):uy (yY W g f) g f:=by
 have q:=aC (i:=7) (.int .i64 f.h) (aC (i:=6) (.int .i64 f.lv) (aC (i:=5) (.int .i64 f.tm) (aC (i:=4) (.int .i64 f.r) (aC (i:=3) (.int .i64 f.l) (aC (i:=2) (.int .u8 f.lt) (aC (i:=1) (.int .i64 f.kd) (aC (i:=0) (.int .i64 f.i) h)))))))
 simp only[agx,agu,agv]at q
 exact q
theorem mZ(W:World)(g:Nat)(f:F8):W.grownBy (yY W g f) (some g):=
 aM (aK _ ⟨g,0,none⟩ _) (aM (aK _ ⟨g,1,none⟩ _) (aM (aK _ ⟨g,2,none⟩ _) (aM (aK _ ⟨g,3,none⟩ _) (aM (aK _ ⟨g,4,none⟩ _) (aM (aK _ ⟨g,5,none⟩ _) (aM (aK _ ⟨g,6,none⟩ _) (aK _ ⟨g,7,none⟩ _)))))))
abbrev frF(E:List En)(y:Sy)(h:Nat):F8:=⟨num E y,(yP E y).kind,(yP E y).letter,(yP E y).left,(yP E y).right,(yP E y).times,aQ y,h⟩
theorem al3{A w:World}(h:Below A.heap.size A w):∃q w',w.alloc (.cells #[.int .i64 0,.int .u8 0,.int .i64 0,.int .i64 0,.int .i64 0] 50)=w'/\w.heap.size=q/\Below A.heap.size A w'/\Co w' q ⟨0,0,0,0,0⟩/\A.heap.size<=q:=
 ⟨_,_,rfl,rfl,h.alloc h.size _,aD _ _,h.size⟩
theorem st3{A w:World}{q:Nat}(h:Below A.heap.size A w)(R:Co w q ⟨0,0,0,0,0⟩)(l:A.heap.size<=q)(r:Ru):∃w',((((w.setCell ⟨q,0,none⟩ (.int .i64 r.kind)).setCell ⟨q,1,none⟩ (.int .u8 r.letter)).setCell ⟨q,2,none⟩ (.int .i64 r.left)).setCell ⟨q,3,none⟩ (.int .i64 r.right)).setCell ⟨q,4,none⟩ (.int .i64 r.times)=w'/\Below A.heap.size A w'/\Co w' q r:=
 ⟨_,rfl,((((h.setCell (p:=⟨q,0,none⟩) l _).setCell (p:=⟨q,1,none⟩) l _).setCell (p:=⟨q,2,none⟩) l _).setCell (p:=⟨q,3,none⟩) l _).setCell (p:=⟨q,4,none⟩) l _,R.set r⟩
theorem iW.below{A C:World}{p B g:Nat}(h:iW A p B g)(hb:Below A.heap.size A C):iW C p B g:=au hb h
theorem Co.below{A C:World}{q:Nat}{r:Ru}(h:Co A q r)(hb:Below A.heap.size A C):Co C q r:=au hb h
theorem uy.below{A C:World}{q:Nat}{f:F8}(h:uy A q f)(hb:Below A.heap.size A C):uy C q f:=au hb h
theorem Co.kp{B:Nat}{X:Nat->Prop}{A C:World}{q:Nat}{r:Ru}(h:Co A q r)(hk:Kp B X A C)(hX:¬X q):Co C q r:=hk.cells _ (by decide) _ hX _ _ h
theorem uy.kp{B:Nat}{X:Nat->Prop}{A C:World}{q:Nat}{f:F8}(h:uy A q f)(hk:Kp B X A C)(hX:¬X q):uy C q f:=hk.cells _ (by decide) _ hX _ _ h
theorem Jd{n0 B most g:Nat}{F:List Sy}{E:List En}{W:World}(h:gV n0 B most g F E W){T:TypeId}{lo sb o pa:Nat}{b:Bool}{p:gI}{k:Nat}{cs:Array Value}{v:Value}{x:Sy}(hT:T∉Du)(hp:iW W pa B g)(hr:iq W E T lo sb o pa b p (num E x) k cs v)(hx:x∈syms E)(hok:jF x):
    Calls Tryz.prog 175 #[.pointer (some ⟨sb,o,none⟩)] W λe w'=>e=.returned (frV E x (dK x))/\Gw n0 B most g F (λ_=>False) E E W w':=by
 have HF:∀f,Fence.wide.fn f:=λ_=>trivial
 have HP:=ak h;have fV:=ak hp;have HR:=ak hr;have HX:=ak (And.intro hx hok)
 have gJ:=ak h.lt
 obtain⟨W1,hW1⟩:=ay (W.alloc (.cells #[.int .i64 0,.int .i64 0,.int .u8 0,.int .i64 0,.int .i64 0,.int .i64 0,.int .i64 0,.int .i64 0] 289))
 have k1:uy W1 W.heap.size ⟨0,0,0,0,0,0,0,0⟩:=by rw[<-hW1];exact aD _ _
 have Na:Below W.heap.size W W1:=by rw[<-hW1];exact(af6 _ _).alloc (af7 _) _
 have K1:=ak k1;have DR:=ak Na
 have e0:∀w,Below W1.heap.size W1 w->w.cell? ⟨sb,o,none⟩=some (ku pa):=λw hw=>(HR.o.below (Below.after DR.o hw)).cells.1
 have e3:∀w,Below W1.heap.size W1 w->w.cell? ⟨sb,o+3,none⟩=some (vI (num E x)):=λw hw=>(HR.o.below (Below.after DR.o hw)).cells.2.2.2.1
 obtain⟨i,hi⟩:=ay (num E x)
 rw[hi]at e3
 have HI:=ak hi
 obtain⟨x1,x2,x3⟩:=aS hx
 rw[hi]at x1 x2 x3
 obtain⟨r,hr⟩:=ay (yP E x)
 have mW:(aF E i).ru=r:=by rw[ZJ h.wf.wf h.nd x1 x2,x3,hr]
 have pX:=ak (And.intro x1 (And.intro x2 mW));have HRR:=ak hr
 have HW:aA (∀w,Calls Tryz.prog 185 #[qN r] w λe w'=>e=.returned (vI (dK x))/\Below w.heap.size w w'):=ak λw=>by rw[<-hr];exact EG E x
 have I9:=ak hT
 clear h hp hr hx hok k1 Na hi x1 x2 x3 mW hT
 go_enter Tryz.func175,Tryz.ntmps175
 go_wp2_with fail
 clear hW1
 refine aU (Below W1.heap.size W1) ?_
 have S0:Below W1.heap.size W1 W1.drew:=(af6 _ _).drew
 obtain⟨wd,hwd⟩:=ay (W1.drew)
 rw[hwd]at S0⊢
 refine bJ 0 1 2 3 5 6 ?_
 refine tk2 7 8 ?_
 refine aJ.two (i:=4) (j:=13) (by kernel_rfl) (by kernel_rfl) rfl rfl HF (by rfl) (by rfl) (λK hK=>?_) (λK hK=>?_)
 .go_simp
  try with_reducible refine⟨rfl,?_⟩
  refine agq.2 ((iQ (fV.o.below (Below.after DR.o S0))).mono ?_)
  rintro e wn ⟨rfl,rfl⟩
  refine hK _ _ S0 ?_
  clear hK K
  refine aJ.two (i:=9) (j:=13) (by kernel_rfl) (by kernel_rfl) rfl rfl HF (by rfl) (by rfl) (λK hK=>?_) (λK hK=>?_)
  case' _=>
   go_simp
   try with_reducible refine⟨rfl,?_⟩
   refine agq.2 ((iK (HP.o.below (Below.after DR.o S0)).st pX.o.1 pX.o.2.1 (by have:=HP.o.room;omega)).mono ?_)
   rintro e wn ⟨rfl,bn⟩
   replace S0:=Below.after S0 bn
   try replace R3:=R3.below bn
   rw[pX.o.2.2]
   refine hK _ _ S0 ?_
   clear hK K bn
   refine tk3 10 11 12 ?_
   refine aT 13 λK hK=>?_
   go_simp
   obtain⟨b3,w3,hw3,hb3,S3,R3,l3⟩:=al3 S0
   rw[hw3,hb3]
   refine hK _ _ S3 ?_
   clear S0 hK K hw3 hb3
   have S0:=S3
   clear S3
  rotate_left
  case' _=>
   go_simp
   obtain⟨b3,w3,hw3,hb3,S3,R3,l3⟩:=al3 S0
   rw[hw3,hb3]
   refine hK _ _ S3 ?_
   clear S0 hK K hw3 hb3
   have S0:=S3
   clear S3
   refine aT 9 λK hK=>?_
   go_simp
   try with_reducible refine⟨rfl,?_⟩
   refine agq.2 ((iK (HP.o.below (Below.after DR.o S0)).st pX.o.1 pX.o.2.1 (by have:=HP.o.room;omega)).mono ?_)
   rintro e wn ⟨rfl,bn⟩
   replace S0:=Below.after S0 bn
   try replace R3:=R3.below bn
   rw[pX.o.2.2]
   refine hK _ _ S0 ?_
   clear hK K bn
   refine tk3 10 11 12 ?_
  all_goals
   refine aT 14 λK hK=>?_
   go_simp
   obtain⟨y0,y1,y2,y3,y4,y5⟩:=R3.all
   have f0:=y5 0;have f1:=y5 1;have f2:=y5 2;have f3:=y5 3;have f4:=y5 4
   obtain⟨w5,eH,S5,R5⟩:=st3 S0 R3 l3 r
   go_simp
   refine hK _ _ S5 ?_
   clear y5 R3 S0 eH y0 y1 y2 y3 y4 f0 f1 f2 f3 f4 hK K
   refine tk1 15 ?_
   refine aO ?_
   clear e0 e3
   have nL:=ak R5
   have xY:aA (Gw n0 B most g F (λ_=>False) E E W w5):=ak (Gw.of HP.o (Below.after DR.o S5))
   have Je:aA (iW w5 pa B g):=ak (fV.o.below (Below.after DR.o S5))
   have xG:aA (iq w5 E T lo sb o pa b p (num E x) k cs v):=ak (HR.o.below (Below.after DR.o S5))
   have uJ:aA (uy w5 W.heap.size ⟨0,0,0,0,0,0,0,0⟩):=ak (K1.o.below S5)
   have oG:=ak (show W.heap.size<W1.heap.size/\W1.heap.size<=b3 from⟨(aga.1 K1.o).1,l3⟩)
   have zI:aA (∀w,Gw n0 B most g F (λ_=>False) E E w5 w->Calls Tryz.prog 20 #[.pointer (some ⟨g,0,none⟩),.int .i64 i] w λr w'=>r=.returned (.tuple #[vI (aQ x),.nilIface])/\Gw n0 B most g F (λ_=>False) E E w w'):=ak λw hw=>by
    have:=xA hw.st HX.o.1 HX.o.2
    rw[HI.o]at this
    exact this
   clear R5 S5 l3
   go_wp2_with fail
   refine aU (λw=>Gw n0 B most g F (λ_=>False) E E w5 w) ?_
   obtain⟨we,bU⟩:=ay (w5.drew)
   have S0:Gw n0 B most g F (λ_=>False) E E w5 we:=by rw[<-bU];exact Gw.of xY.o.st (af6 _ _).drew
   rw[bU]
   clear bU
   have e0:∀w,Gw n0 B most g F (λ_=>False) E E w5 w->w.cell? ⟨sb,o,none⟩=some (ku pa):=λw hw=>(xG.o.gw hw HP.o.wf.wf I9.o (λq=>q) (λ_ _ q=>q)).cells.1
   have e3:∀w,Gw n0 B most g F (λ_=>False) E E w5 w->w.cell? ⟨sb,o+3,none⟩=some (vI i):=λw hw=>by
    have:=(xG.o.gw hw HP.o.wf.wf I9.o (λq=>q) (λ_ _ q=>q)).cells.2.2.2.1
    rw[HI.o]at this
    exact this
   refine bJ 0 1 2 3 5 6 ?_
   refine tk2 7 8 ?_
   refine aT 4 λK hK=>?_
   go_simp
   try with_reducible refine⟨rfl,?_⟩
   refine agq.2 ((kT (Je.o.kp S0.kp (λq=>q))).mono ?_)
   rintro e wn ⟨rfl,rfl⟩
   refine hK _ _ S0 ?_
   clear hK K
   refine aT 9 λK hK=>?_
   go_simp
   try with_reducible refine⟨rfl,?_⟩
   refine agq.2 ((zI.o _ S0).mono ?_)
   rintro e w6 ⟨rfl,bn⟩
   replace S0:=S0.trans bn
   refine hK _ _ S0 ?_
   clear hK K bn
   refine zD 10 11 12 13 14 ?_
   refine aO ?_
   have G8:aA (Gw n0 B most g F (λ_=>False) E E W w6):=ak (xY.o.trans S0)
   have zY:aA (Co w6 b3 r):=ak (nL.o.kp S0.kp (λq=>q))
   have Sj:aA (uy w6 W.heap.size ⟨0,0,0,0,0,0,0,0⟩):=ak (uJ.o.kp S0.kp (λq=>q))
   have SA:aA (iq w6 E T lo sb o pa b p (num E x) k cs v):=ak (xG.o.gw S0 HP.o.wf.wf I9.o (λq=>q) (λ_ _ q=>q))
   clear S0 e0 e3 zI nL xG uJ Je
   go_wp2_with fail
   refine aU (Below w6.heap.size w6) ?_
   obtain⟨we,bU⟩:=ay (w6.drew)
   have S0:Below w6.heap.size w6 we:=by rw[<-bU];exact(af6 _ _).drew
   rw[bU]
   clear bU
   have e3:∀w,Below w6.heap.size w6 w->w.cell? ⟨sb,o+3,none⟩=some (vI i):=λw hw=>by
    have:=(SA.o.below hw).cells.2.2.2.1
    rw[HI.o]at this
    exact this
   have g0:∀w,Below w6.heap.size w6 w->w.cell? ⟨b3,0,none⟩=some (.int .i64 r.kind):=λw hw=>(zY.o.below hw).all.1
   have g1:∀w,Below w6.heap.size w6 w->w.cell? ⟨b3,1,none⟩=some (.int .u8 r.letter):=λw hw=>(zY.o.below hw).all.2.1
   have g2:∀w,Below w6.heap.size w6 w->w.cell? ⟨b3,2,none⟩=some (.int .i64 r.left):=λw hw=>(zY.o.below hw).all.2.2.1
   have g3:∀w,Below w6.heap.size w6 w->w.cell? ⟨b3,3,none⟩=some (.int .i64 r.right):=λw hw=>(zY.o.below hw).all.2.2.2.1
   have g4:∀w,Below w6.heap.size w6 w->w.cell? ⟨b3,4,none⟩=some (.int .i64 r.times):=λw hw=>(zY.o.below hw).all.2.2.2.2.1
   refine bJ 0 1 2 3 4 5 ?_
   refine tk1 6 ?_
   refine aT 7 λK hK=>?_
   go_simp
   try with_reducible refine⟨rfl,?_⟩
   refine agq.2 ((HW.o _).mono ?_)
   rintro e w7 ⟨rfl,bn⟩
   replace S0:=Below.after S0 bn
   refine hK _ _ S0 ?_
   clear hK K bn
   refine tk1 8 ?_
   refine aJ.cK 9 (by kernel_rfl) ?_
   simp only[agr,agj]
   clear e3 g0 g1 g2 g3 g4
   have xH:=Sj.o.below S0
   obtain⟨y0,y1,y2,y3,y4,y5,y6,y7,y8⟩:=xH.all
   have f0:=y8 0;have f1:=y8 1;have f2:=y8 2;have f3:=y8 3;have f4:=y8 4;have f5:=y8 5;have f6:=y8 6;have f7:=y8 7
   obtain⟨lx,hlx⟩:=ay (aQ x)
   obtain⟨wx,hwx⟩:=ay (dK x)
   obtain⟨w8,hw8⟩:∃w',yY w7 W.heap.size ⟨i,r.kind,r.letter,r.left,r.right,r.times,lx,wx⟩=w':=⟨_,rfl⟩
   have k8:uy w8 W.heap.size ⟨i,r.kind,r.letter,r.left,r.right,r.times,lx,wx⟩:=by rw[<-hw8];exact xH.set _
   have g8:w7.grownBy w8 (some W.heap.size):=by rw[<-hw8];exact mZ _ _ _
   have mJ:aA (Gw n0 B most g F (λ_=>False) E E W w8):=ak (((G8.o.trans (Gw.of G8.o.st S0)).free.trans (Gw.put (X:=λq=>W.heap.size<=q) (G8.o.st.below S0) g8 xH (by decide) gJ.o (af7 _))).mono λq hq h=>by omega)
   have HK8:=ak k8
   have HE:aA (frV E x (dK x)=.agg #[.int .i64 i,.int .i64 r.kind,.int .u8 r.letter,.int .i64 r.left,.int .i64 r.right,.int .i64 r.times,.int .i64 lx,.int .i64 wx]):=ak (by rw[<-hlx,<-hwx,<-HI.o,<-HRR.o])
   rw[hlx,hwx]
   simp only[yY]at hw8
   clear S0 xH y8 k8 g8 hlx hwx
   gi_wp2_with fail
   clear hw8 y0 y1 y2 y3 y4 y5 y6 y7 f0 f1 f2 f3 f4 f5 f6 f7
   go_wp2_with fail
   obtain⟨x0,x1,x2,x3,x4,x5,x6,x7,-⟩:=HK8.o.all
   refine af_ (v:=.agg #[.int .i64 i,.int .i64 r.kind,.int .u8 r.letter,.int .i64 r.left,.int .i64 r.right,.int .i64 r.times,.int .i64 lx,.int .i64 wx]) (by simp[results,Tryz.results175,go_sem,x0,x1,x2,x3,x4,x5,x6,x7]) rfl ⟨by rw[HE.o],mJ.o⟩
 .go_simp
  obtain⟨b3,w3,hw3,hb3,S3,R3,l3⟩:=al3 S0
  rw[hw3,hb3]
  refine hK _ _ S3 ?_
  clear S0 hK K hw3 hb3
  have S0:=S3
  clear S3
  refine aT 4 λK hK=>?_
  go_simp
  try with_reducible refine⟨rfl,?_⟩
  refine agq.2 ((iQ (fV.o.below (Below.after DR.o S0))).mono ?_)
  rintro e wn ⟨rfl,rfl⟩
  refine hK _ _ S0 ?_
  clear hK K
  refine aT 9 λK hK=>?_
  go_simp
  try with_reducible refine⟨rfl,?_⟩
  refine agq.2 ((iK (HP.o.below (Below.after DR.o S0)).st pX.o.1 pX.o.2.1 (by have:=HP.o.room;omega)).mono ?_)
  rintro e wn ⟨rfl,bn⟩
  replace S0:=Below.after S0 bn
  try replace R3:=R3.below bn
  rw[pX.o.2.2]
  refine hK _ _ S0 ?_
  clear hK K bn
  refine tk3 10 11 12 ?_
  refine aT 14 λK hK=>?_
  go_simp
  obtain⟨y0,y1,y2,y3,y4,y5⟩:=R3.all
  have f0:=y5 0;have f1:=y5 1;have f2:=y5 2;have f3:=y5 3;have f4:=y5 4
  obtain⟨w5,eH,S5,R5⟩:=st3 S0 R3 l3 r
  go_simp
  refine hK _ _ S5 ?_
  clear y5 R3 S0 eH y0 y1 y2 y3 y4 f0 f1 f2 f3 f4 hK K
  refine tk1 15 ?_
  refine aO ?_
  clear e0 e3
  have nL:=ak R5
  have xY:aA (Gw n0 B most g F (λ_=>False) E E W w5):=ak (Gw.of HP.o (Below.after DR.o S5))
  have Je:aA (iW w5 pa B g):=ak (fV.o.below (Below.after DR.o S5))
  have xG:aA (iq w5 E T lo sb o pa b p (num E x) k cs v):=ak (HR.o.below (Below.after DR.o S5))
  have uJ:aA (uy w5 W.heap.size ⟨0,0,0,0,0,0,0,0⟩):=ak (K1.o.below S5)
  have oG:=ak (show W.heap.size<W1.heap.size/\W1.heap.size<=b3 from⟨(aga.1 K1.o).1,l3⟩)
  have zI:aA (∀w,Gw n0 B most g F (λ_=>False) E E w5 w->Calls Tryz.prog 20 #[.pointer (some ⟨g,0,none⟩),.int .i64 i] w λr w'=>r=.returned (.tuple #[vI (aQ x),.nilIface])/\Gw n0 B most g F (λ_=>False) E E w w'):=ak λw hw=>by
   have:=xA hw.st HX.o.1 HX.o.2
   rw[HI.o]at this
   exact this
  clear R5 S5 l3
  go_wp2_with fail
  refine aU (λw=>Gw n0 B most g F (λ_=>False) E E w5 w) ?_
  obtain⟨we,bU⟩:=ay (w5.drew)
  have S0:Gw n0 B most g F (λ_=>False) E E w5 we:=by rw[<-bU];exact Gw.of xY.o.st (af6 _ _).drew
  rw[bU]
  clear bU
  have e0:∀w,Gw n0 B most g F (λ_=>False) E E w5 w->w.cell? ⟨sb,o,none⟩=some (ku pa):=λw hw=>(xG.o.gw hw HP.o.wf.wf I9.o (λq=>q) (λ_ _ q=>q)).cells.1
  have e3:∀w,Gw n0 B most g F (λ_=>False) E E w5 w->w.cell? ⟨sb,o+3,none⟩=some (vI i):=λw hw=>by
   have:=(xG.o.gw hw HP.o.wf.wf I9.o (λq=>q) (λ_ _ q=>q)).cells.2.2.2.1
   rw[HI.o]at this
   exact this
  refine bJ 0 1 2 3 5 6 ?_
  refine tk2 7 8 ?_
  refine aT 4 λK hK=>?_
  go_simp
  try with_reducible refine⟨rfl,?_⟩
  refine agq.2 ((kT (Je.o.kp S0.kp (λq=>q))).mono ?_)
  rintro e wn ⟨rfl,rfl⟩
  refine hK _ _ S0 ?_
  clear hK K
  refine aT 9 λK hK=>?_
  go_simp
  try with_reducible refine⟨rfl,?_⟩
  refine agq.2 ((zI.o _ S0).mono ?_)
  rintro e w6 ⟨rfl,bn⟩
  replace S0:=S0.trans bn
  refine hK _ _ S0 ?_
  clear hK K bn
  refine zD 10 11 12 13 14 ?_
  refine aO ?_
  have G8:aA (Gw n0 B most g F (λ_=>False) E E W w6):=ak (xY.o.trans S0)
  have zY:aA (Co w6 b3 r):=ak (nL.o.kp S0.kp (λq=>q))
  have Sj:aA (uy w6 W.heap.size ⟨0,0,0,0,0,0,0,0⟩):=ak (uJ.o.kp S0.kp (λq=>q))
  have SA:aA (iq w6 E T lo sb o pa b p (num E x) k cs v):=ak (xG.o.gw S0 HP.o.wf.wf I9.o (λq=>q) (λ_ _ q=>q))
  clear S0 e0 e3 zI nL xG uJ Je
  go_wp2_with fail
  refine aU (Below w6.heap.size w6) ?_
  obtain⟨we,bU⟩:=ay (w6.drew)
  have S0:Below w6.heap.size w6 we:=by rw[<-bU];exact(af6 _ _).drew
  rw[bU]
  clear bU
  have e3:∀w,Below w6.heap.size w6 w->w.cell? ⟨sb,o+3,none⟩=some (vI i):=λw hw=>by
   have:=(SA.o.below hw).cells.2.2.2.1
   rw[HI.o]at this
   exact this
  have g0:∀w,Below w6.heap.size w6 w->w.cell? ⟨b3,0,none⟩=some (.int .i64 r.kind):=λw hw=>(zY.o.below hw).all.1
  have g1:∀w,Below w6.heap.size w6 w->w.cell? ⟨b3,1,none⟩=some (.int .u8 r.letter):=λw hw=>(zY.o.below hw).all.2.1
  have g2:∀w,Below w6.heap.size w6 w->w.cell? ⟨b3,2,none⟩=some (.int .i64 r.left):=λw hw=>(zY.o.below hw).all.2.2.1
  have g3:∀w,Below w6.heap.size w6 w->w.cell? ⟨b3,3,none⟩=some (.int .i64 r.right):=λw hw=>(zY.o.below hw).all.2.2.2.1
  have g4:∀w,Below w6.heap.size w6 w->w.cell? ⟨b3,4,none⟩=some (.int .i64 r.times):=λw hw=>(zY.o.below hw).all.2.2.2.2.1
  refine bJ 0 1 2 3 4 5 ?_
  refine tk1 6 ?_
  refine aT 7 λK hK=>?_
  go_simp
  try with_reducible refine⟨rfl,?_⟩
  refine agq.2 ((HW.o _).mono ?_)
  rintro e w7 ⟨rfl,bn⟩
  replace S0:=Below.after S0 bn
  refine hK _ _ S0 ?_
  clear hK K bn
  refine tk1 8 ?_
  refine aJ.cK 9 (by kernel_rfl) ?_
  simp only[agr,agj]
  clear e3 g0 g1 g2 g3 g4
  have xH:=Sj.o.below S0
  obtain⟨y0,y1,y2,y3,y4,y5,y6,y7,y8⟩:=xH.all
  have f0:=y8 0;have f1:=y8 1;have f2:=y8 2;have f3:=y8 3;have f4:=y8 4;have f5:=y8 5;have f6:=y8 6;have f7:=y8 7
  obtain⟨lx,hlx⟩:=ay (aQ x)
  obtain⟨wx,hwx⟩:=ay (dK x)
  obtain⟨w8,hw8⟩:∃w',yY w7 W.heap.size ⟨i,r.kind,r.letter,r.left,r.right,r.times,lx,wx⟩=w':=⟨_,rfl⟩
  have k8:uy w8 W.heap.size ⟨i,r.kind,r.letter,r.left,r.right,r.times,lx,wx⟩:=by rw[<-hw8];exact xH.set _
  have g8:w7.grownBy w8 (some W.heap.size):=by rw[<-hw8];exact mZ _ _ _
  have mJ:aA (Gw n0 B most g F (λ_=>False) E E W w8):=ak (((G8.o.trans (Gw.of G8.o.st S0)).free.trans (Gw.put (X:=λq=>W.heap.size<=q) (G8.o.st.below S0) g8 xH (by decide) gJ.o (af7 _))).mono λq hq h=>by omega)
  have HK8:=ak k8
  have HE:aA (frV E x (dK x)=.agg #[.int .i64 i,.int .i64 r.kind,.int .u8 r.letter,.int .i64 r.left,.int .i64 r.right,.int .i64 r.times,.int .i64 lx,.int .i64 wx]):=ak (by rw[<-hlx,<-hwx,<-HI.o,<-HRR.o])
  rw[hlx,hwx]
  simp only[yY]at hw8
  clear S0 xH y8 k8 g8 hlx hwx
  gi_wp2_with fail
  clear hw8 y0 y1 y2 y3 y4 y5 y6 y7 f0 f1 f2 f3 f4 f5 f6 f7
  go_wp2_with fail
  obtain⟨x0,x1,x2,x3,x4,x5,x6,x7,-⟩:=HK8.o.all
  refine af_ (v:=.agg #[.int .i64 i,.int .i64 r.kind,.int .u8 r.letter,.int .i64 r.left,.int .i64 r.right,.int .i64 r.times,.int .i64 lx,.int .i64 wx]) (by simp[results,Tryz.results175,go_sem,x0,x1,x2,x3,x4,x5,x6,x7]) rfl ⟨by rw[HE.o],mJ.o⟩
theorem XK(w:World)(f:F8):∃wz w2,w.alloc (.cells #[.int .i64 0,.int .i64 0,.int .u8 0,.int .i64 0,.int .i64 0,.int .i64 0,.int .i64 0,.int .i64 0] 289)=wz/\yY wz w.heap.size f=w2/\uy w2 w.heap.size f/\Below w.heap.size w w2/\
    (wz.cell? ⟨w.heap.size,0,none⟩=some (.int .i64 0)/\wz.cell? ⟨w.heap.size,1,none⟩=some (.int .i64 0)/\wz.cell? ⟨w.heap.size,2,none⟩=some (.int .u8 0)/\wz.cell? ⟨w.heap.size,3,none⟩=some (.int .i64 0)/\wz.cell? ⟨w.heap.size,4,none⟩=some (.int .i64 0)/\wz.cell? ⟨w.heap.size,5,none⟩=some (.int .i64 0)/\wz.cell? ⟨w.heap.size,6,none⟩=some (.int .i64 0)/\wz.cell? ⟨w.heap.size,7,none⟩=some (.int .i64 0))/\
    (wz.frozen? ⟨w.heap.size,0,none⟩=false/\wz.frozen? ⟨w.heap.size,1,none⟩=false/\wz.frozen? ⟨w.heap.size,2,none⟩=false/\wz.frozen? ⟨w.heap.size,3,none⟩=false/\wz.frozen? ⟨w.heap.size,4,none⟩=false/\wz.frozen? ⟨w.heap.size,5,none⟩=false/\wz.frozen? ⟨w.heap.size,6,none⟩=false/\wz.frozen? ⟨w.heap.size,7,none⟩=false):=by
 have k0:uy (w.alloc (.cells #[.int .i64 0,.int .i64 0,.int .u8 0,.int .i64 0,.int .i64 0,.int .i64 0,.int .i64 0,.int .i64 0] 289)) w.heap.size ⟨0,0,0,0,0,0,0,0⟩:=aD _ _
 have b0:Below w.heap.size w (w.alloc (.cells #[.int .i64 0,.int .i64 0,.int .u8 0,.int .i64 0,.int .i64 0,.int .i64 0,.int .i64 0,.int .i64 0] 289)):=(af6 _ _).alloc (af7 _) _
 obtain⟨a0,a1,a2,a3,a4,a5,a6,a7,a8⟩:=k0.all
 refine⟨_,_,rfl,rfl,k0.set f,b0.grown (mZ _ _ _) b0.size (λk e=>by cases e;exact af7 _),⟨a0,a1,a2,a3,a4,a5,a6,a7⟩,a8 0,a8 1,a8 2,a8 3,a8 4,a8 5,a8 6,a8 7⟩
structure Uy(n0 B most g:Nat)(F:List Sy)(E:List En)(W:World)(T:TypeId)(lo sb o pa n:Nat)(b:Bool)(cs:Array Value)(v:Value)(p:gI)(x:Sy)(p':gI)(x':Sy)(k':Nat)(cs':Array Value)(v':Value)(w:World):Prop where
 gw:Gw n0 B most g F (G_ sb v W.heap.size) E E W w
 ed:iq w E T lo sb o pa b p' (num E x') k' cs' v'
 but:lV o cs cs'
 own:pE W.heap.size v v'
 sym:x'∈syms E/\jF x'
 dst:bD b n p' x'=bD b n p x
 len:p'.length+aQ x'<=p.length+aQ x
section
variable {n0 B most g:Nat} {F:List Sy} {E:List En} {W:World} {T:TypeId} {lo sb o pa n:Nat} {b:Bool} {cs:Array Value} {v:Value} {p:gI} {x:Sy} {p':gI} {x':Sy} {k':Nat} {cs':Array Value} {v':Value} {w w':World}
theorem F7{n m:Nat}{a b:Value}(h:pE n a b){q:Nat}(hq:b.ownBlock=some q):G_ m a n q:=by
 rcases h with h|⟨r,h1,h2⟩
 .exact .inr (.inl (by rw[<-h];exact hq))
 .rw[hq]at h1
  cases h1
  exact .inr (.inr h2)
theorem O8{sb n m:Nat}{v v':Value}(h:pE n v v')(hm:n<=m)(q:Nat)(hq:G_ sb v' m q):G_ sb v n q:=by
 rcases hq with q1|q1|q1
 .exact .inl q1
 .exact F7 h q1
 .exact .inr (.inr (by omega))
theorem Uy.next(h:Uy n0 B most g F E W T lo sb o pa n b cs v p x p' x' k' cs' v' w)(hwf:Wf E)(hl:EdL n0 lo sb T)(hg:Gw n0 B most g F (λ_=>False) E E w w'):Uy n0 B most g F E W T lo sb o pa n b cs v p x p' x' k' cs' v' w':=
 ⟨h.gw.trans hg.free,h.ed.gw hg hwf hl.t1 (λq=>q) (λ_ _ q=>q),h.but,h.own,h.sym,h.dst,h.len⟩
theorem Uy.below(h:Uy n0 B most g F E W T lo sb o pa n b cs v p x p' x' k' cs' v' w)(hb:Below w.heap.size w w'):Uy n0 B most g F E W T lo sb o pa n b cs v p x p' x' k' cs' v' w':=
 ⟨h.gw.trans (Gw.of h.gw.st hb),h.ed.below hb,h.but,h.own,h.sym,h.dst,h.len⟩
end
theorem SB{E:List En}{x:Sy}(hwf:Wf E)(hx:x∈syms E)(hok:jF x){n:Nat}(h:n<aQ x)(b:Bool):2<=(aZ x).length/\AA b x (aZ x).length∈syms E/\jF (AA b x (aZ x).length)/\aQ (AA b x (aZ x).length)<aQ x:=by
 have h2:=Ij hok h
 have hg:=AB (b:=b) (y:=x) (h:=(aZ x).length) (by omega) (af7 _)
 have hm:AA b x (aZ x).length∈aZ x:=qp.1 (agE hg)
 exact⟨h2,pz hwf hx hm,wS hok hm,jQ hm⟩
theorem Gw.own{α:Type}{n0 B most g lo:Nat}{F:List Sy}{E:List En}{A C:World}{e:TypeId}{size:Nat}{enc:α->List Value}{v:Value}{l:List α}(h:gV n0 B most g F E A)(hs:aP lo A e size enc v l)(he:e∉Du)(hn:n0<=lo)(hg:A.grownBy C v.ownBlock):Gw n0 B most g F (λq=>v.ownBlock=some q\/A.heap.size<=q) E E A C:=by
 cases hv:v.ownBlock with
 |none=>
  rw[hv]at hg
  exact Gw.of h (Kh hg)
 |some b=>
  rw[hv]at hg
  obtain⟨hb,cur,hc⟩:=hs.blk hv
  exact Gw.put h hg hc he (af9 hn hb) (.inl rfl)
theorem iZ{A C:World}{k:Nat}{row:Option Nat}{o:Obj}(h:A.grownBy C row)(hk:A.heap[k]?=some o)(hne:row≠some k):C.heap[k]?=some o:=by
 rw[h.block k (aga.1 hk).1 (λe=>hne e.symm)];exact hk
theorem iq.push{W w':World}{E:List En}{T:TypeId}{lo sb o pa:Nat}{b:Bool}{p p':gI}{i k:Nat}{cs:Array Value}{v v':Value}(h:iq W E T lo sb o pa b p i k cs v)(hT:T≠289)(hg:W.grownBy w' v.ownBlock)(hp:G9 lo w' E v' p')(hm:∀f∈p',f.1∈syms E/\jF f.1):
    iq (w'.setCell ⟨sb,o+2,none⟩ v') E T lo sb o pa b p' i k (cs.setIfInBounds (o+2) v') v'/\w'.heap[sb]?=some (.cells cs T (0,0)):=by
 have hb:w'.heap[sb]?=some (.cells cs T (0,0)):=iZ hg h.blk (λq=>h.ne hT q rfl)
 exact⟨⟨aC _ hb,by rw[iP (by omega)];exact h.c0,by rw[iP (by omega)];exact h.c1,Cn h.c2,by rw[iP (by omega)];exact h.c3,by rw[iP (by omega)];exact h.c4,hp.setCell _ hb hT,hm⟩,hb⟩
def O9(sb:Nat)(T:TypeId)(cs:Array Value)(gf:Nat)(f:F8)(w:World):Prop:=w.heap[sb]?=some (.cells cs T (0,0))/\uy w gf f
def lvM(v:Value)(w:World):Nat:=match v with
 | .pointer (some a)=>match w.cell? ⟨a.block,6,none⟩with
  |some (.int _ z)=>z.toNat
  |_=>0
 |_=>0
theorem SE{w:World}{g:Nat}{f:F8}(h:uy w g f):lvM (.pointer (some ⟨g,0,none⟩)) w=f.lv:=by
 unfold lvM
 simp only[h.all.2.2.2.2.2.2.1]
 rfl
def Uz(n0 B most g:Nat)(F:List Sy)(E:List En)(A:World)(T:TypeId)(lo sb o pa:Nat)(b:Bool)(p:gI)(i:Nat)(v:Value)(w:World):Prop:=Gw n0 B most g F (λq=>q=sb) E E A w/\∃k cs,iq w E T lo sb o pa b p i k cs v
theorem Jf{n0 B most g:Nat}{F:List Sy}{E:List En}{W:World}(h:gV n0 B most g F E W){T:TypeId}{lo sb o pa:Nat}{b:Bool}{p:gI}{k n:Nat}{cs:Array Value}{v:Value}{x:Sy}(hl:EdL n0 lo sb T)(hp:iW W pa B g)(hr:iq W E T lo sb o pa b p (num E x) k cs v)(hx:x∈syms E)(hok:jF x)(hlen:p.length+aQ x<=1000000):
    Calls Tryz.prog 178 #[.pointer (some ⟨sb,o,none⟩),vI n] W λe w'=>e=.returned (.tuple #[])/\He n0 B most g F E W T lo sb o pa b cs v (some (bD b n p x)) w':=by
 have HF:∀f,Fence.wide.fn f:=λ_=>trivial
 have HP:=ak h;have fV:=ak hp;have HL:=ak hl;have uT:=ak hlen
 have gJ:=ak h.lt;have HX:=ak (hr.pa hl hp)
 have gW:=ak h.wf.wf
 have HD:aA (Uy n0 B most g F E W T lo sb o pa n b cs v p x p x k cs v W):=ak ⟨Gw.of h (af6 _ _),hr,lV.refl _ _,vB _ _,⟨hx,hok⟩,rfl,af7 _⟩
 have iF:=ak hr.lt
 have HOP:=ak (Jd h hl.t1 hp hr hx hok)
 clear h hp hr hx hok hl hlen
 go_enter Tryz.func178,Tryz.ntmps178
 go_wp2_with fail
 refine HOP.o.mono ?_
 rintro e w1 ⟨rfl,hg1⟩
 obtain⟨wz,w2,hz,hs,k2,b2,⟨q0,q1,q2,q3,q4,q5,q6,q7⟩,r0,r1,r2,r3,r4,r5,r6,r7⟩:=XK w1 (frF E x (dK x))
 obtain⟨g4,hg4⟩:=ay (w1.heap.size)
 rw[hg4]at hs k2 q0 q1 q2 q3 q4 q5 q6 q7 r0 r1 r2 r3 r4 r5 r6 r7
 have HD2:=ak ((HD.o.next gW.o HL.o hg1).below b2)
 have nY:=ak (show uy w2 g4 (frF E x (dK x))/\W.heap.size<=g4/\v.ownBlock≠some g4 from⟨k2,by rw[<-hg4];exact hg1.below.size,λq=>by
  have:=(HD.o.ed.Ux q).2
  have:=hg1.below.size
  omega⟩)
 clear hg1 k2 b2 HOP HD
 simp only[yY]at hs
 go_wp2_with fail
 clear hg4 hs hz q0 q1 q2 q3 q4 q5 q6 q7 r0 r1 r2 r3 r4 r5 r6 r7
 go_loopw [4] (λbv wr=>∃(p':gI) (x':Sy) (k':Nat) (cs':Array Value) (v':Value) (gf:Nat),bv=.pointer (some ⟨gf,0,none⟩)/\Uy n0 B most g F E W T lo sb o pa n b cs v p x p' x' k' cs' v' wr/\uy wr gf (frF E x' (dK x'))/\W.heap.size<=gf/\v'.ownBlock≠some gf) (λbv wr=>lvM bv wr)
 case atStart=>
  exact⟨p,x,k,cs,v,_,rfl,HD2.o,nY.o.1,nY.o.2.1,nY.o.2.2⟩
 case round=>
  obtain⟨p',x',k',cs',v',gf,rfl,hD,hf,hgf,hnv⟩:=hrel
  obtain⟨f,pW⟩:=ay (frF E x' (dK x'))
  have aat:f.lv=aQ x':=by rw[<-pW]
  rw[pW]at hf
  have VR:=ak hD;have HFX:=ak hf;have HGF:=ak (And.intro hgf hnv);have lN:=ak pW;have HFL:=ak aat
  have c6:=hf.all.2.2.2.2.2.2.1
  by_cases hn:n<aQ x'
  .have l1:(f.lv:Int)>(n:Int):=by omega
   have l1':(n:Int)<(f.lv:Int):=by omega
   have e2:∀w,O9 sb T cs' gf f w->w.cell? ⟨sb,o+2,none⟩=some v':=λw hw=>by
    have:=hD.ed.c2
    simp only[World.cell?,hw.1]
    simpa using this
   have g0:∀w,O9 sb T cs' gf f w->w.cell? ⟨gf,0,none⟩=some (.int .i64 f.i):=λw hw=>hw.2.all.1
   have g1:∀w,O9 sb T cs' gf f w->w.cell? ⟨gf,1,none⟩=some (.int .i64 f.kd):=λw hw=>hw.2.all.2.1
   have g2:∀w,O9 sb T cs' gf f w->w.cell? ⟨gf,2,none⟩=some (.int .u8 f.lt):=λw hw=>hw.2.all.2.2.1
   have g3:∀w,O9 sb T cs' gf f w->w.cell? ⟨gf,3,none⟩=some (.int .i64 f.l):=λw hw=>hw.2.all.2.2.2.1
   have g4:∀w,O9 sb T cs' gf f w->w.cell? ⟨gf,4,none⟩=some (.int .i64 f.r):=λw hw=>hw.2.all.2.2.2.2.1
   have g5:∀w,O9 sb T cs' gf f w->w.cell? ⟨gf,5,none⟩=some (.int .i64 f.tm):=λw hw=>hw.2.all.2.2.2.2.2.1
   have g6:∀w,O9 sb T cs' gf f w->w.cell? ⟨gf,6,none⟩=some (.int .i64 f.lv):=λw hw=>hw.2.all.2.2.2.2.2.2.1
   have g7:∀w,O9 sb T cs' gf f w->w.cell? ⟨gf,7,none⟩=some (.int .i64 f.h):=λw hw=>hw.2.all.2.2.2.2.2.2.2.1
   have HN:=ak hn
   clear hD hf hgf hnv pW aat hn
   go_wp2_with fail
   clear c6
   refine bM (O9 sb T cs' gf f) (by kernel_rfl) ?_
   obtain⟨we,bU⟩:=ay (wr.drew)
   have hbe:Below wr.heap.size wr we:=by rw[<-bU];exact(af6 _ _).drew
   rw[bU]
   clear bU
   have yZ:=ak (VR.o.below hbe);have HFE:=ak (HFX.o.below hbe)
   have S0:O9 sb T cs' gf f we:=⟨yZ.o.ed.blk,HFE.o⟩
   have Np:aA (lvM (.pointer (some ⟨gf,0,none⟩)) wr=aQ x'):=ak (by rw[SE HFX.o,<-HFL.o])
   clear hbe HFX VR
   refine bJ 0 1 2 3 4 5 ?_
   refine aT 6 λK hK=>?_
   go_simp
   have qI:O9 sb T cs' gf f (we.alloc (.cells #[.int .i64 f.i,.int .i64 f.kd,.int .u8 f.lt,.int .i64 f.l,.int .i64 f.r,.int .i64 f.tm,.int .i64 f.lv,.int .i64 f.h] 289)):=⟨au ((af6 _ _).alloc (af7 _) _) yZ.o.ed.blk,HFE.o.below ((af6 _ _).alloc (af7 _) _)⟩
   refine hK _ _ qI ?_
   clear hK K qI
   obtain⟨v2,w3,hrun,hS2,hgr,hb3,EI⟩:=eB aap (tY E) 245 yZ.o.ed.path (x',dK x') 1 (cs:=#[.int .i64 f.i,.int .i64 f.kd,.int .u8 f.lt,.int .i64 f.l,.int .i64 f.r,.int .i64 f.tm,.int .i64 f.lv,.int .i64 f.h]) (by rw[<-lN.o];rfl) (O5 E _) (by rw[ajw];have:=uT.o;have:=yZ.o.len;omega) (by have:=yZ.o.gw.below.size;have:=iF.o;have:=HL.o.l1;omega)
   obtain⟨a2,n2,cap2,rfl⟩:∃a m c,v2=.slice a m c:=by obtain⟨a,c,h⟩:=hS2.len;exact⟨_,_,_,h⟩
   have hG3:we.grownBy w3 v'.ownBlock:=aM (ahG we _ _) hgr
   have Ey:O9 sb T cs' gf f w3:=⟨iZ hG3 yZ.o.ed.blk (λq=>yZ.o.ed.ne HL.o.t2 q rfl),iZ hG3 HFE.o HGF.o.2⟩
   have HS2:=ak hS2;have qJ:=ak hG3;have HOO:=ak EI;have AO:=ak Ey
   clear hS2 hgr hb3 EI hG3 Ey
   refine aT 7 λK hK=>?_
   simp[execOp,resolve,invoke,builtin,hrun,Result.andThen,Act.eval,Oper.uponIn]
   have aF:=AO.o
   refine hK _ _ aF ?_
   clear hK K hrun
   refine tk2 8 9 ?_
   refine aJ.cK 10 (by kernel_rfl) ?_
   simp only[agr,agj]
   clear e2 g0 g1 g2 g3 g4 g5 g6 g7 S0
   have hk2:=SB gW.o yZ.o.sym.1 yZ.o.sym.2 HN.o b
   have hwk:=zN HN.o
   have hpush:=yZ.o.ed.push HL.o.t2 qJ.o (v':=.slice a2 n2 cap2) (p':=(x',dK x')::p') (by show aP _ _ _ _ _ _ _;rw[ah3];exact HS2.o) (λq hq=>by
    rcases agm.1 hq with rfl|hq
    .exact yZ.o.sym
    .exact yZ.o.ed.mem q hq)
   obtain⟨w4,hw4⟩:=ay (w3.setCell ⟨sb,o+2,none⟩ (.slice a2 n2 cap2))
   rw[hw4]at hpush
   have c2:w3.cell? ⟨sb,o+2,none⟩=some v':=by
    have:=yZ.o.ed.c2
    simp only[World.cell?,hpush.2]
    simpa using this
   have f2:w3.frozen? ⟨sb,o+2,none⟩=false:=by simp[World.frozen?,hpush.2]
   have hg4:w3.grownBy w4 (some sb):=by rw[<-hw4];exact aK _ _ _
   have hP4:=Gw.own yZ.o.gw.st yZ.o.ed.path (by decide) HL.o.l0 qJ.o
   have hgw:Gw n0 B most g F (G_ sb v W.heap.size) E E W w4:=(yZ.o.gw.trans (hP4.mono λq _ hq=>by
    have:=yZ.o.gw.below.size
    rcases hq with hq|hq
    .exact F7 yZ.o.own hq
    .exact .inr (.inr (by omega)))).trans (Gw.put hP4.st hg4 hpush.2 HL.o.t1 (by have:=HL.o.l0;have:=HL.o.l1;omega) (.inl rfl))
   have VT:=ak hgw
   have VU:=ak hpush.1
   have HOW4:aA (pE W.heap.size v (.slice a2 n2 cap2)):=ak (zM yZ.o.own HOO.o yZ.o.gw.below.size)
   have HBU4:=ak (yZ.o.but.trans (lV.set (o:=o) (j:=o+2) (by omega) (by omega) (.slice a2 n2 cap2)))
   have SF:aA (uy w4 gf f):=ak (aI hg4 AO.o.2 (by
    rintro rfl
    have e1:=HFE.o
    have e2:=yZ.o.ed.blk
    unfold uy at e1
    rw[e1]at e2
    injection e2 with e2;injection e2 with _ e2 _
    exact HL.o.t2 e2.symm))
   obtain⟨c,hc⟩:=ay (AA b x' (aZ x').length)
   rw[hc]at hk2
   have UA:=ak hc
   have aav:=ak hk2
   have HCH:aA (∀w,Calls Tryz.prog 177 #[.agg #[.int .i64 f.i,.int .i64 f.kd,.int .u8 f.lt,.int .i64 f.l,.int .i64 f.r,.int .i64 f.tm,.int .i64 f.lv,.int .i64 f.h],.bool b] w λe w'=>e=.returned (vI (num E c))/\Below w.heap.size w w'):=ak λw=>by
    have:=EH (W:=w) E (y:=x') (h:=dK x') b (by rw[hwk];omega) (by rw[hwk];exact af7 _)
    rw[hwk,hc,<-hwk]at this
    rw[<-lN.o]
    exact this
   have HDT:aA (bD b n ((x',dK x')::p') c=bD b n p x/\((x',dK x')::p').length+aQ c<=p.length+aQ x):=ak (by
    have h1:=yZ.o.dst
    have h2:=yZ.o.len
    rw[uZ HN.o,hc,<-hwk]at h1
    refine⟨h1,?_⟩
    rw[agc];omega)
   clear hk2 hwk hpush hg4 hP4 hgw hc HS2 qJ HOO AO
   gi_wp2_with fail
   refine NP.normal ?_
   clear hw4 c2 f2
   go_wp2_with fail
   refine aU (Below w4.heap.size w4) ?_
   obtain⟨wf,hwf⟩:=ay (w4.drew)
   have S0:Below w4.heap.size w4 wf:=by rw[<-hwf];exact(af6 _ _).drew
   rw[hwf]
   clear hwf
   have e1:∀w,Below w4.heap.size w4 w->w.cell? ⟨sb,o+1,none⟩=some (.bool b):=λw hw=>(VU.o.below hw).cells.2.1
   have g0:∀w,Below w4.heap.size w4 w->w.cell? ⟨gf,0,none⟩=some (.int .i64 f.i):=λw hw=>(SF.o.below hw).all.1
   have g1:∀w,Below w4.heap.size w4 w->w.cell? ⟨gf,1,none⟩=some (.int .i64 f.kd):=λw hw=>(SF.o.below hw).all.2.1
   have g2:∀w,Below w4.heap.size w4 w->w.cell? ⟨gf,2,none⟩=some (.int .u8 f.lt):=λw hw=>(SF.o.below hw).all.2.2.1
   have g3:∀w,Below w4.heap.size w4 w->w.cell? ⟨gf,3,none⟩=some (.int .i64 f.l):=λw hw=>(SF.o.below hw).all.2.2.2.1
   have g4:∀w,Below w4.heap.size w4 w->w.cell? ⟨gf,4,none⟩=some (.int .i64 f.r):=λw hw=>(SF.o.below hw).all.2.2.2.2.1
   have g5:∀w,Below w4.heap.size w4 w->w.cell? ⟨gf,5,none⟩=some (.int .i64 f.tm):=λw hw=>(SF.o.below hw).all.2.2.2.2.2.1
   have g6:∀w,Below w4.heap.size w4 w->w.cell? ⟨gf,6,none⟩=some (.int .i64 f.lv):=λw hw=>(SF.o.below hw).all.2.2.2.2.2.2.1
   have g7:∀w,Below w4.heap.size w4 w->w.cell? ⟨gf,7,none⟩=some (.int .i64 f.h):=λw hw=>(SF.o.below hw).all.2.2.2.2.2.2.2.1
   refine bJ 0 1 2 3 4 5 ?_
   refine aT 6 λK hK=>?_
   go_simp
   try with_reducible refine⟨rfl,?_⟩
   refine agq.2 ((HCH.o _).mono ?_)
   rintro e w5 ⟨rfl,bn⟩
   replace S0:=Below.after S0 bn
   refine hK _ _ S0 ?_
   clear hK K bn
   refine tk2 7 8 ?_
   refine aJ.cK 9 (by kernel_rfl) ?_
   simp only[agr,agj]
   clear e1 g0 g1 g2 g3 g4 g5 g6 g7
   have F9:=VU.o.below S0
   obtain⟨-,-,-,c3,-,f6⟩:=F9.cells
   have f3:=f6 (o+3)
   obtain⟨nc,hnc⟩:=ay (num E c)
   have Jg:=F9.id HL.o.t2 nc
   obtain⟨w6,dH⟩:=ay (w5.setCell ⟨sb,o+3,none⟩ (vI nc))
   rw[dH]at Jg
   have lu:w5.grownBy w6 (some sb):=by rw[<-dH];exact aK _ _ _
   have aaw:aA (Gw n0 B most g F (G_ sb v W.heap.size) E E W w6):=ak ((VT.o.trans (Gw.of VT.o.st S0)).trans (Gw.put (VT.o.st.below S0) lu F9.blk HL.o.t1 (by have:=HL.o.l0;have:=HL.o.l1;omega) (.inl rfl)))
   have HD6:aA (Uy n0 B most g F E W T lo sb o pa n b cs v p x ((x',dK x')::p') c k' ((cs'.setIfInBounds (o+2) (.slice a2 n2 cap2)).setIfInBounds (o+3) (vI nc)) (.slice a2 n2 cap2) w6):=ak ⟨aaw.o,by rw[hnc];exact Jg,HBU4.o.trans (lV.set (by omega) (by omega) _),HOW4.o,aav.o.2.1 |>λq=>⟨q,aav.o.2.2.1⟩,HDT.o.1,HDT.o.2⟩
   have HF6:aA (uy w6 gf f):=ak (aI lu (SF.o.below S0) (by
    rintro rfl
    have e1:=SF.o
    have e2:=VU.o.blk
    unfold uy at e1
    rw[e1]at e2
    injection e2 with e2;injection e2 with _ e2 _
    exact HL.o.t2 e2.symm))
   rw[hnc]
   clear F9 Jg f6 lu hnc S0 VU SF VT
   gi_wp2_with fail
   clear dH c3 f3
   obtain⟨x0,x1,x2,x3,x4,x5,x6,x7,-⟩:=HF6.o.all
   obtain⟨wz,w7,hz,hs,k7,b7,⟨q0,q1,q2,q3,q4,q5,q6,q7⟩,r0,r1,r2,r3,r4,r5,r6,r7⟩:=XK w6 f
   obtain⟨g6,lu⟩:=ay (w6.heap.size)
   rw[lu]at hs k7 q0 q1 q2 q3 q4 q5 q6 q7 r0 r1 r2 r3 r4 r5 r6 r7
   have HD7:=ak (HD6.o.below b7);have xH:=ak k7
   have Qd:aA (W.heap.size<=g6/\(Value.slice a2 n2 cap2).ownBlock≠some g6/\g6≠sb):=ak ⟨by rw[<-lu];exact aaw.o.below.size,λq=>by
    have:=(HD6.o.ed.Ux q).2
    omega,λq=>by have:=HD6.o.ed.lt;omega⟩
   have HOP:=ak (Jd HD7.o.gw.st HL.o.t1 (fV.o.kp HD7.o.gw.kp HX.o) HD7.o.ed HD7.o.sym.1 HD7.o.sym.2)
   simp only[yY]at hs
   clear k7 b7 HD6 HF6 aaw
   go_wp2_with fail
   clear lu hz hs x0 x1 x2 x3 x4 x5 x6 x7 q0 q1 q2 q3 q4 q5 q6 q7 r0 r1 r2 r3 r4 r5 r6 r7
   refine HOP.o.mono ?_
   rintro e w8 ⟨rfl,EJ⟩
   have hk8:=xH.o.kp EJ.kp (λq=>q)
   obtain⟨x0,x1,x2,x3,x4,x5,x6,x7,x8⟩:=hk8.all
   have f0:=x8 0;have f1:=x8 1;have f2:=x8 2;have f3:=x8 3;have f4:=x8 4;have f5:=x8 5;have f6:=x8 6;have f7:=x8 7
   have J7:=HD7.o.next gW.o HL.o EJ
   obtain⟨w9,dI⟩:=ay (yY w8 g6 (frF E c (dK c)))
   have DW:w8.grownBy w9 (some g6):=by rw[<-dI];exact mZ _ _ _
   have HF9:aA (uy w9 g6 (frF E c (dK c))):=ak (by rw[<-dI];exact hk8.set _)
   have HD9:aA (Uy n0 B most g F E W T lo sb o pa n b cs v p x ((x',dK x')::p') c k' ((cs'.setIfInBounds (o+2) (.slice a2 n2 cap2)).setIfInBounds (o+3) (vI nc)) (.slice a2 n2 cap2) w9):=ak ⟨J7.gw.trans (Gw.put J7.gw.st DW hk8 (by decide) (by have:=Qd.o.1;have:=gJ.o;omega) (.inr (.inr Qd.o.1))),⟨aI DW J7.ed.blk (λq=>Qd.o.2.2 q.symm),J7.ed.c0,J7.ed.c1,J7.ed.c2,J7.ed.c3,J7.ed.c4,J7.ed.path.grown DW (.inr Qd.o.2.1),J7.ed.mem⟩,J7.but,J7.own,J7.sym,J7.dst,J7.len⟩
   simp only[yY]at dI
   clear EJ hk8 x8 J7 DW xH HD7 HOP
   go_wp2_with fail
   go_roundw
   case rel=>exact⟨_,c,k',_,_,g6,rfl,HD9.o,HF9.o,Qd.o.1,Qd.o.2.1⟩
   case measure=>
    rw[Np.o,SE HF9.o]
    exact aav.o.2.2.2
  .have l1:¬(f.lv:Int)>(n:Int):=by omega
   have hdn:(p',x')=bD b n p x:=by rw[<-hD.dst,yH (by omega)]
   have Qe:=ak hdn
   obtain⟨ix,hix⟩:=ay (num E x')
   obtain⟨kx,hkx⟩:=ay (key x')
   have hde:=hD.ed
   rw[hix]at hde
   have e0:∀w,Uz n0 B most g F E wr T lo sb o pa b p' ix v' w->w.cell? ⟨sb,o,none⟩=some (ku pa):=λw hw=>by
    obtain⟨-,k2,c2,h2⟩:=hw
    exact h2.cells.1
   have e3:∀w,Uz n0 B most g F E wr T lo sb o pa b p' ix v' w->w.cell? ⟨sb,o+3,none⟩=some (vI ix):=λw hw=>by
    obtain⟨-,k2,c2,h2⟩:=hw
    exact h2.cells.2.2.2.1
   have yZ:=ak hde;have HIX:=ak (And.intro hix hkx)
   have HKE:aA (∀w,Gw n0 B most g F (λ_=>False) E E wr w->Calls Tryz.prog 171 #[.pointer (some ⟨g,0,none⟩),.int .i64 ix] w λr w'=>r=.returned (.tuple #[vK kx,.nilIface])/\Gw n0 B most g F (λ_=>False) E E w w'):=ak λw hw=>by
    have:=Ci hw.st VR.o.sym.1
    rw[hix,hkx]at this
    exact this
   clear hD hf hgf hnv pW aat hn hdn hde hix hkx
   go_wp2_with fail
   clear c6
   refine aU (Uz n0 B most g F E wr T lo sb o pa b p' ix v') ?_
   obtain⟨we,bU⟩:=ay (wr.drew)
   have S0:Gw n0 B most g F (λ_=>False) E E wr we:=by rw[<-bU];exact Gw.of VR.o.gw.st (af6 _ _).drew
   have T0:Uz n0 B most g F E wr T lo sb o pa b p' ix v' we:=⟨S0.free,k',cs',yZ.o.gw S0 gW.o HL.o.t1 (λq=>q) (λ_ _ q=>q)⟩
   rw[bU]
   clear bU
   refine bJ 0 1 2 3 4 6 ?_
   refine tk3 7 8 9 ?_
   refine aT 5 λK hK=>?_
   go_simp
   try with_reducible refine⟨rfl,?_⟩
   refine agq.2 ((kT ((fV.o.kp VR.o.gw.kp HX.o).kp S0.kp (λq=>q))).mono ?_)
   rintro e wn ⟨rfl,rfl⟩
   refine hK _ _ T0 ?_
   clear hK K
   refine aT 10 λK hK=>?_
   go_simp
   try with_reducible refine⟨rfl,?_⟩
   refine agq.2 ((HKE.o _ S0).mono ?_)
   rintro e w3 ⟨rfl,bn⟩
   replace S0:=S0.trans bn
   have h3:=yZ.o.gw S0 gW.o HL.o.t1 (λq=>q) (λ_ _ q=>q)
   have T3:Uz n0 B most g F E wr T lo sb o pa b p' ix v' w3:=⟨S0.free,k',cs',h3⟩
   refine hK _ _ T3 ?_
   have H3:=ak h3
   clear hK K bn T0 h3
   refine zD 11 12 13 14 15 ?_
   refine aT 16 λK hK=>?_
   go_simp
   obtain⟨-,-,-,-,c4,f6⟩:=H3.o.cells
   have f4:=f6 (o+4)
   obtain⟨w4,hw4⟩:=ay (w3.setCell ⟨sb,o+4,none⟩ (.int .u64 kx))
   have h4:=H3.o.key HL.o.t2 kx
   have hg4:w3.grownBy w4 (some sb):=by rw[<-hw4];exact aK _ _ _
   have hG4:=Gw.put (F:=F) (X:=λq=>q=sb) S0.st hg4 H3.o.blk HL.o.t1 (by have:=HL.o.l0;have:=HL.o.l1;omega) rfl
   have h4':iq w4 E T lo sb o pa b p' ix kx (cs'.setIfInBounds (o+4) (vK kx)) v':=by rw[<-hw4];exact h4
   go_simp
   refine hK _ _ ⟨S0.free.trans hG4,_,_,h4'⟩ ?_
   have H4:=ak h4';have xZ:=ak hG4
   clear hK K f6 h4 h4' hg4 hG4 hw4 c4 f4
   refine aO ?_
   clear e0 e3
   have HR:aA (He n0 B most g F E W T lo sb o pa b cs v (some (bD b n p x)) w4):=ak (by
    refine⟨_,v',⟨?_,λp2 x2 e=>?_⟩,VR.o.but.trans (lV.set (o:=o) (j:=o+4) (by omega) (by omega) (vK kx)),VR.o.own,(VR.o.gw.trans S0.free).trans (xZ.o.mono λq _ hq=> .inl hq)⟩
    .rw[<-Qe.o]
     show iq w4 E T lo sb o pa b p' (num E x') (key x') _ _
     rw[HIX.o.1,HIX.o.2];exact H4.o
    .rw[<-Qe.o]at e
     injection e with e
     injection e with e1 e2
     rw[<-e2];exact VR.o.sym)
   clear S0 H3 H4 xZ T3
   go_wp2_with fail
   go_end0
   exact⟨rfl,HR.o⟩
end M
end
end Go.Proofs.YtgbhohfabhilgaaGreatDoor
