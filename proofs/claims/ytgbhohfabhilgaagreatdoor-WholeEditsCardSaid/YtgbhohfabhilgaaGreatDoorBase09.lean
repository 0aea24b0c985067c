import Derived.Test.YtgbhohfabhilgaaGreatDoorBase08
set_option maxRecDepth 100000
set_option maxHeartbeats 8000000
set_option linter.unusedVariables false
set_option linter.unusedSimpArgs false
namespace Go.Proofs.YtgbhohfabhilgaaGreatDoor
section
open Go.RowKit
namespace M
attribute [local go_sem] Oper.semAt_some
variable{E:List En}{B d' k l most n0 r:Nat}{W:World}
theorem fq.zero(W:World):fq (W.alloc (.cells #[.int .i64 0,.int .u8 0,.int .i64 0,.int .i64 0,.int .i64 0,.int .i64 0,.int .i64 0,.int .i64 0,.int .i64 0,.int .u64 0,.int .u64 0,.int .i64 0,.bool false] 136)) W.heap.size en0:=aD _ _
theorem wM{u:Wt}{d:Int}{b b':Bool}(hd:d=(d':Int))(hb:b=b'):Value.agg #[.int .i64 2,.int .u8 0,.int .i64 l,.int .i64 r,.int .i64 0,.int .i64 u.len,.int .i64 u.lines,.int .i64 u.head,.int .i64 u.tail,.int .u64 u.d.v,.int .u64 u.d.s,.int .i64 d,.bool b]=DF ⟨⟨2,0,l,r,0⟩,u,d',b'⟩:=by rw[hd,hb];rfl
theorem o7{P:Program}{f:FuncId}{p v v':Value}{w:World}{Q:Ending->World->Prop}(e:v=v')(h:Calls P f #[p,v'] w Q):Calls P f #[p,v] w Q:=by rw[e];exact h
theorem Mq:err 2=.iface 116 (.int .i64 2):=rfl
def gN(E:List En)(l r:Nat):En:=⟨⟨2,0,l,r,0⟩,lF (aF E l).w (aF E r).w,1+max (aF E l).depth (aF E r).depth,(aF E l).even&&(aF E r).even&&decide (-1<=((aF E l).depth:Int)-(aF E r).depth)&&decide (((aF E l).depth:Int)-(aF E r).depth<=1)⟩
def iM(E:List En)(l r:Nat):List En×Nat×Int:=
 if l=0 then(E,r,0)else if r=0 then(E,l,0)else if(aF E l).w.len+(aF E r).w.len<=1152921504606846976 then((fA E (gN E l r)).1,(fA E (gN E l r)).2,0)else(E,0,2)
theorem Oe(h:aW n0 W B most E)(hwf:Wf E)(hl0:0<l)(hr0:0<r)(hl:l<=E.length)(hr:r<=E.length)(hroom:E.length<most)(hE:E.length<=1048575):
    Calls Tryz.prog 129 #[.pointer (some ⟨B,0,none⟩),.int .i64 l,.int .i64 r] W λx w'=>x=.returned (.tuple #[.int .i64 (iM E l r).2.1,lS (iM E l r).2.2])/\aW n0 w' B most (iM E l r).1/\Below n0 W w'/\Kt B W w':=by
 have HF:∀f,Fence.wide.fn f:=λ_=>trivial
 have hlt:=h.lt
 have iI:=ak hlt
 have wN:=ak (fH h (l:Int));have nY:=ak (fH h (r:Int))
 rw[agw (show 0<=(l:Int)/\(l:Int)<=(E.length:Int) by omega)]at wN
 rw[agw (show 0<=(r:Int)/\(r:Int)<=(E.length:Int) by omega)]at nY
 have g1:=hwf.get l hl0 hl;have g2:=hwf.get r hr0 hr
 have HA1:=ak (rC h hl (by omega))
 obtain⟨a,ha⟩:=ay (aF E l)
 obtain⟨b,hb⟩:=ay (aF E r)
 have Og:aA (Dz a.w/\a.depth<=E.length):=ak ⟨by rw[<-ha,g1.1];exact Mj g1.2.1,by rw[<-ha];have:=g1.2.2.2;omega⟩
 have Zv:aA (Dz b.w/\b.depth<=E.length):=ak ⟨by rw[<-hb,g2.1];exact Mj g2.2.1,by rw[<-hb];have:=g2.2.2.2;omega⟩
 have HPF:aA (iM E l r=if a.w.len+b.w.len<=1152921504606846976 then((fA E (gN E l r)).1,(fA E (gN E l r)).2,0)else(E,0,2)):=ak (by unfold iM;rw[af4 (by omega),af4 (by omega),ha,hb])
 have Um:aA (gN E l r=⟨⟨2,0,l,r,0⟩,lF a.w b.w,1+max a.depth b.depth,a.even&&b.even&&decide (-1<=(a.depth:Int)-b.depth)&&decide ((a.depth:Int)-b.depth<=1)⟩):=ak (by unfold gN;rw[ha,hb])
 have HHB:=ak hb
 rw[ha]at HA1
 unfold DF at HA1
 have H:=ak h
 have l0:((l:Int)==0)=false:=by simp;omega
 have r0:((r:Int)==0)=false:=by simp;omega
 have HI:=ak (And.intro hroom (And.intro hE (And.intro hl hr)))
 clear g1 g2 ha hb hlt h hwf hroom hl hr
 rw[HPF.o]
 by_cases hs:a.w.len+b.w.len<=1152921504606846976
 case' _=>
  rw[af5 hs]
  have uh:=ak hs
  obtain⟨f,hf⟩:=ay (fid (gN E l r).ru 1 E)
  have mW:(gN E l r).ru=⟨2,0,l,r,0⟩:=rfl
  rw[mW]at hf
  have PY:=ak hf
  have Xn:aA (fA E (gN E l r)=if f=0 then(E++[gN E l r],E.length+1)else(E,f)):=ak (by unfold fA;rw[mW,hf])
  rw[Xn.o]
  clear hf mW
  by_cases hf0:f=0
  case' _=>
   rw[af5 hf0]
   subst hf0
  rotate_left
  case' _=>
   rw[af4 hf0]
   have hfn:((f:Int) !=0)=true:=by simp;omega
  rotate_left
 rotate_left 2
 case' _=>
  rw[af4 hs]
 rotate_left
 all_goals
  go_enter Tryz.func129,Tryz.ntmps129
  go_wp2_with fail
  refine wN.o.mono ?_;rintro x w ⟨rfl,h⟩;rw[h];clear h w
  go_wp2_with fail
  refine nY.o.mono ?_;rintro x w ⟨rfl,h⟩;rw[h];clear h w
  go_wp2_with fail
  refine HA1.o.mono ?_;rintro x w1 ⟨rfl,b1⟩
  have HA2:=ak (rC (H.o.below b1) HI.o.2.2.2 (by omega))
  rw[HHB.o]at HA2
  unfold DF at HA2
  have B1:=ak b1
  clear b1
  go_wp2_with fail
  refine HA2.o.mono ?_;rintro x w2 ⟨rfl,b2⟩
  have B2:=ak (Below.after B1.o b2)
  clear b2
  obtain⟨Wz,uV⟩:=ay ((w2.alloc (.cells #[.int .i64 0,.int .u8 0,.int .i64 0,.int .i64 0,.int .i64 0,.int .i64 0,.int .i64 0,.int .i64 0,.int .i64 0,.int .u64 0,.int .u64 0,.int .i64 0,.bool false] 136)).alloc (.cells #[.int .i64 0,.int .u8 0,.int .i64 0,.int .i64 0,.int .i64 0,.int .i64 0,.int .i64 0,.int .i64 0,.int .i64 0,.int .u64 0,.int .u64 0,.int .i64 0,.bool false] 136))
  obtain⟨g,hg⟩:=ay (w2.heap.size)
  have bz:Below w2.heap.size w2 Wz:=by rw[<-uV];exact((af6 _ _).alloc (af7 _) _).alloc (by simp) _
  have z1:fq Wz g en0:=by rw[<-uV,<-hg];exact au ((af6 _ _).alloc (af7 _) _) (fq.zero w2)
  have z2:fq Wz (g+1) en0:=by
   rw[<-uV,<-hg]
   have:=fq.zero (w2.alloc (.cells #[.int .i64 0,.int .u8 0,.int .i64 0,.int .i64 0,.int .i64 0,.int .i64 0,.int .i64 0,.int .i64 0,.int .i64 0,.int .u64 0,.int .u64 0,.int .i64 0,.bool false] 136))
   rw[ag1]at this
   exact this
  obtain⟨WA,H_⟩:=ay (oW Wz g a)
  have kA:fq WA g a:=by rw[<-H_];exact z1.set a
  have bA:Below w2.heap.size w2 WA:=by rw[<-H_];exact eO bz (by omega) a
  have zA:fq WA (g+1) en0:=by
   rw[<-H_]
   exact aB (by omega) (aB (by omega) (aB (by omega) (aB (by omega) (aB (by omega) (aB (by omega) (aB (by omega) (aB (by omega) (aB (by omega) (aB (by omega) (aB (by omega) (aB (by omega) (aB (by omega) (z2)))))))))))))
  obtain⟨w3,hw3⟩:=ay (oW WA (g+1) b)
  have kB:fq w3 (g+1) b:=by rw[<-hw3];exact zA.set b
  have kA3:fq w3 g a:=by
   rw[<-hw3]
   exact aB (by omega) (aB (by omega) (aB (by omega) (aB (by omega) (aB (by omega) (aB (by omega) (aB (by omega) (aB (by omega) (aB (by omega) (aB (by omega) (aB (by omega) (aB (by omega) (aB (by omega) (kA)))))))))))))
  have b3:Below w2.heap.size w2 w3:=by rw[<-hw3];exact eO bA (by omega) b
  have U4:=ak kA3;have HB3:=ak kB;have B3:=ak (Below.after B2.o b3)
  obtain⟨p0,p1,p2,p3,p4,p5,p6,p7,p8,p9,QI,QJ,QK⟩:Wz.cell? ⟨g,0,none⟩=some (.int .i64 0)/\Wz.cell? ⟨g,1,none⟩=some (.int .u8 0)/\Wz.cell? ⟨g,2,none⟩=some (.int .i64 0)/\Wz.cell? ⟨g,3,none⟩=some (.int .i64 0)/\Wz.cell? ⟨g,4,none⟩=some (.int .i64 0)/\Wz.cell? ⟨g,5,none⟩=some (.int .i64 0)/\Wz.cell? ⟨g,6,none⟩=some (.int .i64 0)/\Wz.cell? ⟨g,7,none⟩=some (.int .i64 0)/\Wz.cell? ⟨g,8,none⟩=some (.int .i64 0)/\Wz.cell? ⟨g,9,none⟩=some (.int .u64 0)/\Wz.cell? ⟨g,10,none⟩=some (.int .u64 0)/\Wz.cell? ⟨g,11,none⟩=some (.int .i64 0)/\Wz.cell? ⟨g,12,none⟩=some (.bool false):=z1.cells
  have QL:=z1.free 0;have QM:=z1.free 1;have QN:=z1.free 2;have QO:=z1.free 3;have QP:=z1.free 4;have QQ:=z1.free 5;have QS:=z1.free 6;have QT:=z1.free 7;have QU:=z1.free 8;have QV:=z1.free 9;have Bu:=z1.free 10;have Bv:=z1.free 11;have Bw:=z1.free 12
  obtain⟨q0,q1,q2,q3,q4,q5,q6,q7,q8,q9,Zq,Zr,Zt⟩:WA.cell? ⟨g+1,0,none⟩=some (.int .i64 0)/\WA.cell? ⟨g+1,1,none⟩=some (.int .u8 0)/\WA.cell? ⟨g+1,2,none⟩=some (.int .i64 0)/\WA.cell? ⟨g+1,3,none⟩=some (.int .i64 0)/\WA.cell? ⟨g+1,4,none⟩=some (.int .i64 0)/\WA.cell? ⟨g+1,5,none⟩=some (.int .i64 0)/\WA.cell? ⟨g+1,6,none⟩=some (.int .i64 0)/\WA.cell? ⟨g+1,7,none⟩=some (.int .i64 0)/\WA.cell? ⟨g+1,8,none⟩=some (.int .i64 0)/\WA.cell? ⟨g+1,9,none⟩=some (.int .u64 0)/\WA.cell? ⟨g+1,10,none⟩=some (.int .u64 0)/\WA.cell? ⟨g+1,11,none⟩=some (.int .i64 0)/\WA.cell? ⟨g+1,12,none⟩=some (.bool false):=zA.cells
  have qf0:=zA.free 0;have qf1:=zA.free 1;have qf2:=zA.free 2;have qf3:=zA.free 3;have qf4:=zA.free 4;have qf5:=zA.free 5;have qf6:=zA.free 6;have qf7:=zA.free 7;have qf8:=zA.free 8;have qf9:=zA.free 9;have QW:=zA.free 10;have QX:=zA.free 11;have QY:=zA.free 12
  simp only[oW]at H_ hw3
  obtain⟨x0,x1,x2,x3,x4,x5,x6,x7,x8,x9,x10,vV,vW⟩:=kA3.cells
  obtain⟨y0,y1,y2,y3,y4,y5,y6,y7,y8,y9,U0,U1,U2⟩:=kB.cells
  clear bz z1 z2 kA bA zA kB kA3 b3
  go_wp2_with fail
 rotate_left 2
 .refine(lD w3 Og.o.1.le Zv.o.1.le).mono ?_;rintro x w ⟨rfl,h⟩;rw[h,af4 hs,Mq];clear h w
  clear uV H_ hw3 p0 p1 p2 p3 p4 p5 p6 p7 p8 p9 QI QJ QK QL QM QN QO QP QQ QS QT QU QV Bu Bv Bw q0 q1 q2 q3 q4 q5 q6 q7 q8 q9 Zq Zr Zt qf0 qf1 qf2 qf3 qf4 qf5 qf6 qf7 qf8 qf9 QW QX QY
  go_wp2_with fail
  go_ret2
  exact⟨rfl,H.o.below B3.o,B3.o.mono iI.o,Kt.of B3.o⟩
 all_goals
  refine(lD w3 Og.o.1.le Zv.o.1.le).mono ?_;rintro x w ⟨rfl,h⟩;rw[h,af5 uh.o];clear h w
  clear uV H_ hw3 p0 p1 p2 p3 p4 p5 p6 p7 p8 p9 QI QJ QK QL QM QN QO QP QQ QS QT QU QV Bu Bv Bw q0 q1 q2 q3 q4 q5 q6 q7 q8 q9 Zq Zr Zt qf0 qf1 qf2 qf3 qf4 qf5 qf6 qf7 qf8 qf9 QW QX QY
  obtain⟨Wr,Kr⟩:=ay (w3.alloc (.cells #[.int .i64 0,.int .u8 0,.int .i64 0,.int .i64 0,.int .i64 0] 50))
  obtain⟨rg,hrg⟩:=ay (w3.heap.size)
  have rE:eP Wr rg ⟨0,0,0,0,0⟩:=by rw[<-Kr,<-hrg];exact aD _ _
  have QZ:Below w3.heap.size w3 Wr:=by rw[<-Kr];exact(af6 _ _).alloc (af7 _) _
  obtain⟨z0,z1,z2,z3,z4⟩:Wr.cell? ⟨rg,0,none⟩=some (.int .i64 0)/\Wr.cell? ⟨rg,1,none⟩=some (.int .u8 0)/\Wr.cell? ⟨rg,2,none⟩=some (.int .i64 0)/\Wr.cell? ⟨rg,3,none⟩=some (.int .i64 0)/\Wr.cell? ⟨rg,4,none⟩=some (.int .i64 0):=rE.cells
  have s0:=rE.free 0;have s1:=rE.free 1;have s2:=rE.free 2;have s3:=rE.free 3;have s4:=rE.free 4
  obtain⟨w4,hw4⟩:=ay (((((Wr.setCell ⟨rg,0,none⟩ (.int .i64 2)).setCell ⟨rg,1,none⟩ (.int .u8 0)).setCell ⟨rg,2,none⟩ (.int .i64 l)).setCell ⟨rg,3,none⟩ (.int .i64 r)).setCell ⟨rg,4,none⟩ (.int .i64 0))
  have k4:eP w4 rg ⟨2,0,l,r,0⟩:=by rw[<-hw4];exact rE.set ⟨2,0,l,r,0⟩
  have b4:Below w3.heap.size w3 w4:=by
   rw[<-hw4]
   exact((((QZ.setCell (p:=⟨rg,0,none⟩) (by dsimp only;omega) _).setCell (p:=⟨rg,1,none⟩) (by dsimp only;omega) _).setCell (p:=⟨rg,2,none⟩) (by dsimp only;omega) _).setCell (p:=⟨rg,3,none⟩) (by dsimp only;omega) _).setCell (p:=⟨rg,4,none⟩) (by dsimp only;omega) _
  have HR4:=ak k4;have B4:=ak (Below.after B3.o b4)
  have Zw:=ak (au b4 U4.o);have cB:=ak (au b4 HB3.o)
  obtain⟨c0,c1,c2,c3,c4⟩:w4.cell? ⟨rg,0,none⟩=some (.int .i64 2)/\w4.cell? ⟨rg,1,none⟩=some (.int .u8 0)/\w4.cell? ⟨rg,2,none⟩=some (.int .i64 l)/\w4.cell? ⟨rg,3,none⟩=some (.int .i64 r)/\w4.cell? ⟨rg,4,none⟩=some (.int .i64 0):=k4.cells
  have mF:aA (Ru.ok ⟨2,0,l,r,0⟩):=ak ⟨by show 2<=_;omega,by show 0<=255;omega,by show l<=_;have:=HI.o.2.2.1;omega,by show r<=_;have:=HI.o.2.2.2;omega,agb _⟩
  have jZ:=ak (rD (H.o.below B4.o) mF.o)
  rw[PY.o]at jZ
 case' _=>
  rw[af4 (λh=>by have:=h.2;have:=HI.o.1;omega)]at jZ
 rotate_left
 case' _=>
  rw[af4 (λh=>hf0 h.1)]at jZ
 rotate_left
 all_goals
  clear rE QZ k4 b4
  go_wp2_with fail
  refine jZ.o.mono ?_;rintro x w5 ⟨rfl,b5⟩
  have B5:=ak (Below.after B4.o b5)
  have Zx:=ak (au b5 Zw.o);have mG:=ak (au b5 cB.o);have nL:=ak (au b5 HR4.o)
  clear Kr hw4 z0 z1 z2 z3 z4 s0 s1 s2 s3 s4 c0 c1 c2 c3 c4 b5 x0 x1 x2 x3 x4 x5 x6 x7 x8 x9 x10 vV vW y0 y1 y2 y3 y4 y5 y6 y7 y8 y9 U0 U1 U2
 .obtain⟨x0,x1,x2,x3,x4,x5,x6,x7,x8,x9,x10,vV,vW⟩:=fq.cells Zx.o
  obtain⟨y0,y1,y2,y3,y4,y5,y6,y7,y8,y9,U0,U1,U2⟩:=fq.cells mG.o
  go_wp2_with fail
  refine(Oc w5 Og.o.1 Zv.o.1 uh.o).mono ?_;rintro x w6 ⟨rfl,b6⟩
  obtain⟨u,hu⟩:=ay (lF a.w b.w)
  have HU:=ak hu
  have ev:wK u=.agg #[.int .i64 u.len,.int .i64 u.lines,.int .i64 u.head,.int .i64 u.tail,.int .u64 u.d.v,.int .u64 u.d.s]:=rfl
  rw[hu,ev]
  clear hu ev
  have B6:=ak (Below.after B5.o b6)
  have HA6:=ak (au b6 Zx.o);have zH:=ak (au b6 mG.o);have zY:=ak (au b6 nL.o)
  clear b6 x0 x1 x2 x3 x4 x5 x6 x7 x8 x9 x10 vV vW y0 y1 y2 y3 y4 y5 y6 y7 y8 y9 U0 U1 U2
  obtain⟨Ww,hWw⟩:=ay (w6.alloc (.cells #[.int .i64 0,.int .i64 0,.int .i64 0,.int .i64 0,.int .u64 0,.int .u64 0] 92))
  obtain⟨wg,hwg⟩:=ay (w6.heap.size)
  have Fw:dz Ww wg w0:=by rw[<-hWw,<-hwg];exact aD _ _
  have bw0:Below w6.heap.size w6 Ww:=by rw[<-hWw];exact(af6 _ _).alloc (af7 _) _
  obtain⟨p0,p1,p2,p3,p4,p5⟩:=Fw.cells
  have q0:=Fw.free 0;have q1:=Fw.free 1;have q2:=Fw.free 2;have q3:=Fw.free 3;have q4:=Fw.free 4;have q5:=Fw.free 5
  simp only[w0]at p0 p1 p2 p3 p4 p5
  obtain⟨w7,hw7⟩:=ay (setW Ww wg u)
  have k7:dz w7 wg u:=by rw[<-hw7];exact Fw.set u
  have b7:Below w6.heap.size w6 w7:=by rw[<-hw7];exact bY bw0 (by omega) u
  simp only[setW]at hw7
  have ka:=au b7 HA6.o;have kb:=au b7 zH.o;have kr:eP w7 rg ⟨2,0,l,r,0⟩:=au b7 zY.o
  obtain⟨x0,x1,x2,x3,x4,x5,x6,x7,x8,x9,x10,vV,vW⟩:=fq.cells ka
  obtain⟨y0,y1,y2,y3,y4,y5,y6,y7,y8,y9,U0,U1,U2⟩:=fq.cells kb
  obtain⟨c0,c1,c2,c3,c4⟩:w7.cell? ⟨rg,0,none⟩=some (.int .i64 2)/\w7.cell? ⟨rg,1,none⟩=some (.int .u8 0)/\w7.cell? ⟨rg,2,none⟩=some (.int .i64 l)/\w7.cell? ⟨rg,3,none⟩=some (.int .i64 r)/\w7.cell? ⟨rg,4,none⟩=some (.int .i64 0):=eP.cells kr
  obtain⟨d0,d1,d2,d3,d4,d5⟩:=k7.cells
  have B7:=ak (Below.after B6.o b7)
  have hwd:IntKind.i64.wrap ((a.depth:Int)-(b.depth:Int))=(a.depth:Int)-(b.depth:Int):=by
   have h1:=Og.o.2;have h2:=Zv.o.2;have h3:=HI.o.2.1
   rw[agd];omega
  have hw1:IntKind.i64.wrap (1+(a.depth:Int))=((1+a.depth:Nat):Int):=by
   have h1:=Og.o.2;have h3:=HI.o.2.1
   rw[agd];omega
  have hw2:IntKind.i64.wrap (1+(b.depth:Int))=((1+b.depth:Nat):Int):=by
   have h2:=Zv.o.2;have h3:=HI.o.2.1
   rw[agd];omega
  have e1:wrap64 (1+(a.depth:Int))=1+(a.depth:Int):=by
   have h1:=Og.o.2;have h3:=HI.o.2.1
   unfold wrap64;omega
  have e2:wrap64 (1+(b.depth:Int))=1+(b.depth:Int):=by
   have h1:=Zv.o.2;have h3:=HI.o.2.1
   unfold wrap64;omega
  have E1:=ak e1;have E2:=ak e2
  clear e1 e2
  have Oh:aA ((gN E l r).ru.ok):=ak mF.o
  have Zy:aA (fid (gN E l r).ru 1 E=0):=ak PY.o
  have HAD:=ak (Bq (H.o.below B7.o) (gN E l r) Oh.o Zy.o (by have:=HI.o.2.1;omega))
  clear bw0 Fw k7 b7 ka kb kr
  have hcs:a.even=false\/(a.even=true/\b.even=false)\/(a.even=true/\b.even=true/\decide (-1<=(a.depth:Int)-b.depth)=false)\/(a.even=true/\b.even=true/\decide (-1<=(a.depth:Int)-b.depth)=true):=by
   cases a.even<;>cases b.even<;>cases decide (-1<=(a.depth:Int)-b.depth)<;>simp
  rcases hcs with hA|⟨hA,hB⟩|⟨hA,hB,hD⟩|⟨hA,hB,hD⟩
  case' _=>
   have Q0:aA ((a.even&&b.even&&decide (-1<=(a.depth:Int)-b.depth)&&decide ((a.depth:Int)-b.depth<=1))=false):=ak (by rw[hA];rfl)
  rotate_left
  case' _=>
   have Q0:aA ((a.even&&b.even&&decide (-1<=(a.depth:Int)-b.depth)&&decide ((a.depth:Int)-b.depth<=1))=false):=ak (by rw[hA,hB];rfl)
  rotate_left
  case' _=>
   have Q0:aA ((a.even&&b.even&&decide (-1<=(a.depth:Int)-b.depth)&&decide ((a.depth:Int)-b.depth<=1))=false):=ak (by rw[hA,hB,hD];rfl)
   have hD2:¬(-1<=(a.depth:Int)-b.depth):=ai0 hD
  rotate_left
  case' _=>
   have Q0:aA ((a.even&&b.even&&decide (-1<=(a.depth:Int)-b.depth)&&decide ((a.depth:Int)-b.depth<=1))=decide ((a.depth:Int)-b.depth<=1)):=ak (by rw[hA,hB,hD];rfl)
   have hD2: -1<=(a.depth:Int)-b.depth:=ahz hD
  all_goals
   go_wp2_with fail
   all_goals
    refine o7 (v':=DF (gN E l r)) ?_ (HAD.o.mono ?_)
    .rw[Um.o,HU.o]
     refine wM ?_ Q0.o.symm
     have e1:=E1.o;have e2:=E2.o
     first|rw[e1]|rw[e2]|skip
     clear e1 e2 hw1 hw2 hwd
     omega
    .rintro x w8 ⟨rfl,hS,hB',hK⟩
     have HS:=ak hS;have Q5:=ak ((B7.o.mono iI.o).trans hB');have HK:=ak ((Kt.of B7.o).trans hK)
     clear hS hB' hK
     go_wp2_with fail
     go_ret2
     exact⟨by simp[lS],HS.o,Q5.o,HK.o⟩
 .go_wp2_with fail
  go_ret2
  exact⟨rfl,H.o.below B5.o,B5.o.mono iI.o,Kt.of B5.o⟩
def qo(E:List En)(l k:Nat):En:=⟨⟨3,0,l,0,k⟩,wt (rep k (txt E l)),1+(aF E l).depth,false⟩
def wO(E:List En)(l k:Nat):List En×Nat×Int:=
 if k=0\/l=0 then(E,0,0)else if k=1 then(E,l,0)else if(aF E l).w.len*k<=1152921504606846976 then((fA E (qo E l k)).1,(fA E (qo E l k)).2,0)else(E,0,2)
theorem U5{u:Wt}{d:Int}(hd:d=(d':Int)):Value.agg #[.int .i64 3,.int .u8 0,.int .i64 l,.int .i64 0,.int .i64 k,.int .i64 u.len,.int .i64 u.lines,.int .i64 u.head,.int .i64 u.tail,.int .u64 u.d.v,.int .u64 u.d.s,.int .i64 d,.bool false]=DF ⟨⟨3,0,l,0,k⟩,u,d',false⟩:=by rw[hd];rfl
theorem Ku(h:aW n0 W B most E)(hwf:Wf E)(hl0:0<l)(hl:l<=E.length)(hk2:2<=k)(hk:k<=9223372036854775807)(hroom:E.length<most)(hE:E.length<=1048575):
    Calls Tryz.prog 101 #[.pointer (some ⟨B,0,none⟩),.int .i64 l,.int .i64 k] W λx w'=>x=.returned (.tuple #[.int .i64 (wO E l k).2.1,lS (wO E l k).2.2])/\aW n0 w' B most (wO E l k).1/\Below n0 W w'/\Kt B W w':=by
 have HF:∀f,Fence.wide.fn f:=λ_=>trivial;have hlt:=h.lt;have iI:=ak hlt;have wN:=ak (fH h (l:Int));rw[agw (show 0<=(l:Int)/\(l:Int)<=(E.length:Int) by omega)]at wN;have g1:=hwf.get l hl0 hl;have HA1:=ak (rC h hl (by omega));obtain⟨a,ha⟩:=ay (aF E l);obtain⟨t,ht⟩:=ay (txt E l);have Oi:aA (a.w=wt t/\0<t.length/\a.w.len=t.length):=ak (by
  rw[ha,ht]at g1;exact⟨g1.1,g1.2.2.1,by rw[g1.1];rfl⟩)
 have Og:aA (Dz a.w/\a.depth<=E.length):=ak ⟨by rw[<-ha,g1.1];exact Mj g1.2.1,by rw[<-ha];have:=g1.2.2.2;omega⟩;have HPF:aA (wO E l k=if a.w.len*k<=1152921504606846976 then((fA E (qo E l k)).1,(fA E (qo E l k)).2,0)else(E,0,2)):=ak (by unfold wO;rw[af4 (by omega),af4 (by omega),ha]);have Um:aA (qo E l k=⟨⟨3,0,l,0,k⟩,wt (rep k t),1+a.depth,false⟩):=ak (by unfold qo;rw[ha,ht]);rw[ha]at HA1;unfold DF at HA1;have H:=ak h;have l0:((l:Int)==0)=false:=by simp;omega
 have k0:((k:Int)==0)=false:=by simp;omega
 have k1:((k:Int)==1)=false:=by simp;omega
 have kn:¬((k:Int)<0):=by omega
 have HI:=ak (And.intro hroom (And.intro hE (And.intro hl (And.intro hk2 hk))));clear g1 ha ht hlt h hwf hroom hl hk2 hk;rw[HPF.o];by_cases hs:a.w.len*k<=1152921504606846976
 .rw[af5 hs];have uh:=ak hs;obtain⟨f,hf⟩:=ay (fid (qo E l k).ru 1 E);have mW:(qo E l k).ru=⟨3,0,l,0,k⟩:=rfl;rw[mW]at hf;have PY:=ak hf;have Xn:aA (fA E (qo E l k)=if f=0 then(E++[qo E l k],E.length+1)else(E,f)):=ak (by unfold fA;rw[mW,hf]);rw[Xn.o];clear hf mW;by_cases hf0:f=0
  case' _=>
   rw[af5 hf0];subst hf0
  rotate_left
  case' _=>
   rw[af4 hf0];have hfn:((f:Int) !=0)=true:=by simp;omega
  rotate_left
  all_goals
   go_enter Tryz.func101,Tryz.ntmps101;go_wp2_with fail
   refine wN.o.mono ?_;rintro x w ⟨rfl,h⟩;rw[h];clear h w;go_wp2_with fail
   refine HA1.o.mono ?_;rintro x w2 ⟨rfl,b1⟩;have B2:=ak b1;clear b1;obtain⟨Wz,uV⟩:=ay (w2.alloc (.cells #[.int .i64 0,.int .u8 0,.int .i64 0,.int .i64 0,.int .i64 0,.int .i64 0,.int .i64 0,.int .i64 0,.int .i64 0,.int .u64 0,.int .u64 0,.int .i64 0,.bool false] 136));obtain⟨g,hg⟩:=ay (w2.heap.size);have bz:Below w2.heap.size w2 Wz:=by rw[<-uV];exact(af6 _ _).alloc (af7 _) _
   have z1:fq Wz g en0:=by rw[<-uV,<-hg];exact fq.zero w2
   obtain⟨w3,hw3⟩:=ay (oW Wz g a);have kA3:fq w3 g a:=by rw[<-hw3];exact z1.set a
   have b3:Below w2.heap.size w2 w3:=by rw[<-hw3];exact eO bz (by omega) a
   have U4:=ak kA3;have B3:=ak (Below.after B2.o b3);obtain⟨p0,p1,p2,p3,p4,p5,p6,p7,p8,p9,QI,QJ,QK⟩:Wz.cell? ⟨g,0,none⟩=some (.int .i64 0)/\Wz.cell? ⟨g,1,none⟩=some (.int .u8 0)/\Wz.cell? ⟨g,2,none⟩=some (.int .i64 0)/\Wz.cell? ⟨g,3,none⟩=some (.int .i64 0)/\Wz.cell? ⟨g,4,none⟩=some (.int .i64 0)/\Wz.cell? ⟨g,5,none⟩=some (.int .i64 0)/\Wz.cell? ⟨g,6,none⟩=some (.int .i64 0)/\Wz.cell? ⟨g,7,none⟩=some (.int .i64 0)/\Wz.cell? ⟨g,8,none⟩=some (.int .i64 0)/\Wz.cell? ⟨g,9,none⟩=some (.int .u64 0)/\Wz.cell? ⟨g,10,none⟩=some (.int .u64 0)/\Wz.cell? ⟨g,11,none⟩=some (.int .i64 0)/\Wz.cell? ⟨g,12,none⟩=some (.bool false):=z1.cells;have QL:=z1.free 0;have QM:=z1.free 1;have QN:=z1.free 2;have QO:=z1.free 3;have QP:=z1.free 4;have QQ:=z1.free 5;have QS:=z1.free 6;have QT:=z1.free 7;have QU:=z1.free 8;have QV:=z1.free 9;have Bu:=z1.free 10;have Bv:=z1.free 11;have Bw:=z1.free 12;simp only[oW]at hw3;obtain⟨x0,x1,x2,x3,x4,x5,x6,x7,x8,x9,x10,vV,vW⟩:=kA3.cells;clear bz z1 kA3 b3;go_wp2_with fail
   refine(wI w3 Og.o.1.le (by rw[Oi.o.2.2];exact Oi.o.2.1) HI.o.2.2.2.2).mono ?_;rintro x w ⟨rfl,h⟩;rw[h,af5 uh.o];clear h w;clear uV hw3 p0 p1 p2 p3 p4 p5 p6 p7 p8 p9 QI QJ QK QL QM QN QO QP QQ QS QT QU QV Bu Bv Bw;obtain⟨Wr,Kr⟩:=ay (w3.alloc (.cells #[.int .i64 0,.int .u8 0,.int .i64 0,.int .i64 0,.int .i64 0] 50));obtain⟨rg,hrg⟩:=ay (w3.heap.size);have rE:eP Wr rg ⟨0,0,0,0,0⟩:=by rw[<-Kr,<-hrg];exact aD _ _
   have QZ:Below w3.heap.size w3 Wr:=by rw[<-Kr];exact(af6 _ _).alloc (af7 _) _
   obtain⟨z0,z1,z2,z3,z4⟩:Wr.cell? ⟨rg,0,none⟩=some (.int .i64 0)/\Wr.cell? ⟨rg,1,none⟩=some (.int .u8 0)/\Wr.cell? ⟨rg,2,none⟩=some (.int .i64 0)/\Wr.cell? ⟨rg,3,none⟩=some (.int .i64 0)/\Wr.cell? ⟨rg,4,none⟩=some (.int .i64 0):=rE.cells;have s0:=rE.free 0;have s1:=rE.free 1;have s2:=rE.free 2;have s3:=rE.free 3;have s4:=rE.free 4;obtain⟨w4,hw4⟩:=ay (((((Wr.setCell ⟨rg,0,none⟩ (.int .i64 3)).setCell ⟨rg,1,none⟩ (.int .u8 0)).setCell ⟨rg,2,none⟩ (.int .i64 l)).setCell ⟨rg,3,none⟩ (.int .i64 0)).setCell ⟨rg,4,none⟩ (.int .i64 k));have k4:eP w4 rg ⟨3,0,l,0,k⟩:=by rw[<-hw4];exact rE.set ⟨3,0,l,0,k⟩
   have b4:Below w3.heap.size w3 w4:=by
    rw[<-hw4];exact((((QZ.setCell (p:=⟨rg,0,none⟩) (by dsimp only;omega) _).setCell (p:=⟨rg,1,none⟩) (by dsimp only;omega) _).setCell (p:=⟨rg,2,none⟩) (by dsimp only;omega) _).setCell (p:=⟨rg,3,none⟩) (by dsimp only;omega) _).setCell (p:=⟨rg,4,none⟩) (by dsimp only;omega) _
   have HR4:=ak k4;have B4:=ak (Below.after B3.o b4);have Zw:=ak (au b4 U4.o);obtain⟨c0,c1,c2,c3,c4⟩:w4.cell? ⟨rg,0,none⟩=some (.int .i64 3)/\w4.cell? ⟨rg,1,none⟩=some (.int .u8 0)/\w4.cell? ⟨rg,2,none⟩=some (.int .i64 l)/\w4.cell? ⟨rg,3,none⟩=some (.int .i64 0)/\w4.cell? ⟨rg,4,none⟩=some (.int .i64 k):=k4.cells;have mF:aA (Ru.ok ⟨3,0,l,0,k⟩):=ak ⟨by show 3<=_;omega,by show 0<=255;omega,by show l<=_;have h1:=HI.o.2.2.1;have h2:=HI.o.2.1;omega,agb _,HI.o.2.2.2.2⟩;have jZ:=ak (rD (H.o.below B4.o) mF.o);rw[PY.o]at jZ
  case' _=>
   rw[af4 (λh=>by have:=h.2;have:=HI.o.1;omega)]at jZ
  rotate_left
  case' _=>
   rw[af4 (λh=>hf0 h.1)]at jZ
  rotate_left
  all_goals
   clear rE QZ k4 b4;go_wp2_with fail
   refine jZ.o.mono ?_;rintro x w5 ⟨rfl,b5⟩;have B5:=ak (Below.after B4.o b5);have Zx:=ak (au b5 Zw.o);have nL:=ak (au b5 HR4.o);clear Kr hw4 z0 z1 z2 z3 z4 s0 s1 s2 s3 s4 c0 c1 c2 c3 c4 b5 x0 x1 x2 x3 x4 x5 x6 x7 x8 x9 x10 vV vW
  .obtain⟨x0,x1,x2,x3,x4,x5,x6,x7,x8,x9,x10,vV,vW⟩:=fq.cells Zx.o;go_wp2_with fail
   have U6:=ak (QC w5 (t:=t) (k:=k) (by have:=HI.o.2.2.2.1;omega) HI.o.2.2.2.2 Oi.o.2.1 (by rw[<-Oi.o.2.2];exact uh.o));rw[<-Oi.o.1]at U6;refine U6.o.mono ?_;rintro x w6 ⟨rfl,b6⟩;obtain⟨u,hu⟩:=ay (wt (rep k t));have HU:=ak hu;have ev:wK u=.agg #[.int .i64 u.len,.int .i64 u.lines,.int .i64 u.head,.int .i64 u.tail,.int .u64 u.d.v,.int .u64 u.d.s]:=rfl;rw[hu,ev];clear hu ev U6;have B6:=ak (Below.after B5.o b6);have HA6:=ak (au b6 Zx.o);have zY:=ak (au b6 nL.o);clear b6 x0 x1 x2 x3 x4 x5 x6 x7 x8 x9 x10 vV vW;obtain⟨Ww,hWw⟩:=ay (w6.alloc (.cells #[.int .i64 0,.int .i64 0,.int .i64 0,.int .i64 0,.int .u64 0,.int .u64 0] 92));obtain⟨wg,hwg⟩:=ay (w6.heap.size);have Fw:dz Ww wg w0:=by rw[<-hWw,<-hwg];exact aD _ _
   have bw0:Below w6.heap.size w6 Ww:=by rw[<-hWw];exact(af6 _ _).alloc (af7 _) _
   obtain⟨p0,p1,p2,p3,p4,p5⟩:=Fw.cells;have q0:=Fw.free 0;have q1:=Fw.free 1;have q2:=Fw.free 2;have q3:=Fw.free 3;have q4:=Fw.free 4;have q5:=Fw.free 5;simp only[w0]at p0 p1 p2 p3 p4 p5;obtain⟨w7,hw7⟩:=ay (setW Ww wg u);have k7:dz w7 wg u:=by rw[<-hw7];exact Fw.set u
   have b7:Below w6.heap.size w6 w7:=by rw[<-hw7];exact bY bw0 (by omega) u
   simp only[setW]at hw7;have ka:=au b7 HA6.o;have kr:eP w7 rg ⟨3,0,l,0,k⟩:=au b7 zY.o;obtain⟨x0,x1,x2,x3,x4,x5,x6,x7,x8,x9,x10,vV,vW⟩:=fq.cells ka;obtain⟨c0,c1,c2,c3,c4⟩:w7.cell? ⟨rg,0,none⟩=some (.int .i64 3)/\w7.cell? ⟨rg,1,none⟩=some (.int .u8 0)/\w7.cell? ⟨rg,2,none⟩=some (.int .i64 l)/\w7.cell? ⟨rg,3,none⟩=some (.int .i64 0)/\w7.cell? ⟨rg,4,none⟩=some (.int .i64 k):=eP.cells kr;obtain⟨d0,d1,d2,d3,d4,d5⟩:=k7.cells;have B7:=ak (Below.after B6.o b7);have hw1:IntKind.i64.wrap (1+(a.depth:Int))=((1+a.depth:Nat):Int):=by
    have h1:=Og.o.2;have h3:=HI.o.2.1;rw[agd];omega
   have e1:wrap64 (1+(a.depth:Int))=1+(a.depth:Int):=by
    have h1:=Og.o.2;have h3:=HI.o.2.1;unfold wrap64;omega
   have E1:=ak e1;clear e1;have Oh:aA ((qo E l k).ru.ok):=ak mF.o;have Zy:aA (fid (qo E l k).ru 1 E=0):=ak PY.o;have HAD:=ak (Bq (H.o.below B7.o) (qo E l k) Oh.o Zy.o (by have:=HI.o.2.1;omega));clear bw0 Fw k7 b7 ka kr;go_wp2_with fail
   refine o7 (v':=DF (qo E l k)) ?_ (HAD.o.mono ?_)
   .rw[Um.o,HU.o];refine U5 ?_;have e1:=E1.o
    first|rw[e1]|skip
    clear e1 hw1;omega
   rintro x w8 ⟨rfl,hS,hB',hK⟩;have HS:=ak hS;have Q5:=ak ((B7.o.mono iI.o).trans hB');have HK:=ak ((Kt.of B7.o).trans hK);clear hS hB' hK;go_wp2_with fail
   go_ret2;exact⟨by simp[lS],HS.o,Q5.o,HK.o⟩
  go_wp2_with fail
  go_ret2;exact⟨rfl,H.o.below B5.o,B5.o.mono iI.o,Kt.of B5.o⟩
 rw[af4 hs];go_enter Tryz.func101,Tryz.ntmps101;go_wp2_with fail
 refine wN.o.mono ?_;rintro x w ⟨rfl,h⟩;rw[h];clear h w;go_wp2_with fail
 refine HA1.o.mono ?_;rintro x w2 ⟨rfl,b1⟩;have B2:=ak b1;clear b1;obtain⟨Wz,uV⟩:=ay (w2.alloc (.cells #[.int .i64 0,.int .u8 0,.int .i64 0,.int .i64 0,.int .i64 0,.int .i64 0,.int .i64 0,.int .i64 0,.int .i64 0,.int .u64 0,.int .u64 0,.int .i64 0,.bool false] 136));obtain⟨g,hg⟩:=ay (w2.heap.size);have bz:Below w2.heap.size w2 Wz:=by rw[<-uV];exact(af6 _ _).alloc (af7 _) _
 have z1:fq Wz g en0:=by rw[<-uV,<-hg];exact fq.zero w2
 obtain⟨w3,hw3⟩:=ay (oW Wz g a);have kA3:fq w3 g a:=by rw[<-hw3];exact z1.set a
 have b3:Below w2.heap.size w2 w3:=by rw[<-hw3];exact eO bz (by omega) a
 have U4:=ak kA3;have B3:=ak (Below.after B2.o b3);obtain⟨p0,p1,p2,p3,p4,p5,p6,p7,p8,p9,QI,QJ,QK⟩:Wz.cell? ⟨g,0,none⟩=some (.int .i64 0)/\Wz.cell? ⟨g,1,none⟩=some (.int .u8 0)/\Wz.cell? ⟨g,2,none⟩=some (.int .i64 0)/\Wz.cell? ⟨g,3,none⟩=some (.int .i64 0)/\Wz.cell? ⟨g,4,none⟩=some (.int .i64 0)/\Wz.cell? ⟨g,5,none⟩=some (.int .i64 0)/\Wz.cell? ⟨g,6,none⟩=some (.int .i64 0)/\Wz.cell? ⟨g,7,none⟩=some (.int .i64 0)/\Wz.cell? ⟨g,8,none⟩=some (.int .i64 0)/\Wz.cell? ⟨g,9,none⟩=some (.int .u64 0)/\Wz.cell? ⟨g,10,none⟩=some (.int .u64 0)/\Wz.cell? ⟨g,11,none⟩=some (.int .i64 0)/\Wz.cell? ⟨g,12,none⟩=some (.bool false):=z1.cells;have QL:=z1.free 0;have QM:=z1.free 1;have QN:=z1.free 2;have QO:=z1.free 3;have QP:=z1.free 4;have QQ:=z1.free 5;have QS:=z1.free 6;have QT:=z1.free 7;have QU:=z1.free 8;have QV:=z1.free 9;have Bu:=z1.free 10;have Bv:=z1.free 11;have Bw:=z1.free 12;simp only[oW]at hw3;obtain⟨x0,x1,x2,x3,x4,x5,x6,x7,x8,x9,x10,vV,vW⟩:=kA3.cells;clear bz z1 kA3 b3;go_wp2_with fail
 refine(wI w3 Og.o.1.le (by rw[Oi.o.2.2];exact Oi.o.2.1) HI.o.2.2.2.2).mono ?_;rintro x w ⟨rfl,h⟩;rw[h,af4 hs,Mq];clear h w;clear uV hw3 p0 p1 p2 p3 p4 p5 p6 p7 p8 p9 QI QJ QK QL QM QN QO QP QQ QS QT QU QV Bu Bv Bw;go_wp2_with fail
 go_ret2;exact⟨rfl,H.o.below B3.o,B3.o.mono iI.o,Kt.of B3.o⟩
theorem Bz(h:aW n0 W B most E)(hwf:Wf E)(hl:l<=E.length)(hr:r<=E.length)(hroom:E.length<most)(hE:E.length<=1048575):
    Calls Tryz.prog 129 #[.pointer (some ⟨B,0,none⟩),.int .i64 l,.int .i64 r] W λx w'=>x=.returned (.tuple #[.int .i64 (iM E l r).2.1,lS (iM E l r).2.2])/\aW n0 w' B most (iM E l r).1/\Below n0 W w'/\Kt B W w':=by
 by_cases hl0:l=0
 .have e:iM E l r=(E,r,0):=by unfold iM;rw[af5 hl0]
  rw[e];have wN:=ak (fH h (l:Int));have nY:=ak (fH h (r:Int));rw[agw (show 0<=(l:Int)/\(l:Int)<=(E.length:Int) by omega)]at wN;rw[agw (show 0<=(r:Int)/\(r:Int)<=(E.length:Int) by omega)]at nY;have l0:((l:Int)==0)=true:=by simp[hl0]
  have H:=ak h;clear h hwf hl0 hl hr hroom hE e;go_enter Tryz.func129,Tryz.ntmps129;go_wp2_with fail
  refine wN.o.mono ?_;rintro x w ⟨rfl,h⟩;rw[h];clear h w;go_wp2_with fail
  refine nY.o.mono ?_;rintro x w ⟨rfl,h⟩;rw[h];clear h w;go_wp2_with fail
  go_ret2;exact⟨rfl,H.o,af6 _ _,Kt.of (af6 _ _)⟩
 by_cases hr0:r=0
 .have e:iM E l r=(E,l,0):=by unfold iM;rw[af4 hl0,af5 hr0]
  rw[e];have wN:=ak (fH h (l:Int));have nY:=ak (fH h (r:Int));rw[agw (show 0<=(l:Int)/\(l:Int)<=(E.length:Int) by omega)]at wN;rw[agw (show 0<=(r:Int)/\(r:Int)<=(E.length:Int) by omega)]at nY;have l0:((l:Int)==0)=false:=by simp;omega
  have r0:((r:Int)==0)=true:=by simp[hr0]
  have H:=ak h;clear h hwf hl0 hl hr hroom hE e hr0;go_enter Tryz.func129,Tryz.ntmps129;go_wp2_with fail
  refine wN.o.mono ?_;rintro x w ⟨rfl,h⟩;rw[h];clear h w;go_wp2_with fail
  refine nY.o.mono ?_;rintro x w ⟨rfl,h⟩;rw[h];clear h w;go_wp2_with fail
  go_ret2;exact⟨rfl,H.o,af6 _ _,Kt.of (af6 _ _)⟩
 exact Oe h hwf (by omega) (by omega) hl hr hroom hE
theorem Oj(h:aW n0 W B most E)(hwf:Wf E)(hl:l<=E.length)(hk:k<=9223372036854775807)(hroom:E.length<most)(hE:E.length<=1048575):
    Calls Tryz.prog 101 #[.pointer (some ⟨B,0,none⟩),.int .i64 l,.int .i64 k] W λx w'=>x=.returned (.tuple #[.int .i64 (wO E l k).2.1,lS (wO E l k).2.2])/\aW n0 w' B most (wO E l k).1/\Below n0 W w'/\Kt B W w':=by
 have kn:¬((k:Int)<0):=by omega
 have wN:=ak (fH h (l:Int));rw[agw (show 0<=(l:Int)/\(l:Int)<=(E.length:Int) by omega)]at wN;have H:=ak h;by_cases h0:k=0\/l=0
 .have e:wO E l k=(E,0,0):=by unfold wO;rw[af5 h0]
  rw[e];rcases h0 with h0|h0
  case' _=>
   have k0:((k:Int)==0)=true:=by simp[h0]
  rotate_left
  case' _=>
   have l0:((l:Int)==0)=true:=by simp[h0]
  rotate_left
  all_goals
   clear h hwf h0 hl hroom hE e hk;go_enter Tryz.func101,Tryz.ntmps101;go_wp2_with fail
   refine wN.o.mono ?_;rintro x w ⟨rfl,h⟩;rw[h];clear h w
  .go_wp2_with fail
   go_ret2;exact⟨rfl,H.o,af6 _ _,Kt.of (af6 _ _)⟩
  go_wp2_with fail
  all_goals
   go_ret2;exact⟨rfl,H.o,af6 _ _,Kt.of (af6 _ _)⟩
 by_cases h1:k=1
 .have e:wO E l k=(E,l,0):=by unfold wO;rw[af4 h0,af5 h1]
  rw[e];have l0:((l:Int)==0)=false:=by simp;omega
  have k0:((k:Int)==0)=false:=by simp;omega
  have k1:((k:Int)==1)=true:=by simp[h1]
  clear h hwf h0 hl hroom hE e hk h1;go_enter Tryz.func101,Tryz.ntmps101;go_wp2_with fail
  refine wN.o.mono ?_;rintro x w ⟨rfl,h⟩;rw[h];clear h w;go_wp2_with fail
  go_ret2;exact⟨rfl,H.o,af6 _ _,Kt.of (af6 _ _)⟩
 exact Ku h hwf (by omega) hl (by omega) hk hroom hE
end M
end
section
open Go.RowKit
namespace M
variable{E:List En}{i l:Nat}
theorem Ia(h:Wf E){r:Nat}(hl0:0<l)(hr0:0<r)(hl:l<=E.length)(hr:r<=E.length)(hs:(aF E l).w.len+(aF E r).w.len<=1152921504606846976):Fv E (gN E l r):=by
 obtain⟨a1,a2,a3,a4⟩:=h.get l hl0 hl;obtain⟨b1,b2,b3,b4⟩:=h.get r hr0 hr;have e1:(aF E l).w.len=(txt E l).length:=by rw[a1];rfl
 have e2:(aF E r).w.len=(txt E r).length:=by rw[b1];rfl
 have ht:ug (uU E) (gN E l r).ru=txt E l++txt E r:=rfl;refine⟨.inr (.inl ⟨rfl,rfl,hl0,hl,hr0,hr,rfl⟩),?_,?_,?_,?_⟩
 .rw[ht,yw,<-a1,<-b1];rfl
 .rw[ht,af8];omega
 .rw[ht,af8];omega
 .show 1+max (aF E l).depth (aF E r).depth<=E.length;omega
theorem U7(h:Wf E){k:Nat}(hl0:0<l)(hl:l<=E.length)(hk:2<=k)(hs:(aF E l).w.len*k<=1152921504606846976):Fv E (qo E l k):=by
 obtain⟨a1,a2,a3,a4⟩:=h.get l hl0 hl;have e1:(aF E l).w.len=(txt E l).length:=by rw[a1];rfl
 have ht:ug (uU E) (qo E l k).ru=rep k (txt E l):=rfl;rw[e1]at hs;have hk2:k<=1152921504606846976:=af9 (ajW _ a3) hs;refine⟨.inr (.inr ⟨rfl,rfl,hl0,hl,rfl,hk,hk2⟩),by rw[ht];rfl,?_,?_,?_⟩
 .rw[ht,fQ,ahq];exact hs
 .rw[ht,fQ];exact ajc (by omega) a3
 .show 1+(aF E l).depth<=E.length;omega
structure RuOf(E:List En)(i:Nat):Prop where
 cases:((aF E i).ru.kind=1/\(aF E i).ru.letter<256/\(aF E i).ru.left=0/\(aF E i).ru.right=0/\(aF E i).ru.times=0/\txt E i=[(aF E i).ru.letter])\/
  ((aF E i).ru.kind=2/\(aF E i).ru.letter=0/\0<(aF E i).ru.left/\(aF E i).ru.left<i/\0<(aF E i).ru.right/\(aF E i).ru.right<i/\(aF E i).ru.times=0/\txt E i=txt E (aF E i).ru.left++txt E (aF E i).ru.right)\/
  ((aF E i).ru.kind=3/\(aF E i).ru.letter=0/\0<(aF E i).ru.left/\(aF E i).ru.left<i/\(aF E i).ru.right=0/\2<=(aF E i).ru.times/\(aF E i).ru.times<=1152921504606846976/\txt E i=rep (aF E i).ru.times (txt E (aF E i).ru.left))
theorem Kv{e:En}(hi:i<=E.length):aF (E++[e]) i=aF E i:=by
 unfold aF;by_cases h:i=0
 .rw[af5 h,af5 h]
 .rw[af4 h,af4 h,agV (by omega)]
theorem mX(E:List En)(e:En):aF (E++[e]) (E.length+1)=e:=by
 unfold aF
 rw[af4 (by omega),agN (by omega)]
 simp
theorem Wf.rule(h:Wf E):∀i,0<i->i<=E.length->RuOf E i:=by
 induction h with
 |nil=>intro i h1 h2;simp at h2;omega
 | @snoc E e hE he ih=>
  intro i h1 h2;rw[af8,agk]at h2;by_cases hi:i<=E.length
  .have h:=(ih i h1 hi).cases;rw[<-Kv (e:=e) hi]at h;refine⟨?_⟩;rcases h with⟨a,b,c,d,f,g⟩|⟨a,b,c,d,f,g,k,l⟩|⟨a,b,c,d,f,g,k,l⟩
   .exact .inl ⟨a,b,c,d,f,by rw[gB hi];exact g⟩
   .exact .inr (.inl ⟨a,b,c,d,f,g,k,by rw[gB hi,gB (by omega),gB (by omega)];exact l⟩)
   .exact .inr (.inr ⟨a,b,c,d,f,g,k,by rw[gB hi,gB (by omega)];exact l⟩)
  .obtain rfl:i=E.length+1:=by omega
   refine⟨?_⟩;rw[mX,Br];rcases he.kind with⟨a,b,c,d,f⟩|⟨a,b,c,d,f,g,k⟩|⟨a,b,c,d,f,g,k⟩
   .exact .inl ⟨a,b,c,d,f,by unfold ug;rw[af5 a]⟩
   .refine .inr (.inl ⟨a,b,c,by omega,f,by omega,k,?_⟩);rw[gB d,gB g];unfold ug;rw[af4 (by omega),af5 a];rfl
   .refine .inr (.inr ⟨a,b,c,by omega,f,g,k,?_⟩);rw[gB d];unfold ug;rw[af4 (by omega),af4 (by omega)];rfl
theorem Wf.len(h:Wf E)(hi:i<=E.length):(aF E i).w=wt (txt E i)/\(txt E i).length<=1152921504606846976:=by
 by_cases h0:i=0
 .subst h0;exact⟨rfl,by rw[cZ];simp⟩
 .obtain⟨a,b,-,-⟩:=h.get i (by omega) hi;exact⟨a,b⟩
structure Sp where
 id:Nat
 dG:Nat
 n:Nat
 times:Nat
def nN(E:List En)(s:Sp):List Nat:=rep s.times (((txt E s.id).drop s.dG).take s.n)
def den(E:List En):List Sp->List Nat
 | []=>[]
 |s::L=>den E L++nN E s
theorem RJ(E:List En)(L:List Sp)(s:Sp):den E (L++[s])=nN E s++den E L:=by
 induction L with
 |nil=>show den E []++nN E s=nN E s++[];rw[agi];rfl
 |cons a L ih=>show den E (L++[s])++nN E a=nN E s++(den E L++nN E a);rw[ih,agf]
structure OkS(E:List En)(s:Sp):Prop where
 pos:0<s.id
 le:s.id<=E.length
 rng:s.dG+s.n<=(txt E s.id).length
 one:s.n<(txt E s.id).length->s.times<=1
def mu:List Sp->Nat
 | []=>0
 |s::L=>4^s.id+mu L
theorem yR(L M:List Sp):mu (L++M)=mu L+mu M:=by
 induction L with
 |nil=>simp[mu]
 |cons a L ih=>show 4^a.id+mu (L++M)=4^a.id+mu L+mu M;rw[ih];omega
theorem IU{L:List Sp}(h:∀s∈L,s.id<i)(hl:L.length<=3)(h0:0<i):mu L<4^i:=by
 have hp:∀s∈L,4^s.id<=4^(i-1):=λs hs=>aj0 (by omega) (by have:=h s hs;omega)
 have hm:mu L<=L.length*4^(i-1):=by
  clear h hl
  induction L with
  |nil=>simp[mu]
  |cons a L ih=>
   have h1:=hp a (ahl ..)
   have h2:=ih (λs hs=>hp s (agK _ hs))
   show 4^a.id+mu L<=(L.length+1)*4^(i-1)
   rw[ag6];omega
 have e:4^i=4*4^(i-1):=by
  rw[<-Nat.pow_succ'];congr 1;omega
 have hpos:0<4^(i-1):=ajM (by omega)
 have:L.length*4^(i-1)<=3*4^(i-1):=agY _ hl
 omega
theorem DL(s t:List Nat)(f n:Nat):((s++t).drop f).take n=(s.drop (min f s.length)).take (min (s.length-f) n)++(t.drop (f-s.length)).take (n-min (s.length-f) n):=by
 apply List.ext_getElem?
 intro j
 rw[ahT,ahL,akF,akF,agB,agp,ahT,ahT,ahL,ahL]
 by_cases h:f<=s.length
 .rw[aio h,akE h]
  by_cases hn:j<n
  .rw[af5 hn]
   by_cases hj:f+j<s.length
   .rw[af5 hj,af5 (by omega),af5 (by omega)]
   .rw[af4 hj,af4 (by omega),af5 (by omega)]
    congr 1;omega
  .rw[af4 hn]
   by_cases hj:j<min (min (s.length-f) n) (s.length-f)
   .omega
   .rw[af4 hj,af4 (by omega)]
 .rw[akd (show s.length<=f by omega),akE (show s.length<=f by omega),aiz,Nat.zero_min,ajb,Nat.zero_min,af4 (by omega:¬f+j<s.length),af4 (by omega:¬j<0),ajb]
  by_cases hn:j<n
  .rw[af5 hn,af5 hn];congr 1;omega
  .rw[af4 hn,af4 hn]
theorem IV(t:List Nat)(q m f:Nat)(hf:f<=t.length):(rep (q+1+m) t).drop (q*t.length+f)=t.drop f++rep m t:=by
 have e1:rep (q+1+m) t=rep q t++(t++rep m t):=by rw[show q+1+m=q+(1+m) by omega,sS,sS,iB]
 have e2:(rep q t++(t++rep m t)).drop (q*t.length)=t++rep m t:=by
  have h:=fQ q t
  rw[<-h];exact akg
 rw[e1,<-ahn,e2,ahj hf]
theorem IW(t:List Nat)(a b m:Nat)(h0:0<t.length)(hb:b<=t.length)(h:a*t.length+b<=m*t.length):(rep m t).take (a*t.length+b)=rep a t++t.take b:=by
 have ham:a<=m:=by
  rcases aja m a with h1|h1
  .have:=agY t.length (show m+1<=a by omega)
   rw[ag6]at this
   omega
  .exact h1
 obtain⟨k,rfl⟩:∃k,m=a+k:=⟨m-a,by omega⟩
 rw[sS,aiL,fQ,agI (by rw[fQ];omega),ajo]
 congr 1
 cases k with
 |zero=>
  have:b=0:=by rw[ahC]at h;omega
  subst this
  simp
 |succ k=>rw[ji,ahP hb]
theorem ZZ(t:List Nat)(k f n:Nat)(h0:0<t.length)(h:f+n<=k*t.length)(hn:0<n)(h1:f%t.length+n<=t.length):((rep k t).drop f).take n=(t.drop (f%t.length)).take n:=by
 have hq:f/t.length<k:=by rw[akD h0];omega
 obtain⟨m,rfl⟩:∃m,k=f/t.length+1+m:=⟨k-(f/t.length+1),by omega⟩
 have e:f/t.length*t.length+f%t.length=f:=by rw[ahq];exact ai7 f t.length
 have hd:=IV t (f/t.length) m (f%t.length) (aiP (ahb _ h0))
 rw[e]at hd
 rw[hd,ahP (by rw[agp];omega)]
theorem M3(t:List Nat)(k f n:Nat)(h0:0<t.length)(h:f+n<=k*t.length)(h1:t.length<f%t.length+n):
    ((rep k t).drop f).take n=(t.drop (f%t.length)).take ((t.length-f%t.length)%t.length)++(rep ((n-(t.length-f%t.length)%t.length)/t.length) t++t.take ((n-(t.length-f%t.length)%t.length)%t.length))/\(t.length-f%t.length)%t.length<=n:=by
 have hfm:=ahb f h0
 have hq:f/t.length<k:=by rw[akD h0];omega
 obtain⟨m,rfl⟩:∃m,k=f/t.length+1+m:=⟨k-(f/t.length+1),by omega⟩
 have e:f/t.length*t.length+f%t.length=f:=by rw[ahq];exact ai7 f t.length
 have hd:=IV t (f/t.length) m (f%t.length) (aiP hfm)
 rw[e]at hd
 rw[hd]
 have hb:n<=(t.length-f%t.length)+m*t.length:=by
  rw[aha,aha,ah6]at h
  omega
 by_cases hz:f%t.length=0
 .rw[hz,ajb,Nat.mod_self,ajb,agj,ah5,agH]
  refine⟨?_,agb _⟩
  have hr:t++rep m t=rep (m+1) t:=(ji m t).symm
  rw[hr]
  have ht:=IW t (n/t.length) (n%t.length) (m+1) h0 (aiP (ahb _ h0)) (by
   have e2:n/t.length*t.length+n%t.length=n:=by rw[ahq];exact ai7 n t.length
   rw[e2,ag6];omega)
  have e2:n/t.length*t.length+n%t.length=n:=by rw[ahq];exact ai7 n t.length
  rwa [e2]at ht
 .have hh:(t.length-f%t.length)%t.length=t.length-f%t.length:=aik (by omega)
  rw[hh]
  obtain⟨r,hr⟩:=ay (n-(t.length-f%t.length))
  rw[hr]
  refine⟨?_,by omega⟩
  rw[aiL,agp,hr,agI (by rw[agp];omega),agI (show(t.drop (f%t.length)).length<=t.length-f%t.length by rw[agp];exact af7 _)]
  congr 1
  have e2:r/t.length*t.length+r%t.length=r:=by rw[ahq];exact ai7 r t.length
  have ht:=IW t (r/t.length) (r%t.length) m h0 (aiP (ahb _ h0)) (by rw[e2];omega)
  rwa [e2]at ht
def rV(r:Ru)(l:Nat)(s:Sp):List Sp:=[⟨r.right,s.dG-l,s.n-min (l-s.dG) s.n,1⟩,⟨r.left,min s.dG l,min (l-s.dG) s.n,1⟩]
def qC(r:Ru)(l:Nat)(s:Sp):List Sp:=
 if s.dG%l+s.n<=l then[⟨r.left,s.dG%l,s.n,1⟩]
 else[⟨r.left,0,(s.n-(l-s.dG%l)%l)%l,1⟩,⟨r.left,0,l,(s.n-(l-s.dG%l)%l)/l⟩,⟨r.left,s.dG%l,(l-s.dG%l)%l,1⟩]
def kN(r:Ru)(l:Nat)(s:Sp):List Sp:=if r.kind=2 then rV r l s else qC r l s
theorem OI(h:Wf E){s:Sp}(hs:OkS E s)(hn:0<s.n)(ht:0<s.times)(hlt:s.n<(txt E s.id).length):
    (∀x∈kN (aF E s.id).ru (txt E (aF E s.id).ru.left).length s,OkS E x/\x.id<s.id)/\(kN (aF E s.id).ru (txt E (aF E s.id).ru.left).length s).length<=3/\den E (kN (aF E s.id).ru (txt E (aF E s.id).ru.left).length s)=nN E s:=by
 have h1:s.times=1:=by have:=hs.one hlt;omega
 have hd:nN E s=((txt E s.id).drop s.dG).take s.n:=by unfold nN;rw[h1,iB]
 rw[hd]
 have hR:=hs.rng
 rcases(h.rule s.id hs.pos hs.le).cases with⟨-,-,-,-,-,g⟩|⟨a,-,c,d,f,g,-,l⟩|⟨a,-,c,d,-,g,-,l⟩
 .rw[g]at hlt;simp at hlt;omega
 .unfold kN rV
  rw[af5 a]
  generalize(aF E s.id).ru=r at *
  rw[l,af8]at hR
  refine⟨?_,by simp,?_⟩
  .intro x hx
   simp only[agm,ahA,ahD]at hx
   rcases hx with rfl|rfl
   .exact⟨⟨f,by have:=hs.le;dsimp only;omega,by dsimp only;omega,λ_=>af7 _⟩,g⟩
   .exact⟨⟨c,by have:=hs.le;dsimp only;omega,by dsimp only;omega,λ_=>af7 _⟩,d⟩
  .rw[l,DL]
   simp[den,nN,iB]
 .have h0:0<(txt E (aF E s.id).ru.left).length:=(h.get _ c (by have:=hs.le;omega)).2.2.1
  unfold kN qC
  rw[af4 (by omega)]
  generalize(aF E s.id).ru=r at *
  rw[l,fQ]at hR
  have hfm:=ahb s.dG h0
  split
  .rename_i hin
   refine⟨?_,by simp,?_⟩
   .intro x hx
    simp only[agm,ahA,ahD]at hx
    subst hx
    exact⟨⟨c,by have:=hs.le;dsimp only;omega,hin,λ_=>af7 _⟩,d⟩
   .rw[l,ZZ _ _ _ _ h0 hR hn hin]
    simp[den,nN,iB]
  .rename_i hin
   obtain⟨e1,e2⟩:=M3 _ _ _ _ h0 hR (by omega)
   refine⟨?_,by simp,?_⟩
   .intro x hx
    simp only[agm,ahA,ahD]at hx
    rcases hx with rfl|rfl|rfl
    .refine⟨⟨c,by have:=hs.le;dsimp only;omega,?_,λ_=>af7 _⟩,d⟩
     dsimp only
     have:=ahb (s.n-((txt E r.left).length-s.dG % (txt E r.left).length) % (txt E r.left).length) h0
     omega
    .exact⟨⟨c,by have:=hs.le;dsimp only;omega,by dsimp only;omega,λh=>absurd h (ahh _)⟩,d⟩
    .refine⟨⟨c,by have:=hs.le;dsimp only;omega,?_,λ_=>af7 _⟩,d⟩
     dsimp only
     by_cases hz:s.dG % (txt E r.left).length=0
     .rw[hz,ajb,Nat.mod_self];omega
     .rw[show((txt E r.left).length-s.dG % (txt E r.left).length) % (txt E r.left).length=(txt E r.left).length-s.dG % (txt E r.left).length from aik (by omega)];omega
   .rw[l,e1]
    simp[den,nN,iB,agI]
end M
end
end Go.Proofs.YtgbhohfabhilgaaGreatDoor
