/- WholeEdits returns true for all arguments: edits, their inverses, and the undo tree. -/
import Derived.Test.YtgbhohfabhilgaaGreatDoorEdt03
import Derived.Test.YtgbhohfabhilgaaGreatDoorRows
import Derived.Test.YtgbhohfabhilgaaGreatDoorCards
import Derived.Test.YtgbhohfabhilgaaGreatDoorTie
import Derived.SevenTiedAt
set_option maxRecDepth 100000
set_option maxHeartbeats 8000000
set_option linter.unusedVariables false
set_option linter.unusedSimpArgs false
namespace Go.Proofs.YtgbhohfabhilgaaGreatDoor
open Go.RowKit Go.Lib
namespace M
attribute [local go_sem] Oper.semAt_some
theorem aas.low{b0 n0 T m:Nat}{v:Value}{L:List Nd}{X:List Nat}{W:World}(h:aas b0 W T v L X m)(hb:n0<=b0):aas n0 W T v L X m:=⟨h.box,aP.mono h.lie hb,h.ok,af9 hb h.lo,h.mx⟩
theorem adG{A C:World}{b:Addr}{x:Eax}(h:abZ A b x)(hb:C.heap[b.block]?=A.heap[b.block]?):abZ C b x:=by
 obtain⟨h0,h1,h2,h3,h4⟩:=h
 unfold World.cell? at h0 h1 h2 h3 h4
 unfold abZ World.cell?
 rw[hb]
 exact⟨h0,h1,h2,h3,h4⟩
theorem ab3{W:World}{g i:Nat}{cs:Array Value}{t:TypeId}{v:Value}(h:W.heap[g]?=some (.cells cs t (0,0)))(hv:cs[i]?=some v):W.cell? ⟨g,i,none⟩=some v/\W.frozen? ⟨g,i,none⟩=false:=by simp[World.cell?,World.frozen?,h,hv]
theorem alx(w:World)(x:Eax):∃wz wy w2,w.alloc (.cells #[.int .i64 0,.int .i64 0,.int .i64 0,.int .i64 0,.int .i64 0] 86)=wz/\
    ((((wz.setCell ⟨w.heap.size,0,none⟩ (.int .i64 x.kind)).setCell ⟨w.heap.size,1,none⟩ (.int .i64 x.pos)).setCell ⟨w.heap.size,2,none⟩ (.int .i64 x.n)).setCell ⟨w.heap.size,3,none⟩ (.int .i64 x.af4)).setCell ⟨w.heap.size,4,none⟩ (.int .i64 x.id)=wy/\wy.setCell ⟨w.heap.size,4,none⟩ (.int .i64 0)=w2/\aae w2 w.heap.size ⟨x.kind,x.pos,x.n,x.af4,0⟩/\Below w.heap.size w w2/\aae wz w.heap.size edZ/\wy.cell? ⟨w.heap.size,4,none⟩=some (.int .i64 x.id)/\wy.frozen? ⟨w.heap.size,4,none⟩=false:=by
 have k0:aae (w.alloc (.cells #[.int .i64 0,.int .i64 0,.int .i64 0,.int .i64 0,.int .i64 0] 86)) w.heap.size edZ:=aD _ _
 have b0:Below w.heap.size w (w.alloc (.cells #[.int .i64 0,.int .i64 0,.int .i64 0,.int .i64 0,.int .i64 0] 86)):=(af6 _ _).alloc (af7 _) _
 have k1:=aC (i:=4) (.int .i64 x.id) (aC (i:=3) (.int .i64 x.af4) (aC (i:=2) (.int .i64 x.n) (aC (i:=1) (.int .i64 x.pos) (aC (i:=0) (.int .i64 x.kind) k0))))
 refine⟨_,_,_,rfl,rfl,rfl,aC (i:=4) (.int .i64 0) k1,(((((b0.setCell (p:=⟨w.heap.size,0,none⟩) (af7 _) _).setCell (p:=⟨w.heap.size,1,none⟩) (af7 _) _).setCell (p:=⟨w.heap.size,2,none⟩) (af7 _) _).setCell (p:=⟨w.heap.size,3,none⟩) (af7 _) _).setCell (p:=⟨w.heap.size,4,none⟩) (af7 _) _).setCell (p:=⟨w.heap.size,4,none⟩) (af7 _) _,k0,?_,?_⟩
 .exact(ab3 k1 rfl).1
 .exact(ab3 k1 rfl).2
theorem aco{W:World}(ht:Tab W)(hg0:0<W.heap.size)(s:ByteArray){v1 v2:Value}{S1:List Eax}{S2:List ByteArray}(h1:adx W v1 S1)(h2:ady W v2 S2):
    Calls Tryz.prog 7 #[.string s,v1,v2] W λe w'=>e=.returned (.bool true)/\Below W.heap.size W w':=by
 have HF:∀f,Fence.wide.fn f:=λ_=>trivial
 have fV:=ak (JQ ht hg0)
 have HT:=ak (And.intro ht hg0)
 obtain⟨a1,c1,rfl,hc1,hm1,hr1⟩:=h1
 obtain⟨a2,c2,rfl,hc2,hm2,hr2⟩:=h2
 have HR1:=ak hr1;have HR2:=ak hr2
 obtain⟨n1,hn1⟩:=ay (S1.length)
 obtain⟨n2,hn2⟩:=ay (S2.length)
 have HN:=ak (And.intro hn1 (And.intro hn2 (And.intro hm1 hm2)))
 rw[hn1,hn2]
 clear ht hg0 hr1 hr2 hc1 hc2 hm1 hm2 hn1 hn2
 by_cases hs:s.size<=60/\n1<=8/\n2<=8
 rotate_left
 .by_cases hs0:s.size<=60
  rotate_left
  .have g1:(s.size:Int)>60:=by omega
   clear hs hs0
   go_enter Tryz.func7,Tryz.ntmps7
   go_wp2_with fail
   refine fV.o.mono ?_
   rintro e w1 ⟨rfl,b1⟩
   have HB1:=ak b1
   clear b1
   go_wp2_with fail
   exact af_ (v:=.bool true) (by simp[results,Tryz.results7,go_sem]) rfl ⟨rfl,HB1.o⟩
  have g1:¬(s.size:Int)>60:=by omega
  by_cases hs1:n1<=8
  rotate_left
  .have g2:(n1:Int)>8:=by omega
   clear hs hs0 hs1
   go_enter Tryz.func7,Tryz.ntmps7
   go_wp2_with fail
   refine fV.o.mono ?_
   rintro e w1 ⟨rfl,b1⟩
   have HB1:=ak b1
   clear b1
   go_wp2_with fail
   exact af_ (v:=.bool true) (by simp[results,Tryz.results7,go_sem]) rfl ⟨rfl,HB1.o⟩
  have g2:¬(n1:Int)>8:=by omega
  have g3:(n2:Int)>8:=by omega
  clear hs hs0 hs1
  go_enter Tryz.func7,Tryz.ntmps7
  go_wp2_with fail
  refine fV.o.mono ?_
  rintro e w1 ⟨rfl,b1⟩
  have HB1:=ak b1
  clear b1
  go_wp2_with fail
  exact af_ (v:=.bool true) (by simp[results,Tryz.results7,go_sem]) rfl ⟨rfl,HB1.o⟩
 have g1:¬(s.size:Int)>60:=by omega
 have g2:¬(n1:Int)>8:=by omega
 have g3:¬(n2:Int)>8:=by omega
 have iF:=ak hs
 have KZ:aA ((jE s).length<=60):=ak (by rw[aG];exact hs.1)
 clear hs
 go_enter Tryz.func7,Tryz.ntmps7
 go_wp2_with fail
 refine fV.o.mono ?_
 rintro e w1 ⟨rfl,b1⟩
 have HO:=ak (Fa (HT.o.1.below b1 HT.o.2) (ahm HT.o.2 b1.size))
 have HB1:=ak b1
 clear b1
 go_wp2_with fail
 clear g1 g2 g3
 refine HO.o.mono ?_
 rintro e w2 ⟨B,g,pa,mb,kb,rfl,d2,b2⟩
 obtain⟨wz,w3,hz,hss,k3,b3,⟨q0,q1⟩,r0,r1⟩:=Zc w2 B mb
 obtain⟨gd,hgd⟩:=ay (w2.heap.size)
 obtain⟨n0,hn0⟩:=ay (w1.heap.size)
 have HW3:aA (Below W.heap.size W w3):=ak (Below.after (Below.after HB1.o b2) b3)
 rw[hgd]at hss k3 q0 q1 r0 r1
 rw[hn0]at d2
 have gJ:aA (W.heap.size<=n0):=ak (by rw[<-hn0];exact HB1.o.size)
 have HDK:=ak k3
 have HD3:=ak (d2.below b3)
 obtain⟨c0,c1⟩:=k3.cells
 have HC:=ak (L8 HD3.o s (by have:=iF.o;omega) (by simp;have:=iF.o;omega))
 clear d2 b2 b3 k3
 go_wp2_with fail
 clear hz hss q0 q1 r0 r1 hgd hn0 c0 c1
 refine HC.o.mono ?_
 clear HC
 rintro e x1 ⟨E1,ix,rfl,hd,hx,hn,hb,-,bb,kk⟩
 have HD1:=ak hd
 have HX:=ak hb
 have HE1:aA (E1.length<=120):=ak (by have:=KZ.o;simp at hn;omega)
 have HW1:aA (Below W.heap.size W x1):=ak (HW3.o.trans (bb.mono gJ.o))
 have HDK1:aA (DkC x1 gd B mb):=ak (kk.cells _ (by decide) (by decide) _ _ _ HDK.o)
 have HUN:=ak (ado x1 ix)
 clear hd hx hn hb bb kk HD3 HDK
 go_wp2_with fail
 refine HUN.o.mono ?_
 clear HUN
 rintro e w4 ⟨T,vt,NT,rfl,htr,b4⟩
 have HJ0:aA (WeJ n0 B g pa mb kb gd T ix (jE s) E1 w4 0 (.slice none 0 0) ix [] [ix] E1 w4):=ak ⟨HD1.o.below b4,Ext.refl _,by omega,af6 _ _,au b4 HDK1.o,aP.nil _ _ _ _ _,aau.nil _ _ _,agb _,λq hq=>by
  obtain rfl:q=0:=by simpa using hq
  have:=KZ.o
  show(jE s).length<=3000
  omega,HX.o,⟨_,_,htr.low HD1.o.st.lt⟩,rfl,rfl,rfl,HX.o⟩
 have HW4:aA (Below W.heap.size W w4):=ak (Below.after HW1.o b4)
 clear htr b4
 go_wp2_with fail
 go_loopw [11,12,13] (λdv nv iv wr=>∃(j k:Nat) (L:List Edt) (X:List Nat) (E:List En),j<=n1/\iv=.int .i64 j/\nv=.int .i64 k/\WeJ n0 B g pa mb kb gd T ix (jE s) E1 w4 j dv k L X E wr) (λ_ _ iv _=>n1-(intOf iv).toNat)
 case atStart=>exact⟨0,ix,[],[ix],E1,agb _,rfl,rfl,HJ0.o⟩
 case round=>
  clear HJ0
  obtain⟨j,k,L,X,E,hj,rfl,rfl,hJ⟩:=hrel
  obtain⟨da,dc,hdv⟩:=hJ.lie.len
  obtain⟨dl,hdl⟩:=ay (L.length)
  rw[hdl]at hdv
  subst hdv
  have HJ:=ak hJ;have HDL:=ak hdl
  have HWr:aA (Below W.heap.size W wr):=ak (HW4.o.trans (hJ.Dx.mono gJ.o))
  clear hJ hdl
  by_cases hlt:j<n1
  .have hlt2:(j:Int)<(n1:Int):=by omega
   have hj1:j<S1.length:=by rw[HN.o.1];exact hlt
   obtain⟨ba,rfl,hba,hea⟩:=HR1.o j hj1
   replace hea:=adG hea (C:=wr) (by rw[add_block];exact HWr.o.block _ hba)
   have HWD:aA (∀(h:j<n2),∃(bw:Addr) (x:ByteArray),a2=some bw/\∀w,Below wr.heap.size wr w->w.cell? (bw.add j)=some (.string x)):=ak λh=>by
    have hj2:j<S2.length:=by rw[HN.o.2.1];exact h
    obtain⟨bw,e1,e2,e3⟩:=HR2.o j hj2
    refine⟨bw,S2[j],e1,λw hw=>?_⟩
    unfold World.cell? at e3⊢
    rw[add_block]at e3⊢
    rw[(HWr.o.trans (hw.mono HWr.o.size)).block _ e2]
    exact e3
   generalize S1[j]=ea at *
   obtain⟨y0,y1,y2,y3,y4⟩:=hea
   obtain⟨wz,wy,w5,hz,hy,h5,k5,b5,kz,p4,m4⟩:=alx wr ea
   obtain⟨gb,hgb⟩:=ay (wr.heap.size)
   rw[hgb]at hy h5 k5 kz p4 m4
   obtain⟨q0,q1,q2,q3,q4⟩:=kz.cells
   have r0:=kz.free 0;have r1:=kz.free 1;have r2:=kz.free 2;have r3:=kz.free 3;have r4:=kz.free 4
   obtain⟨x0,x1',x2,x3,x4⟩:=k5.cells
   have uJ:=ak k5;have mG:=ak b5
   clear k5 b5 kz hba
   have hrow:∃xw:ByteArray,∀(h:j<n2),∃bw:Addr,a2=some bw/\∀w,Below wr.heap.size wr w->w.cell? (bw.add j)=some (.string xw):=by
    by_cases h:j<n2
    .obtain⟨bw,x,e1,e2⟩:=HWD.o h
     exact⟨x,λ_=>⟨bw,e1,e2⟩⟩
    .exact⟨⟨#[]⟩,λh'=>absurd h' h⟩
   obtain⟨xw,hxw⟩:=hrow
   have HXW:=ak hxw
   have iI:=ak hlt
   clear hxw HWD hlt
   go_upto_region 19 with(fail)
   clear hz hy h5 y0 y1 y2 y3 y4 q0 q1 q2 q3 q4 r0 r1 r2 r3 r4 p4 m4 hlt2
   go_cut [95] from 67 to 142 (λtv w=>∃b:Bool,tv=.bool b/\w=w5/\(b=true->j<n2/\xw.size<=40/\(ea.kind=1\/ea.kind=3)))
   case first=>
    by_cases hw:j<n2
    .obtain⟨bw,rfl,hcw⟩:=HXW.o hw
     have z:=hcw w5 (by first|exact mG.o|(rw[<-hgb];exact mG.o))
     have hj2:(j:Int)<(n2:Int):=by omega
     clear hcw
     by_cases h40:xw.size<=40
     .have g40:(xw.size:Int)<=40:=by omega
      by_cases k1:ea.kind=1
      .rw[k1]at x0
       go_wp2_with fail
       go_meet
       case rel=>exact⟨true,rfl,rfl,λ_=>⟨hw,h40,.inl k1⟩⟩
      .have e1:(ea.kind==1)=false:=agh.2 k1
       by_cases k3:ea.kind=3
       .rw[k3]at x0 e1
        go_wp2_with fail
        go_meet
        case rel=>exact⟨true,rfl,rfl,λ_=>⟨hw,h40,.inr k3⟩⟩
       .have e3:(ea.kind==3)=false:=agh.2 k3
        go_wp2_with fail
        go_meet
        case rel=>exact⟨false,by simp[e1,e3],rfl,λh=>by cases h⟩
     .have g40:¬(xw.size:Int)<=40:=by omega
      go_wp2_with fail
      go_meet
      case rel=>exact⟨false,by simp[g40],rfl,λh=>by cases h⟩
    .have hj2:¬(j:Int)<(n2:Int):=by omega
     go_wp2_with fail
     go_meet
     case rel=>exact⟨false,by simp[hj2],rfl,λh=>by cases h⟩
   obtain⟨b,rfl,eH,hb⟩:=hcut
   obtain rfl:w5=wc:=eH.symm
   clear eH
   go_upto_if 95 with(fail)
   clear x0 x1' x2 x3 x4
   go_cut [15,16] from 67 to 142 (λ_ _ w=>∃(E2:List En) (id:Nat) (u:List Nat),aae w gb ⟨ea.kind,ea.pos,ea.n,ea.af4,id⟩/\jO n0 w B g pa mb kb E2/\Ext E E2/\E2.length<=E.length+80/\fT E2 id u/\u.length<=40/\(ea.kind=4\/ea.kind=5->u=[])/\Below n0 wr w/\Kt B wr w)
   case first=>
    cases b with
    |false=>
     have HR:aA (∃(E2:List En) (id:Nat) (u:List Nat),aae w5 gb ⟨ea.kind,ea.pos,ea.n,ea.af4,id⟩/\jO n0 w5 B g pa mb kb E2/\Ext E E2/\E2.length<=E.length+80/\fT E2 id u/\u.length<=40/\(ea.kind=4\/ea.kind=5->u=[])/\Below n0 wr w5/\Kt B wr w5):=ak ⟨E,0,[],uJ.o,HJ.o.dk.below mG.o,Ext.refl _,by omega,abH _ HJ.o.dk.wf,by simp,λ_=>rfl,mG.o.mono HJ.o.dk.st.lt,Kt.of mG.o⟩
     clear hb
     go_wp2_with fail
     go_meet
     case rel=>exact HR.o
    |true=>
     obtain⟨hjn,h40,aly⟩:=hb rfl
     obtain⟨bw,rfl,hcw⟩:=HXW.o hjn
     have z:∀w,Below w5.heap.size w5 w->w.cell? (bw.add j)=some (.string xw):=λw hw=>hcw w (Below.after mG.o hw)
     have dC:∀w,Below w5.heap.size w5 w->DkC w gd B mb:=λw hw=>au (Below.after mG.o hw) HJ.o.box
     have d0:∀w,Below w5.heap.size w5 w->w.cell? ⟨gd,0,none⟩=some (.pointer (some ⟨B,0,none⟩)):=λw hw=>(dC w hw).cells.1
     have d1:∀w,Below w5.heap.size w5 w->w.cell? ⟨gd,1,none⟩=some (.pointer (some ⟨mb,0,none⟩)):=λw hw=>(dC w hw).cells.2
     have hj2:(j:Int)<(n2:Int):=by omega
     have hj0:0<=(j:Int):=by omega
     have HH:=ak (And.intro h40 aly)
     have M_:aA (∀w,Below w5.heap.size w5 w->Calls Tryz.prog 23 #[dkV B mb,.string xw] w (IdP n0 B g pa mb kb E w (jE xw))):=ak λw hw=>L8 (HJ.o.dk.below (Below.after mG.o hw)) xw (by omega) (by have:=HJ.o.few;have:=HE1.o;have:=iI.o;have:=iF.o;omega)
     clear hb hcw h40 aly dC hjn
     go_wp2_with fail
     refine aU (Below w5.heap.size w5) ?_
     obtain⟨wq,hwq⟩:=ay (w5.drew)
     have S0:Below w5.heap.size w5 wq:=by rw[<-hwq];exact(af6 _ _).drew
     rw[hwq]
     clear hwq
     refine zD 0 1 2 3 4 ?_
     refine aJ.wall (i:=5) (by kernel_rfl) rfl HF (by rfl) (λK hK=>?_)
     go_simp
     try with_reducible refine⟨rfl,?_⟩
     refine agq.2 ((M_.o _ S0).mono ?_)
     rintro e w6 ⟨E6,i6,rfl,s6,x6,n6,b6,-,bb6,kt6⟩
     have HW:=ak (And.intro s6 (And.intro x6 (And.intro n6 (And.intro b6 (And.intro bb6 kt6)))))
     have T0:uz w6:=trivial
     refine hK uz _ _ ?_
     clear hK K s6 x6 n6 b6 bb6 kt6
     refine zD 6 7 8 9 10 ?_
     refine aO ?_
     have k6:aae w6 gb ⟨ea.kind,ea.pos,ea.n,ea.af4,0⟩:=(show aae wq gb _ from au S0 uJ.o).kt HW.o.2.2.2.2.2
     have p4:=k6.cells.2.2.2.2
     have m4:=k6.free 4
     obtain⟨w7,hw7⟩:=ay (w6.setCell ⟨gb,4,none⟩ (.int .i64 i6))
     have HR:aA (∃(E2:List En) (id:Nat) (u:List Nat),aae w7 gb ⟨ea.kind,ea.pos,ea.n,ea.af4,id⟩/\jO n0 w7 B g pa mb kb E2/\Ext E E2/\E2.length<=E.length+80/\fT E2 id u/\u.length<=40/\(ea.kind=4\/ea.kind=5->u=[])/\Below n0 wr w7/\Kt B wr w7):=ak (by
      obtain⟨s6,x6,n6,b6,bb6,kt6⟩:=HW.o
      have bq:=Below.after mG.o S0
      have hgw:wr.heap.size<=gb:=by rw[hgb];exact af7 _
      have hb6:Below n0 wr w6:=(bq.mono HJ.o.dk.st.lt).trans bb6
      have ho:bS [86] w6 w7:=by rw[<-hw7];exact bS.set (a:=⟨gb,4,none⟩) k6 (by simp) _
      have oI:Below n0 w6 w7:=by rw[<-hw7];exact(af6 _ _).setCell (p:=⟨gb,4,none⟩) (af9 HJ.o.dk.st.lt hgw) _
      refine⟨E6,i6,jE xw,by rw[<-hw7];exact k6.aaQ _,s6.Vs ho oI (by simp),x6,by have:=HH.o.1;rw[aG]at n6;omega,b6,by rw[aG];exact HH.o.1,λh=>by have:=HH.o.2;omega,hb6.trans oI,((Kt.of bq).trans kt6).then (by rw[<-hw7];exact(af6 _ _).setCell (p:=⟨gb,4,none⟩) hgw _)⟩)
     clear k6 S0 z d0 d1
     go_wp2_with fail
     go_meet
     case rel=>exact HR.o
   obtain⟨E2,id,u,hk2,hd2,hx2,hn2,hb2,hu2,hu0,bb2,kt2⟩:=hcut
   have HE2:=ak (And.intro hd2 (And.intro hx2 (And.intro hn2 (And.intro hb2 (And.intro hu2 (And.intro hu0 (And.intro bb2 kt2)))))))
   have nY:=ak hk2
   have alz:aA (DkC wc gd B mb):=ak (kt2.cells _ (by decide) (by decide) _ _ _ HJ.o.box)
   obtain⟨x0,x1',x2,x3,x4⟩:=hk2.cells
   have c0:=alz.o.cells.1
   have htn:(aaf E (jE s) L).length<=3000:=by have:=HJ.o.tx3 L.length (af7 _);rwa [ahe]at this
   have Nz:=ak (ak1 (t:=aaf E (jE s) L) (u:=u) (e:=⟨ea.kind,ea.pos,ea.n,ea.af4,id⟩) hd2 (HJ.o.now.ext hx2) hb2 hu0 htn (by omega) (by have:=HJ.o.few;have:=HE1.o;have:=iI.o;have:=iF.o;omega))
   have hwj:IntKind.i64.wrap ((j:Int)+1)=((j+1:Nat):Int):=by have:=iI.o;have:=iF.o;rw[agd];omega
   have HTN:=ak htn
   clear hk2 hd2 hx2 hn2 hb2 hu2 hu0 bb2 kt2 htn hb uJ mG HXW
   go_wp2_with fail
   clear x0 x1' x2 x3 x4 c0
   refine Nz.o.mono ?_
   clear Nz
   rintro e w7 (⟨hf,E7,k7,rfl,d7,x7,n7,b7,bb7,kt7⟩|⟨c,rfl,b7⟩)
   rotate_left
   .have HR:aA (WeJ n0 B g pa mb kb gd T ix (jE s) E1 w4 (j+1) (.slice da dl dc) k L X E2 w7):=ak (by
     obtain⟨hd2,hx2,hn2,hb2,hu2,hu0,bb2,kt2⟩:=HE2.o
     exact(HJ.o.call hd2 hx2 (aiT _) (by have:=HJ.o.few;omega) bb2 kt2).below b7 (af7 _))
    clear b7
    go_wp2_with fail
    go_roundw
    case rel=>exact⟨j+1,k,L,X,E2,iI.o,rfl,rfl,HR.o⟩
    case measure=>have:=iI.o;simp[intOf];omega
   obtain⟨wt,hwl,hwt⟩:=acT d7 b7 (by have:=HJ.o.few;have:=HE1.o;have:=iI.o;have:=iF.o;have:=HE2.o.2.2.1;omega)
   have Oi:=ak hwt
   have HWL:=ak hwl
   have H7:=ak (And.intro hf (And.intro d7 (And.intro x7 (And.intro n7 (And.intro b7 (And.intro bb7 kt7))))))
   have alA:aA (DkC w7 gd B mb):=ak (kt7.cells _ (by decide) (by decide) _ _ _ alz.o)
   have c0:=alA.o.cells.1
   clear hf d7 x7 n7 b7 bb7 kt7 hwt hwl
   unfold wK at Oi
   go_wp2_with fail
   clear c0
   refine Oi.o.mono ?_
   clear Oi
   rintro e w8 ⟨rfl,b8⟩
   obtain⟨wv,w9,hv,hsv,k9,b9,⟨q0,q1,q2,q3,q4,q5⟩,r0,r1,r2,r3,r4,r5⟩:=kE w8 wt
   have v0:=k9.cells.1
   have HB9:=ak (Below.after b8 b9)
   clear b8 b9 k9
   by_cases h3:wt.len<=3000
   rotate_left
   .have g3:(wt.len:Int)>3000:=by omega
    have HR:aA (Below W.heap.size W w9):=ak (((HWr.o.trans ((HE2.o.2.2.2.2.2.2.1).mono gJ.o)).trans (H7.o.2.2.2.2.2.1.mono gJ.o)).trans (HB9.o.mono (af9 gJ.o H7.o.2.1.st.lt)))
    clear h3
    go_wp2_with fail
    exact af_ (v:=.bool true) (by simp[results,Tryz.results7,go_sem]) rfl ⟨rfl,HR.o⟩
   have g3:¬(wt.len:Int)>3000:=by omega
   have HK9:aA (aae w9 gb ⟨ea.kind,ea.pos,ea.n,ea.af4,id⟩):=ak (au HB9.o (nY.o.kt H7.o.2.2.2.2.2.2))
   obtain⟨y0,y1,y2,y3,y4⟩:=HK9.o.cells
   have ak2:Kt B wr w9:=(HE2.o.2.2.2.2.2.2.2.trans H7.o.2.2.2.2.2.2).trans (Kt.of HB9.o)
   have ak3:Below n0 wr w9:=(HE2.o.2.2.2.2.2.2.1.trans H7.o.2.2.2.2.2.1).trans (HB9.o.mono H7.o.2.1.st.lt)
   have HL9:aA (Eds n0 w9 (.slice da dl dc) L):=ak (HJ.o.lie.kt ak2)
   have HKT9:=ak (And.intro ak2 ak3)
   have ak4:n0<=w9.heap.size:=af9 HJ.o.dk.st.lt ak3.size
   have alB:(L.length+1)*40<=140737488355328:=by have:=HJ.o.len;have:=iI.o;have:=iF.o;omega
   have H3:=ak h3
   clear h3 ak2 ak3
   go_wp2_with (first
    | (at_builtin;refine bP (v:=.slice da dl dc) acf aax rfl _ _ rfl rfl HL9.o ⟨ea.kind,ea.pos,ea.n,ea.af4,id⟩ rfl rfl ?c1 ?c2 ak4 ?_))
   case c1=>simp[abE,Value.oneCell']
   case c2=>exact alB
   intro v5 wA hSA hgA hbA
   clear hv hsv q0 q1 q2 q3 q4 q5 r0 r1 r2 r3 r4 r5 v0 y0 y1 y2 y3 y4 g3
   have hoA:bS [86] w9 wA:=bS.own HL9.o ((af6 _ _).alloc (af7 _) _) hgA (by simp)
   have HA:=ak (And.intro hSA (And.intro hbA hoA))
   obtain⟨vt,NT,htr⟩:=HJ.o.tre
   have alD:aas n0 wA T vt NT X L.length:=by
    have h9:=htr.kd (.kt HKT9.o.1)
    exact⟨hoA.cells h9.box (by decide),aP.keep h9.lie (λk cs fz e=>hoA.cells e (by decide)),h9.ok,h9.lo,h9.mx⟩
   have HDO:=ak (afw alD (af9 ak4 hoA.size) (by rw[HJ.o.xl]) (by rw[HJ.o.xl];have:=HJ.o.len;have:=iI.o;have:=iF.o;omega) k7)
   clear hSA hgA hbA hoA htr alD ak4 alB
   go_wp2_with fail
   refine HDO.o.mono ?_
   clear HDO
   rintro e wB ⟨rfl,htB,bB,oB⟩
   have HR:aA (WeJ n0 B g pa mb kb gd T ix (jE s) E1 w4 (j+1) v5 k7 (L++[⟨ea.kind,ea.pos,ea.n,ea.af4,id⟩]) (X++[k7]) E7 wB):=ak (by
    obtain⟨hd2,hx2,hn2,hb2,hu2,hu0,bb2,kt2⟩:=HE2.o
    obtain⟨hf,d7,x7,n7,b7,bb7,kt7⟩:=H7.o
    obtain⟨hSA,hbA,hoA⟩:=HA.o
    have h2:=HJ.o.call hd2 hx2 (aiT j) (by have:=HJ.o.few;omega) bb2 kt2
    have mW:=aar hx2 L (jE s) HJ.o.ok.id
    have htx:txt E2 id=u:=hb2.txt
    have hTN:=HTN.o
    have he:EOk E2 9000 (aaf E2 (jE s) L) ⟨ea.kind,ea.pos,ea.n,ea.af4,id⟩:=by
     rw[mW]
     exact⟨hf,by dsimp only;rw[htx];exact hb2,by dsimp only;rw[htx];omega⟩
    have hfw:=HJ.o.few
    have hln:=HJ.o.len
    have hd9:=((d7.below HB9.o).Vs hoA hbA (by simp)).Vs oB bB (by simp[tsU])
    refine h2.step he hd9 x7 (by omega) (by omega) (((bb7.trans (HB9.o.mono d7.st.lt)).trans hbA).trans bB) (oB.cells (hoA.cells (au HB9.o alA.o) (by decide)) (by decide)) (aP.keep hSA (oB.lX (by decide))) ?_ ?_ htB
    .rw[mW];dsimp only;rw[htx];exact b7
    .rw[mW];dsimp only;rw[htx,<-HWL.o];exact H3.o)
   clear htB bB oB
   go_wp2_with fail
   go_roundw
   case rel=>exact⟨j+1,k7,_,_,E7,iI.o,rfl,rfl,HR.o⟩
   case measure=>have:=iI.o;simp[intOf];omega
  .obtain rfl:j=n1:=by omega
   have hj8:j<=8:=iF.o.2.1
   have hl8:L.length<=8:=af9 HJ.o.len hj8
   have alE:=HJ.o
   have hle1:E.length<=68120:=by have:=HJ.o.few;have:=HE1.o;omega
   obtain⟨tx,htx⟩:=ay (aaf E (jE s) L)
   have HTX:=ak htx
   have alF:tx.length<=3000:=by have:=HJ.o.tx3 L.length (af7 _);rw[ahe,htx]at this;exact this
   have alG:=ak alF
   have P8:=ak (acE HJ.o.dk HJ.o.hx HJ.o.lie HJ.o.ok hl8 (by omega))
   have HL8:=ak (And.intro hl8 (And.intro hle1 hj8))
   have c0:=(show DkC wr gd B mb from HJ.o.box).cells.1
   have hng:¬(j:Int)<(j:Int):=by omega
   rw[htx]at P8
   clear alE hj hj8 hl8 hle1 htx alF hlt
   go_wp2_with fail
   clear c0
   refine P8.o.mono ?_
   clear P8
   rintro e wa ⟨Ea,ja,rfl,da,xa,na,ba,bba,kta⟩
   have HJa:=ak (HJ.o.call da xa (akc j 8) (by have:=HJ.o.few;omega) bba kta)
   have HBa:=ak ba
   have HNa:=ak na
   have ak5:aaf Ea (jE s) L=tx:=by rw[aar xa _ _ HJ.o.ok.id];exact HTX.o
   have HTXa:=ak ak5
   have HIN:=ak (afO HJa.o.dk HJa.o.hx HJa.o.lie HJa.o.ok HL8.o.1 HJa.o.tx3 (by have:=HL8.o;omega))
   rw[ak5]at HIN
   have c0:=(show DkC wa gd B mb from HJa.o.box).cells.1
   clear da xa na ba bba kta ak5
   go_wp2_with fail
   clear c0
   refine HIN.o.mono ?_
   clear HIN
   rintro e wb ⟨Eb,vb,R,rfl,db,xb,nb,lb,lR,okR,ak6,bbb,ktb⟩
   have HJb:=ak (HJa.o.call db xb (akc (j+8) 10) (by have:=HJa.o.few;omega) bbb ktb)
   have HBb:=ak (HBa.o.ext xb)
   have HNb:=ak nb
   have HRR:=ak (And.intro lR ak6);have HXb:=ak xb
   have P8:=ak (acE db HBb.o lb okR (by rw[lR];exact HL8.o.1) (by have:=HL8.o;have:=HNa.o;omega))
   have c0:=(show DkC wb gd B mb from HJb.o.box).cells.1
   rw[ak6]at P8
   obtain⟨va,vc,rfl⟩:=lb.len
   clear db xb nb lb lR okR ak6 bbb ktb
   go_wp2_with fail
   clear c0
   refine P8.o.mono ?_
   clear P8
   rintro e wc ⟨Ec,jc,rfl,dc,xc,nc,bc,bbc,ktc⟩
   have HJc:=ak (HJb.o.call dc xc (akc (j+8+10) 8) (by have:=HJb.o.few;omega) bbc ktc)
   have HBc:=ak (HBb.o.ext xc)
   have HHc:=ak bc
   have acV:=HJc.o.now
   have alH:aaf Ec (jE s) L=tx:=by
    rw[aar xc _ _ HJb.o.ok.id,aar HXb.o _ _ HJa.o.ok.id]
    exact HTXa.o
   rw[alH]at acV
   have hec:Ec.length<=300000:=by have:=HJc.o.few;have:=HE1.o;have:=HL8.o;omega
   have h3x:=alG.o
   have uh:=ak (ab2 dc HBc.o acV h3x h3x (by omega))
   rw[agw rfl]at uh
   have Sa:=ak acV
   have HEC:=ak hec
   have c1:=(show DkC wc gd B mb from HJc.o.box).cells.2
   clear dc xc nc bc bbc ktc acV alH hec h3x
   go_wp2_with fail
   clear c1
   refine uh.o.mono ?_
   clear uh
   rintro e wd ⟨Ed,rfl,hst⟩
   have HBx:aA (DkC wd gd B mb):=ak (hst.kd _ (by decide) (by decide) _ _ _ HJc.o.box)
   have hfd:=hst.few
   have h3x:=alG.o
   have uh:=ak (ab2 hst.dk (HHc.o.ext hst.ext) (HJc.o.hx.ext hst.ext) (by have:=KZ.o;omega) (by have:=KZ.o;omega) (by have:=KZ.o;have:=HEC.o;omega))
   rw[agw rfl]at uh
   have HST:=ak hst
   have c1:=HBx.o.cells.2
   clear hst hfd h3x
   go_wp2_with fail
   clear c1
   refine uh.o.mono ?_
   clear uh
   rintro e we ⟨Ee,rfl,VK⟩
   have hbe:Below W.heap.size W we:=((HW4.o.trans (HJc.o.Dx.mono gJ.o)).trans (HST.o.Dx.mono gJ.o)).trans (VK.Dx.mono gJ.o)
   obtain⟨vt,NT,htr⟩:=HJc.o.tre
   have alI:=(htr.kd HST.o.kd).kd VK.kd
   have alJ:n0<=we.heap.size:=Nat.le_of_lt_succ (Nat.lt_succ_of_le VK.dk.st.lt)
   have HTR:=ak (And.intro alI (And.intro hbe alJ))
   have HXL:=ak (And.intro HJc.o.xl (And.intro HJc.o.x0 HJc.o.xk))
   have HLD:aA (L.length=dl):=HDL
   clear VK hbe htr alI alJ
   go_wp2_with fail
   go_loopw [28] (λcv wr=>∃q:Nat,q<=dl/\cv=.int .i64 q/\aas n0 wr T vt NT X (dl-q)/\Below W.heap.size W wr/\n0<=wr.heap.size) (λcv _=>dl-(intOf cv).toNat)
   case atStart=>exact⟨0,agb _,rfl,by rw[ajb,<-HLD.o];exact HTR.o.1,HTR.o.2.1,HTR.o.2.2⟩
   case round=>
    clear HTR
    obtain⟨q,hq,rfl,ht,hbw,hnw⟩:=hrel
    have hdl8:dl<=8:=by have:=HL8.o.1;have:=HLD.o;omega
    by_cases hlt:q<dl
    .have hlt2:(q:Int)<(dl:Int):=by omega
     have HUN:=ak (acJ ht hnw (k:=dl-q-1) (by omega))
     have HB:=ak (And.intro hbw (And.intro hnw hlt))
     have hwq:IntKind.i64.wrap ((q:Int)+1)=((q+1:Nat):Int):=by rw[agd];omega
     clear ht hbw hnw hlt hq
     go_wp2_with fail
     refine HUN.o.mono ?_
     rintro e w2 ⟨rfl,ht2,b2⟩
     have HT2:=ak (And.intro ht2 b2)
     clear ht2 b2
     go_wp2_with fail
     go_roundw
     case rel=>exact⟨q+1,HB.o.2.2,rfl,by have:=HT2.o.1;rwa [show dl-q-1=dl-(q+1) by omega]at this,HB.o.1.trans (HT2.o.2.mono gJ.o),af9 HB.o.2.1 HT2.o.2.size⟩
     case measure=>have:=HB.o.2.2;simp[intOf];omega
    .obtain rfl:q=dl:=by omega
     rw[aiz]at ht
     have hX0:0<X.length:=by rw[HXL.o.1];omega
     have hXk:q<X.length:=by rw[HXL.o.1,HLD.o];omega
     have e0:X[0]=ix:=by
      have:=HXL.o.2.1
      rw[agt hX0]at this
      exact agQ this
     have ek:X[q]=k:=by
      have:=HXL.o.2.2
      rw[HLD.o,agt hXk]at this
      exact agQ this
     have HNW1:=ak (abX ht)
     have alK:=ak (abP ht hX0)
     rw[e0]at alK
     have HRT:=ak (acM ht)
     have HEK:=ak (show ∃h:q<X.length,X[q]=k from⟨hXk,ek⟩)
     have HT0:=ak (And.intro ht (And.intro hbw hnw))
     clear ht hbw hnw hlt hq e0 ek hX0 hXk
     go_wp2_with fail
     refine HNW1.o.mono ?_;rintro r w ⟨rfl,h⟩;rw[h];clear h w
     go_wp2_with fail
     refine alK.o.mono ?_;rintro r w ⟨rfl,h⟩;rw[h];clear h w
     go_wp2_with fail
     refine HRT.o.mono ?_;rintro r w ⟨rfl,h⟩;rw[h];clear h w
     go_wp2_with fail
     go_loopw [30] (λcv wr=>∃p:Nat,p<=q/\cv=.int .i64 p/\aas n0 wr T vt NT X p/\Below W.heap.size W wr/\n0<=wr.heap.size) (λcv _=>q-(intOf cv).toNat)
     case atStart=>exact⟨0,agb _,rfl,HT0.o⟩
     case round=>
      clear HT0
      obtain⟨p,hp,rfl,ht,hbw,hnw⟩:=hrel
      by_cases hlt:p<q
      .have hlt2:(p:Int)<(q:Int):=by omega
       have HUN:=ak (acP ht hnw (k:=p+1) rfl (by obtain⟨h,-⟩:=HEK.o;omega))
       have HB:=ak (And.intro hbw (And.intro hnw hlt))
       have hwq:IntKind.i64.wrap ((p:Int)+1)=((p+1:Nat):Int):=by rw[agd];omega
       clear ht hbw hnw hlt hp
       go_wp2_with fail
       refine HUN.o.mono ?_
       rintro e w2 ⟨rfl,ht2,b2⟩
       have HT2:=ak (And.intro ht2 b2)
       clear ht2 b2
       go_wp2_with fail
       go_roundw
       case rel=>exact⟨p+1,HB.o.2.2,rfl,HT2.o.1,HB.o.1.trans (HT2.o.2.mono gJ.o),af9 HB.o.2.1 HT2.o.2.size⟩
       case measure=>have:=HB.o.2.2;simp[intOf];omega
      .obtain rfl:p=q:=by omega
       have Sb:=ak (abX ht)
       obtain⟨hXp,ekp⟩:=HEK.o
       have alL:=ak (abP ht hXp)
       rw[ekp]at alL
       have vk:=ak hbw
       clear ht hbw hnw hlt hp ekp
       go_wp2_with fail
       refine Sb.o.mono ?_;rintro r w ⟨rfl,h⟩;rw[h];clear h w
       go_wp2_with fail
       refine alL.o.mono ?_;rintro r w ⟨rfl,h⟩;rw[h];clear h w
       go_wp2_with fail
       exact af_ (v:=.bool true) (by simp[results,Tryz.results7,go_sem]) rfl ⟨rfl,vk.o⟩
end M
end Go.Proofs.YtgbhohfabhilgaaGreatDoor
namespace Go.Proofs.YtgbhohfabhilgaaGreatDoor.wholeEdits
open Go.ChangeShapes Go.WideShapes Go.ChangeAt Go.RowKit Go.OpenShut Go.ChangeMaps
theorem own:ownKnob Tryz.prog.godebug=none:=by kernel_rfl
theorem laidOut:laidOutB Tryz.prog=true:=by kernel_rfl
theorem lifted(os:Os)(started:os.Started)(H:Type)(enc:TypeId×Value->H):
    ReturnsInHanded {} Tryz.checked os 7 .any (λw args=>(Rows.wholeEditsSpec.pre enc Tryz.prog Tryz.f7 [] false w args/\laidMetH Tryz.prog M.JU w)/\sizedMet enc Tryz.prog Tryz.f7 (OpenSpec.ofChange Rows.wholeEditsSpec) false w args)
     (Rows.wholeEditsSpec.post enc Tryz.prog Tryz.f7 false true false false):=by
 refine returnsInHanded_of_change_and (C:=Tryz.checked) (X:=λw _=>laidMetH Tryz.prog M.JU w) (λ_ _ _ hh h=>h.of_heap hh) own started (by kernel_rfl) Tryz.func7
  (ChangeSpec.witness_at (enc:=enc) (C:=Tryz.checked) (os:=os) (X:=λw _=>laidMetH Tryz.prog M.JU w) false (M.Fb os) #[.string ⟨#[]⟩,.slice none 0 0,.slice none 0 0] 8 rfl (by kernel_rfl) (by kernel_rfl) (by kernel_rfl) (by kernel_rfl) (by kernel_rfl) (M.D7 os _)) ?_
 intro W base args ds gs before hval0 hW _ _ hL _
 have hval:∀(j:Nat) t v,Tryz.f7.params[j]?=some t->args[j]?=some v->Value.okWide Tryz.prog W .any base t v:=hval0
 have hW':=hW
 obtain⟨p,q,hA0,hV,rfl,-,-⟩:=hW
 have hA:DataW.TrodAll enc Tryz.prog W 0 (λ_=>true) true Tryz.f7.params.toList args.toList ds p:=hA0
 rw[Tryz.params7]at hA hval
 obtain⟨v0,vs0,d0,ds0,p0,q0,hv0,rfl,rfl,h0,hA⟩:=trodAll_cons hA
 obtain⟨v1,vs1,d1,ds1,p1,q1,rfl,rfl,rfl,h1,hA⟩:=trodAll_cons hA
 obtain⟨v2,vs2,d2,ds2,p2,q2,rfl,rfl,rfl,h2,hA⟩:=trodAll_cons hA
 obtain⟨rfl,rfl,rfl⟩:=trodAll_nil hA
 obtain rfl:args=#[v0,v1,v2]:=by cases args;simp_all
 obtain⟨rfl,rfl⟩:=trodVars_none hV
 obtain⟨s,rfl,rfl,rfl,hs⟩:=open_string Tryz.underlying9 (hval 0 9 v0 rfl rfl) h0
 obtain⟨a1,len1,Lu,rfl⟩:=okWide_slice Tryz.underlying81 (hval 1 81 v1 rfl rfl)
 obtain⟨a2,len2,cap2,rfl⟩:=okWide_slice Tryz.underlying82 (hval 2 82 v2 rfl rfl)
 clear hA0 hval0
 simp only[agi,agH]at hW'
 have hlt:∀x∈p1++p2,x.block<W.heap.size:=λx hx=>by simpa using hW'.lt x (by simpa using hx)
 obtain⟨S1,hS1⟩:=M.acS ⟨a1,len1,Lu,rfl⟩ h1
 obtain⟨S2,hS2⟩:=M.adD ⟨a2,len2,cap2,rfl⟩ h2
 have ht:=M.JV hL
 refine(M.aco ht ht.lt s hS1 hS2).mono λe W' ⟨he,hg⟩=>?_
 subst he
 exact⟨_,rfl,L_ (pa:=[]++(p1++(p2++[]))) (pv:=[]) hW' (λ_ _ _=>ajH (shut_bool Tryz.underlying4 _) trodAll_mk0)
  (ajH (shut_string Tryz.underlying9 hs) (ajH (Below.trod laidOut (by kernel_rfl) (ahz (by kernel_rfl)) h1 hg (λx hx=>hlt x (ahd _ hx))) (ajH (Below.trod laidOut (by kernel_rfl) (ahz (by kernel_rfl)) h2 hg (λx hx=>hlt x (aiE _ hx))) trodAll_mk0))) rfl (by simp) hg⟩
theorem said:Rows.WholeEditsSaid:=
 OpenClaim.holds_of_wide 7 Tryz.f7 rfl rfl rfl rfl rfl rfl rfl ⟨rfl,rfl,rfl,rfl,rfl⟩ rfl rfl rfl rfl rfl (by kernel_rfl) Tryz.func7 (by kernel_rfl)
  (ahz (by kernel_rfl)) (by unfold Func.isWrapper;first|(rw[af5 (by decide+kernel)];kernel_rfl)|(rw[af4 (by decide+kernel)];exact⟨rfl,rfl⟩))
  (λos started H enc _=>lifted os started H enc)
theorem proved:Rows.WholeEditsCardSaid:=
 Claim7.holds_tied_plain_at .later [] [.data] true (true, "74b4870b50e075a54fe619d530512f60bac0e18dfc4d04e93ec80595b2cb9047") false
  said (λ_ h=>by cases h) (by kernel_rfl) (λ_ h=>by cases h) wholeEdits_row_tie rfl ⟨rfl,rfl⟩ (by kernel_rfl) rfl
  (λf fn hf hfn=>by
   obtain rfl:f=7:=agQ ((show Tryz.prog.funcNamed "evergreen/evergreentop.WholeEdits" =some 7 by kernel_rfl).symm.trans hf) |>.symm
   obtain rfl:fn=Tryz.f7:=(agQ (Tryz.func7.symm.trans hfn)).symm
   exact⟨by kernel_rfl,λj t ht=>by
    rw[Tryz.params7]at ht
    have h3:t=9\/t=81\/t=82:=by
     rcases j with _|_|_|j
     .exact .inl (by simpa using ht.symm)
     .exact .inr (.inl (by simpa using ht.symm))
     .exact .inr (.inr (by simpa using ht.symm))
     .simp at ht
    rcases h3 with rfl|rfl|rfl
    .exact(show Tryz.prog.wantsStandIn 9=false by kernel_rfl)
    .exact(show Tryz.prog.wantsStandIn 81=false by kernel_rfl)
    .exact(show Tryz.prog.wantsStandIn 82=false by kernel_rfl)⟩)
  (by kernel_rfl)
#print axioms proved
end Go.Proofs.YtgbhohfabhilgaaGreatDoor.wholeEdits
