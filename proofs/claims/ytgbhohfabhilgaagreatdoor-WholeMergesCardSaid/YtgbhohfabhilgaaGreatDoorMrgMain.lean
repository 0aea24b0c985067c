/- WholeMerges returns true for all arguments: the desk's merge of two lists of changes. -/
import Derived.Test.YtgbhohfabhilgaaGreatDoorMrg03
import Derived.Test.YtgbhohfabhilgaaGreatDoorRows
import Derived.Test.YtgbhohfabhilgaaGreatDoorCards
import Derived.Test.YtgbhohfabhilgaaGreatDoorTie
import Derived.SevenTiedAt
set_option maxRecDepth 100000
set_option maxHeartbeats 8000000
set_option linter.unusedVariables false
set_option linter.unusedSimpArgs false
namespace Go.Proofs.YtgbhohfabhilgaaGreatDoor
open Go.RowKit Go.Lib
namespace M
attribute [local go_sem] Oper.semAt_some
theorem af1{n:Nat}(h:n<=24):vN 13 n<=54880:=by unfold vN;rw[GR];omega
theorem alH(w:World)(n:Nat)(h:n<=1000):(Instr.makeSlice 23 (.int .i64 (n:Int)) (.int .i64 (n:Int))).run Tryz.prog w=.ok (.slice (some ⟨w.heap.size,0,none⟩) n n) (w.alloc (.cells (madeCells #[Value.int .i64 0] n) 3)):=by
 have:=Ba (P:=Tryz.prog) (w:=w) Tryz.underlying23 (e:=3) (z:=.int .i64 0) (size:=1) (bytes:=8) (by kernel_rfl) n n (af7 _) (by omega) (by omega)
 rw[ag3]at this
 exact this
theorem akX{n i:Nat}(h:i<n):(madeCells #[Value.int .i64 0] n)[i]?=some (.int .i64 0):=by simp[madeCells,h,Nat.mod_one]
theorem adG{W:World}(ht:Tab W)(hg0:0<W.heap.size)(s:ByteArray){v1 v2:Value}{S1 S2:List zx}(h1:qK W v1 S1)(l1:∀(a:Addr) n c,v1=.slice (some a) n c->0<n->a.block<W.heap.size)(h2:qK W v2 S2)(l2:∀(a:Addr) n c,v2=.slice (some a) n c->0<n->a.block<W.heap.size):
    Calls Tryz.prog 6 #[.string s,v1,v2] W λe w'=>e=.returned (.bool true)/\Below W.heap.size W w':=by
 have HF:∀f,Fence.wide.fn f:=λ_=>trivial
 have fV:=ak (JQ ht hg0)
 have HT:=ak (And.intro ht hg0)
 have HR1:=ak (And.intro h1 l1)
 have HR2:=ak (And.intro h2 l2)
 clear ht hg0 h1 l1 h2 l2
 by_cases hs:s.size<=120
 rotate_left
 .have g1:(s.size:Int)>120:=by omega
  clear hs
  go_enter Tryz.func6,Tryz.ntmps6
  go_wp2_with fail
  refine fV.o.mono ?_
  rintro e w1 ⟨rfl,b1⟩
  have HB1:=ak b1
  clear b1
  go_wp2_with fail
  exact af_ (v:=.bool true) (by simp[results,Tryz.results6,go_sem]) rfl ⟨rfl,HB1.o⟩
 have g1:¬(s.size:Int)>120:=by omega
 have iF:=ak hs
 have KZ:aA ((jE s).length<=120):=ak (by rw[aG];exact hs)
 clear hs
 go_enter Tryz.func6,Tryz.ntmps6
 go_wp2_with fail
 refine fV.o.mono ?_
 rintro e w1 ⟨rfl,b1⟩
 have HO:=ak (Fa (HT.o.1.below b1 HT.o.2) (ahm HT.o.2 b1.size))
 have HB1:=ak b1
 clear b1
 go_wp2_with fail
 clear g1
 refine HO.o.mono ?_
 rintro e w2 ⟨B,g,pa,mb,kb,rfl,d2,b2⟩
 obtain⟨wz,w3,hz,hss,k3,b3,⟨q0,q1⟩,r0,r1⟩:=Zc w2 B mb
 obtain⟨gd,hgd⟩:=ay (w2.heap.size)
 obtain⟨n0,hn0⟩:=ay (w1.heap.size)
 have HW3:aA (Below W.heap.size W w3):=ak (Below.after (Below.after HB1.o b2) b3)
 rw[hgd]at hss k3 q0 q1 r0 r1
 rw[hn0]at d2
 have gJ:aA (W.heap.size<=n0):=ak (by rw[<-hn0];exact HB1.o.size)
 have vS:aA (∀w,Kd w3 w->w.cell? ⟨gd,0,none⟩=some (.pointer (some ⟨B,0,none⟩))/\w.cell? ⟨gd,1,none⟩=some (.pointer (some ⟨mb,0,none⟩))):=ak λw hw=>(k3.kd hw).cells
 have JZ:aA (mM n0 B g pa mb kb 0 [] [] w3 w3):=ak (.of (d2.below b3) (af6 _ _))
 clear d2 b2 b3 k3
 obtain⟨c0,c1⟩:=vS.o w3 JZ.o.kd
 have dW:=JZ.o.few
 have hsz:=iF.o
 have HC:=ak (L8 JZ.o.dk s (by omega) (by simp;omega))
 clear dW hsz
 go_wp2_with fail
 clear hz hss q0 q1 r0 r1 hgd hn0
 clear c0 c1
 refine HC.o.mono ?_
 clear HC
 rintro e x1 ⟨E1,ix,rfl,hd,hx,hn,hb,-,bb,kk⟩
 have hst:mM n0 B g pa mb kb 240 [] E1 w3 x1:=⟨hd,hx,by rw[aG]at hn;have:=iF.o;omega,bb,.kt kk⟩
 have j_:aA (mM n0 B g pa mb kb 240 [] E1 w3 x1):=ak ((JZ.o.trans hst).mono (by omega))
 have HX:=ak hb
 clear hd hx hn hb bb kk hst
 obtain⟨c0,c1⟩:=vS.o x1 j_.o.kd
 have dW:=j_.o.few
 have hsz:=iF.o
 have hrow:=HR1.o.1.below (HW3.o.trans (j_.o.Dx.mono gJ.o))
 have HC:=ak (zB j_.o.dk s (by omega) hrow (λa n c h h0=> .inl (ahm (HR1.o.2 a n c h h0) gJ.o)) (by simp at dW;omega))
 clear dW hsz hrow
 go_wp2_with fail
 clear c0 c1
 refine HC.o.mono ?_
 clear HC
 rintro e x2 ⟨E2,pl,vp,mdp,rfl,hd,hx,hn,hc,hm,hr,bb,kk⟩
 have hst:mM n0 B g pa mb kb 480 E1 E2 x1 x2:=⟨hd,hx,hn,bb,.kt kk⟩
 have HS2:aA (mM n0 B g pa mb kb 720 [] E2 w3 x2):=ak ((j_.o.trans hst).mono (by omega))
 replace HX:=ak (HX.o.ext hst.ext)
 have HP:=ak (aaN.Uk hc hm iF.o)
 clear hd hx hn hc hm hr bb kk hst
 obtain⟨c0,c1⟩:=vS.o x2 HS2.o.kd
 have dW:=HS2.o.few
 have hsz:=iF.o
 have hrow:=HR2.o.1.below (HW3.o.trans (HS2.o.Dx.mono gJ.o))
 have HC:=ak (zB HS2.o.dk s (by omega) hrow (λa n c h h0=> .inl (ahm (HR2.o.2 a n c h h0) gJ.o)) (by simp at dW;omega))
 clear dW hsz hrow
 go_wp2_with fail
 clear c0 c1
 refine HC.o.mono ?_
 clear HC
 rintro e x3 ⟨E3,ql,vq,mdq,rfl,hd,hx,hn,hc,hm,hr,bb,kk⟩
 have hst:mM n0 B g pa mb kb 480 E2 E3 x2 x3:=⟨hd,hx,hn,bb,.kt kk⟩
 have AO:aA (mM n0 B g pa mb kb 1200 [] E3 w3 x3):=ak ((HS2.o.trans hst).mono (by omega))
 replace HX:=ak (HX.o.ext hst.ext)
 replace HP:=ak (HP.o.ext hst.ext hst.kd)
 have HQ:=ak (aaN.Uk hc hm iF.o)
 clear hd hx hn hc hm hr bb kk hst
 obtain⟨KM,hKM⟩:=ay ((aax E3 (jE s) (aae pl ql)).map (aaW E3 (jE s)))
 obtain⟨KC,hKC⟩:=ay ((aaq E3 (jE s) (aae pl ql)).map (abQ E3 (jE s)))
 obtain⟨KP,hKP⟩:=ay (pl.map (aas E3))
 obtain⟨cb,hcb⟩:∃b,decide (aaq E3 (jE s) (aae pl ql)=[])=b:=⟨_,rfl⟩
 have QG:aA (∀E,Ext E3 E->(aax E (jE s) (aae pl ql)).map (aaW E (jE s))=KM/\(aaq E (jE s) (aae pl ql)).map (abQ E (jE s))=KC/\pl.map (aas E)=KP/\decide (aaq E (jE s) (aae pl ql)=[])=cb):=ak λE hx=>by
  obtain⟨-,e2,e3,e4⟩:=alV hx (HP.o.kng HQ.o) (t:=jE s)
  rw[e3,e4,af0 hx HP.o.zV,e2]
  exact⟨hKM,hKC,hKP,hcb⟩
 have HCN:aA ((((KC.length:Nat):Int)==0)=cb):=ak (by
  have:KC.length=(aaq E3 (jE s) (aae pl ql)).length:=by rw[<-hKC,agM]
  rw[<-hcb,this]
  cases aaq E3 (jE s) (aae pl ql)with
  |nil=>rfl
  |cons a l=>simp;omega)
 have IQ:aA (Ext E3 E3):=ak (Ext.refl _)
 clear hKM hKC hKP hcb
 obtain⟨c0,c1⟩:=vS.o x3 AO.o.kd
 have dW:=AO.o.few
 have HC:=ak (adh AO.o.dk HX.o HP.o HQ.o KZ.o (by simp at dW;omega))
 clear dW
 go_wp2_with fail
 clear c0 c1
 refine HC.o.mono ?_
 clear HC
 rintro e x4 ⟨E4,vm,vc,Mg,Cf,rfl,hst',h1,h2,h3,h4,h5,h6⟩
 have hst:mM n0 B g pa mb kb 74500 E3 E4 x3 x4:=hst'
 have lU:aA (mM n0 B g pa mb kb 75700 [] E4 w3 x4):=ak ((AO.o.trans hst).mono (by omega))
 have Rv:aA (Ext E3 E4):=ak (IQ.o.trans hst.ext)
 replace HX:=ak (HX.o.ext hst.ext)
 replace HP:=ak (HP.o.ext hst.ext hst.kd)
 replace HQ:=ak (HQ.o.ext hst.ext hst.kd)
 have hk3:=QG.o _ IQ.o
 have Vm:aA (MrL E4 x4 x3.heap.size vm Mg KM):=ak ⟨h1,h5,by rw[h3];exact hk3.1⟩
 have HC1:aA (CfL E4 x4 x3.heap.size vc Cf KC):=ak ⟨h2,h6,by rw[h4];exact hk3.2.1⟩
 clear hst hst' h1 h2 h3 h4 h5 h6 hk3
 obtain⟨c0,c1⟩:=vS.o x4 lU.o.kd
 have dW:=lU.o.few
 have HC:=ak (adh lU.o.dk HX.o HQ.o HP.o KZ.o (by simp at dW;omega))
 clear dW
 go_wp2_with fail
 clear c0 c1
 refine HC.o.mono ?_
 clear HC
 rintro e x5 ⟨E5,vn,vf,Ng,Ff,rfl,hst',h1,h2,h3,h4,h5,h6⟩
 have hst:mM n0 B g pa mb kb 74500 E4 E5 x4 x5:=hst'
 have qU:aA (mM n0 B g pa mb kb 150200 [] E5 w3 x5):=ak ((lU.o.trans hst).mono (by omega))
 have HX5:aA (Ext E3 E5):=ak (Rv.o.trans hst.ext)
 replace HX:=ak (HX.o.ext hst.ext)
 replace HP:=ak (HP.o.ext hst.ext hst.kd)
 replace HQ:=ak (HQ.o.ext hst.ext hst.kd)
 replace Vm:=ak (Vm.o.ext hst.ext hst.kd)
 replace HC1:=ak (HC1.o.ext hst.ext hst.kd)
 have hk3:=QG.o _ Rv.o
 obtain⟨s1,s2⟩:=akV (E:=E4) HP.o.form HQ.o.form
 have kZ:aA (MrL E5 x5 x4.heap.size vn Ng KM):=ak ⟨h1,h5,by rw[h3,s1];exact hk3.1⟩
 have HC2:aA (CfL E5 x5 x4.heap.size vf Ff (KC.map (λk=>(k.1,k.2.1,k.2.2.2,k.2.2.1)))):=ak ⟨h2,h6,by rw[h4,s2,hk3.2.1]⟩
 clear hst hst' h1 h2 h3 h4 h5 h6 hk3 s1 s2
 obtain⟨c0,c1⟩:=vS.o x5 qU.o.kd
 have dW:=qU.o.few
 have HC:=ak (adh qU.o.dk HX.o HP.o (aaN.nil _ _ _) KZ.o (by simp at dW;omega))
 clear dW
 go_wp2_with fail
 clear c0 c1
 refine HC.o.mono ?_
 clear HC
 rintro e x6 ⟨E6,va,vo,Ag,Of,rfl,hst',h1,h2,h3,h4,h5,h6⟩
 have hst:mM n0 B g pa mb kb 74500 E5 E6 x5 x6:=hst'
 have xX:aA (mM n0 B g pa mb kb 224700 [] E6 w3 x6):=ak ((qU.o.trans hst).mono (by omega))
 have HX6:aA (Ext E3 E6):=ak (HX5.o.trans hst.ext)
 replace HX:=ak (HX.o.ext hst.ext)
 replace HP:=ak (HP.o.ext hst.ext hst.kd)
 replace HQ:=ak (HQ.o.ext hst.ext hst.kd)
 replace Vm:=ak (Vm.o.ext hst.ext hst.kd)
 replace HC1:=ak (HC1.o.ext hst.ext hst.kd)
 replace kZ:=ak (kZ.o.ext hst.ext hst.kd)
 replace HC2:=ak (HC2.o.ext hst.ext hst.kd)
 have hk3:=QG.o _ HX5.o
 obtain⟨s1,s2⟩:=afs (E:=E5) HP.o.form
 have HM3:aA (MrL E6 x6 x5.heap.size va Ag KP):=ak ⟨h1,h5,by rw[h3,s1];exact hk3.2.2.1⟩
 have ho:Of=[]:=by
  rw[s2]at h4
  simpa using h4
 subst ho
 obtain⟨ao,co,hvo⟩:=aP.len h2
 replace hvo:vo=.slice ao 0 co:=hvo
 subst hvo
 clear hst hst' h1 h2 h3 h4 h5 h6 hk3 s1 s2
 obtain⟨c0,c1⟩:=vS.o x6 xX.o.kd
 have dW:=xX.o.few
 have HC:=ak (afm xX.o.dk HX.o HP.o HQ.o KZ.o (by simp at dW;omega))
 clear dW
 go_wp2_with fail
 clear c0 c1
 refine HC.o.mono ?_
 clear HC
 rintro e x7 ⟨E7,rfl,hst'⟩
 have hst:mM n0 B g pa mb kb 74500 E6 E7 x6 x7:=hst'
 have DN:aA (mM n0 B g pa mb kb 299200 [] E7 w3 x7):=ak ((xX.o.trans hst).mono (by omega))
 have HX7:aA (Ext E3 E7):=ak (HX6.o.trans hst.ext)
 replace HX:=ak (HX.o.ext hst.ext)
 replace HP:=ak (HP.o.ext hst.ext hst.kd)
 replace HQ:=ak (HQ.o.ext hst.ext hst.kd)
 replace Vm:=ak (Vm.o.ext hst.ext hst.kd)
 replace HC1:=ak (HC1.o.ext hst.ext hst.kd)
 replace kZ:=ak (kZ.o.ext hst.ext hst.kd)
 replace HC2:=ak (HC2.o.ext hst.ext hst.kd)
 replace HM3:=ak (HM3.o.ext hst.ext hst.kd)
 rw[(QG.o _ HX6.o).2.2.2]
 clear hst hst'
 have gW:=ak DN.o.dk.wf
 have HKF:=ak (acD gW.o HP.o HQ.o KZ.o (L:=Mg) (by rw[Vm.o.key];exact(QG.o _ HX7.o).1.symm))
 have HCF:aA (abA KC<=722/\KC.length<=24/\∀k∈KC,k.2.2.1.length<=600/\k.2.2.2.length<=600):=ak (by
  have h:=alp HP.o HQ.o KZ.o
  have hc:=(QG.o _ HX7.o).2.1
  rw[hc]at h
  refine⟨h.1,?_,h.2.2⟩
  rw[<-hc,agM];exact h.2.1)
 obtain⟨nc,hnc⟩:=ay (KC.length)
 have HNC:=ak hnc
 obtain⟨ac,cc,hvc⟩:=aP.len HC1.o.lie
 obtain⟨af,cf,hvf⟩:=aP.len HC2.o.lie
 have e1:Cf.length=nc:=by have:=agC List.length HC1.o.key;rw[agM]at this;omega
 have e2:Ff.length=nc:=by have:=agC List.length HC2.o.key;rw[agM,agM]at this;omega
 rw[e1]at hvc
 rw[e2]at hvf
 subst hvc hvf
 have oG:=ak (And.intro e1 e2)
 have hcn:=HCN.o
 rw[hnc]at hcn
 clear hnc e1 e2
 obtain⟨c0,c1⟩:=vS.o x7 DN.o.kd
 have dW:=DN.o.few
 have HC:aA (Calls Tryz.prog 32 #[dkV B mb,vm,vn] x7 (SaP n0 B g pa mb kb (52*dN E7 Mg) E7 x7)):=ak (by
  obtain⟨k1,k2,k3,k4,k5⟩:=HKF.o
  exact acS DN.o.dk Vm.o.lie kZ.o.lie Vm.o.kno kZ.o.kno (by rw[Vm.o.key,kZ.o.key]) (by omega) k5 rfl (by simp at dW;omega))
 have HC3:aA (∀(E8:List En) (x8:World),mM n0 B g pa mb kb 330452 [] E8 w3 x8->mM n0 B g pa mb kb (52*dN E7 Mg) E7 E8 x7 x8->52*dN E8 Ag<=12480/\Calls Tryz.prog 32 #[dkV B mb,va,vp] x8 (SaP n0 B g pa mb kb (52*dN E8 Ag) E8 x8)):=ak (λE8 x8 hS hst=>by
  have hf:=hS.few
  have hA:=HM3.o.ext hst.ext hst.kd
  have hP:=HP.o.ext hst.ext hst.kd
  have hk:=(QG.o _ (HX7.o.trans hst.ext)).2.2.1
  have hm:∀c∈Ag,(txt E8 c.id).length<=20*12:=λc hc=>by
   have h1:aas E8 c∈pl.map (aas E8):=by rw[hk,<-hA.key];exact agz.2 ⟨c,hc,rfl⟩
   obtain⟨d,hd,e⟩:=agz.1 h1
   unfold aas at e
   injection e with e1 e2
   injection e2 with e2 e3
   rw[<-e3]
   have:=acT (E:=E8) hd
   have:=hP.ins
   omega
  have hl:Ag.length=pl.length:=by have:=agC List.length hA.key;have:=agC List.length hk;simp at *;omega
  have hi:dN E8 Ag=dN E8 pl:=adC (by rw[hA.key,hk])
  have:=hP.ins;have:=hP.len
  exact⟨by omega,acS hS.dk hA.lie hP.Am hA.kno hP.zV (by rw[hA.key,hk]) (by omega) (λc hc=>by have:=hm c hc;omega) rfl (by simp at hf;omega)⟩)
 clear dW
 go_wp2_with fail
 clear c0 c1
 refine HC.o.mono ?_
 clear HC
 rintro e x8 ⟨E8,rfl,hst⟩
 have Tp:aA (mM n0 B g pa mb kb 330452 [] E8 w3 x8):=ak ((DN.o.trans hst).mono (by have:=HKF.o.2.1;omega))
 have HC4:=ak (HC3.o E8 x8 Tp.o hst)
 have XB:aA (Ext E3 E8):=ak (HX7.o.trans hst.ext)
 replace HX:=ak (HX.o.ext hst.ext)
 replace HP:=ak (HP.o.ext hst.ext hst.kd)
 replace HQ:=ak (HQ.o.ext hst.ext hst.kd)
 replace Vm:=ak (Vm.o.ext hst.ext hst.kd)
 replace HC1:=ak (HC1.o.ext hst.ext hst.kd)
 replace HC2:=ak (HC2.o.ext hst.ext hst.kd)
 clear hst HC3 kZ gW
 obtain⟨c0,c1⟩:=vS.o x8 Tp.o.kd
 go_wp2_with fail
 clear c0 c1
 refine HC4.o.2.mono ?_
 rintro e x9 ⟨E9,rfl,hst⟩
 have J5:aA (mM n0 B g pa mb kb 342932 [] E9 w3 x9):=ak ((Tp.o.trans hst).mono (by have:=HC4.o.1;omega))
 have HX9:aA (Ext E3 E9):=ak (XB.o.trans hst.ext)
 replace HX:=ak (HX.o.ext hst.ext)
 replace HP:=ak (HP.o.ext hst.ext hst.kd)
 replace HQ:=ak (HQ.o.ext hst.ext hst.kd)
 replace Vm:=ak (Vm.o.ext hst.ext hst.kd)
 replace HC1:=ak (HC1.o.ext hst.ext hst.kd)
 replace HC2:=ak (HC2.o.ext hst.ext hst.kd)
 clear hst HC4 HKF HM3
 go_wp2_with fail
 clear hcn
 go_loopw [28] (λjv wr=>∃(j:Nat) (E':List En),jv=.int .i64 (j:Nat)/\j<=nc/\mM n0 B g pa mb kb (52*abA (KC.take j)) E9 E' x9 wr) (λjv _=>nc-(intOf jv).toNat)
 case atStart=>exact⟨0,E9,rfl,agb _,(mM.of J5.o.dk (af6 _ _)).mono (agb _)⟩
 case round=>
  obtain⟨j,E',rfl,hj,hI⟩:=hrel
  by_cases hlt:j<nc
  .have hjk:j<KC.length:=by rw[HNC.o];exact hlt
   have alW:j<(KC.map (λk=>(k.1,k.2.1,k.2.2.2,k.2.2.1))).length:=by rw[agM];exact hjk
   have hjc:j<Cf.length:=by rw[oG.o.1];exact hlt
   have hjf:j<Ff.length:=by rw[oG.o.2];exact hlt
   obtain⟨g1,d1,hv1,-,b1,b2⟩:=(HC1.o.ext hI.ext hI.kd).at hjc hjk
   obtain⟨g2,d2,hv2,-,b3,b4⟩:=(HC2.o.ext hI.ext hI.kd).at hjf alW
   have hk2:(KC.map (λk=>(k.1,k.2.1,k.2.2.2,k.2.2.1)))[j]=(KC[j].1,KC[j].2.1,KC[j].2.2.2,KC[j].2.2.1):=by rw[aiK]
   rw[hk2]at b3 b4
   simp only[agn]at hv1 hv2
   obtain⟨rfl,-,-⟩:=hv1
   obtain⟨rfl,-,-⟩:=hv2
   have UA:aA (∀(E:List En) (w:World),Ext E9 E->Kd x9 w->(w.cell? ⟨g1,j*4,none⟩=some (.int .i64 KC[j].1)/\w.cell? ⟨g1,j*4+1,none⟩=some (.int .i64 KC[j].2.1)/\w.cell? ⟨g1,j*4+2,none⟩=some (.int .i64 Cf[j].l)/\w.cell? ⟨g1,j*4+3,none⟩=some (.int .i64 Cf[j].r))/\w.cell? ⟨g2,j*4,none⟩=some (.int .i64 KC[j].1)/\w.cell? ⟨g2,j*4+1,none⟩=some (.int .i64 KC[j].2.1)/\w.cell? ⟨g2,j*4+2,none⟩=some (.int .i64 Ff[j].l)/\w.cell? ⟨g2,j*4+3,none⟩=some (.int .i64 Ff[j].r)):=ak λE w hx hk=>by
    obtain⟨g3,d3,hv1,z1,-,-⟩:=(HC1.o.ext hx hk).at hjc hjk
    obtain⟨g4,d4,hv2,z2,-,-⟩:=(HC2.o.ext hx hk).at hjf alW
    rw[hk2]at z2
    simp only[agn]at hv1 hv2
    obtain⟨hv1,-,-⟩:=hv1
    obtain⟨hv2,-,-⟩:=hv2
    cases hv1;cases hv2
    exact⟨z1,z2⟩
   have hsn:=akW hjk
   have hlt2:=ab1 KC (j+1)
   have hmx:=HCF.o.2.2 _ (ag0 hjk)
   have hcf:=HCF.o.1
   generalize KC[j]=kk at *
   generalize Cf[j]=cc1 at *
   generalize Ff[j]=ff1 at *
   have hfw:=hI.few
   have hf9:=J5.o.few
   have hwj:IntKind.i64.wrap ((j:Int)+1)=((j+1:Nat):Int):=by rw[agd];have:=HCF.o.2.1;have:=HNC.o;omega
   have hlt1:(j:Int)<(nc:Int):=by omega
   have ady:(0:Int)<=(j:Int):=by omega
   dsimp only at b3 b4
   have uh:aA (∀w,Below wr.heap.size wr w->Calls Tryz.prog 27 #[.pointer (some ⟨mb,0,none⟩),vI cc1.l,vI ff1.r] w λe w'=>∃E2,e=.returned (.tuple #[.bool (decide (kk.2.2.1=kk.2.2.1)),.nilIface])/\mM n0 B g pa mb kb (26*(kk.2.2.1.length+kk.2.2.1.length)) E' E2 w w'):=ak λw hw=>
    abH (hI.dk.below hw) b1 b4 hmx.1 hmx.1 (af7 _) (by simp at hf9;omega)
   have HSM2:aA (∀(E5:List En) (w5 w:World),mM n0 B g pa mb kb (26*(kk.2.2.1.length+kk.2.2.1.length)) E' E5 wr w5->Below w5.heap.size w5 w->Calls Tryz.prog 27 #[.pointer (some ⟨mb,0,none⟩),vI cc1.r,vI ff1.l] w λe w'=>∃E2,e=.returned (.tuple #[.bool (decide (kk.2.2.2=kk.2.2.2)),.nilIface])/\mM n0 B g pa mb kb (26*(kk.2.2.2.length+kk.2.2.2.length)) E5 E2 w w'):=ak λE5 w5 w h5 hw=>
    abH (h5.dk.below hw) (b2.ext h5.ext) (b3.ext h5.ext) hmx.2 hmx.2 (af7 _) (by have:=h5.few;simp at hf9;omega)
   have HH:=ak (And.intro hI (And.intro hlt hsn))
   clear hI hlt hj hjk alW hjc hjf b1 b2 b3 b4 hk2 hsn hlt2 hmx hcf hfw hf9
   go_wp2_with fail
   have m0:∀w,Below wr.heap.size wr w->w.cell? ⟨gd,1,none⟩=some (.pointer (some ⟨mb,0,none⟩)):=λw hw=>(vS.o w ((J5.o.kd.trans HH.o.1.kd).trans (.of hw))).2
   have m1:∀w,Below wr.heap.size wr w->w.cell? ⟨g1,j*4+2,none⟩=some (.int .i64 cc1.l):=λw hw=>(UA.o E9 w (Ext.refl _) (HH.o.1.kd.trans (.of hw))).1.2.2.1
   have m2:∀w,Below wr.heap.size wr w->w.cell? ⟨g2,j*4+3,none⟩=some (.int .i64 ff1.r):=λw hw=>(UA.o E9 w (Ext.refl _) (HH.o.1.kd.trans (.of hw))).2.2.2.2
   refine aU (Below wr.heap.size wr) ?_
   have S0:Below wr.heap.size wr wr.drew:=(af6 _ _).drew
   generalize wr.drew=wq at *
   have hSM:=uh.o wq S0
   refine bJ 0 1 2 3 4 5 ?_
   refine bJ 6 7 8 9 10 11 ?_
   refine aJ.wall (i:=12) (by kernel_rfl) rfl HF (by rfl) (λK hK=>?_)
   go_simp
   try with_reducible refine⟨rfl,?_⟩
   refine agq.2 (hSM.mono ?_)
   rintro e w5 ⟨E5,rfl,h5⟩
   have H5:=ak h5
   have T0:uz w5:=trivial
   refine hK uz _ _ ?_
   clear hK K h5
   refine zD 13 14 15 16 17 ?_
   refine aO ?_
   have Zx:aA (mM n0 B g pa mb kb (26*(kk.2.2.1.length+kk.2.2.1.length)) E' E5 wr w5):=ak (((mM.of HH.o.1.dk S0).trans H5.o).mono (by omega))
   clear m0 m1 m2 S0 hSM
   go_wp2_with fail
   have m0:∀w,Below w5.heap.size w5 w->w.cell? ⟨gd,1,none⟩=some (.pointer (some ⟨mb,0,none⟩)):=λw hw=>(vS.o w (((J5.o.kd.trans HH.o.1.kd).trans Zx.o.kd).trans (.of hw))).2
   have m1:∀w,Below w5.heap.size w5 w->w.cell? ⟨g1,j*4+3,none⟩=some (.int .i64 cc1.r):=λw hw=>(UA.o E9 w (Ext.refl _) ((HH.o.1.kd.trans Zx.o.kd).trans (.of hw))).1.2.2.2
   have m2:∀w,Below w5.heap.size w5 w->w.cell? ⟨g2,j*4+2,none⟩=some (.int .i64 ff1.l):=λw hw=>(UA.o E9 w (Ext.refl _) ((HH.o.1.kd.trans Zx.o.kd).trans (.of hw))).2.2.2.1
   refine aU (Below w5.heap.size w5) ?_
   have S0:Below w5.heap.size w5 w5.drew:=(af6 _ _).drew
   generalize w5.drew=wq2 at *
   have hSM:=HSM2.o E5 w5 wq2 Zx.o S0
   refine bJ 0 1 2 3 4 5 ?_
   refine bJ 6 7 8 9 10 11 ?_
   refine aJ.wall (i:=12) (by kernel_rfl) rfl HF (by rfl) (λK hK=>?_)
   go_simp
   try with_reducible refine⟨rfl,?_⟩
   refine agq.2 (hSM.mono ?_)
   rintro e w7 ⟨E7',rfl,h7⟩
   have H7:=ak h7
   have T0:uz w7:=trivial
   refine hK uz _ _ ?_
   clear hK K h7
   refine zD 13 14 15 16 17 ?_
   refine aO ?_
   have HN:aA (∀w,Below w7.heap.size w7 w->mM n0 B g pa mb kb (52*abA (KC.take (j+1))) E9 E7' x9 w):=ak λw hw=>
    (((HH.o.1.trans Zx.o).trans ((mM.of Zx.o.dk S0).trans H7.o)).trans (.of H7.o.dk hw)).mono (by rw[HH.o.2.2];omega)
   clear m0 m1 m2 S0 hSM
   go_wp2_with fail
   have m1:∀w,Below w7.heap.size w7 w->w.cell? ⟨g1,j*4,none⟩=some (.int .i64 kk.1):=λw hw=>(UA.o E9 w (Ext.refl _) (HN.o w hw).kd).1.1
   have m2:∀w,Below w7.heap.size w7 w->w.cell? ⟨g2,j*4,none⟩=some (.int .i64 kk.1):=λw hw=>(UA.o E9 w (Ext.refl _) (HN.o w hw).kd).2.1
   have m3:∀w,Below w7.heap.size w7 w->w.cell? ⟨g1,j*4+1,none⟩=some (.int .i64 kk.2.1):=λw hw=>(UA.o E9 w (Ext.refl _) (HN.o w hw).kd).1.2.1
   have m4:∀w,Below w7.heap.size w7 w->w.cell? ⟨g2,j*4+1,none⟩=some (.int .i64 kk.2.1):=λw hw=>(UA.o E9 w (Ext.refl _) (HN.o w hw).kd).2.2.1
   refine aU (Below w7.heap.size w7) ?_
   have S0:Below w7.heap.size w7 w7.drew:=(af6 _ _).drew
   have J4:=ak (HN.o _ S0)
   generalize w7.drew=w8 at *
   refine bJ 0 1 2 3 4 5 ?_
   refine bJ 6 7 8 9 10 11 ?_
   refine bJ 12 13 14 15 16 17 ?_
   refine bJ 18 19 20 21 22 23 ?_
   refine bJ 24 25 26 27 28 29 ?_
   refine bJ 30 31 32 33 34 35 ?_
   refine tk4 36 37 38 39 ?_
   refine aO ?_
   clear m1 m2 m3 m4 S0
   go_wp2_with fail
   go_roundw
   case rel=>exact⟨j+1,E7',rfl,HH.o.2.1,J4.o⟩
   case measure=>have:=HH.o.2.1;simp[intOf];omega
  .obtain rfl:j=nc:=by omega
   have hle:=ab1 KC j
   have hcf:=HCF.o.1
   have Xa:aA (mM n0 B g pa mb kb 380476 [] E' w3 wr):=ak ((J5.o.trans hI).mono (by omega))
   have amq:aA (Ext E3 E'):=ak (HX9.o.trans hI.ext)
   replace HX:=ak (HX.o.ext hI.ext)
   replace HP:=ak (HP.o.ext hI.ext hI.kd)
   replace HQ:=ak (HQ.o.ext hI.ext hI.kd)
   replace Vm:=ak (Vm.o.ext hI.ext hI.kd)
   clear hI hle hcf hj hlt HC1 HC2
   have HKF:=ak (acD Xa.o.dk.wf HP.o HQ.o KZ.o (L:=Mg) (by rw[Vm.o.key];exact(QG.o _ amq.o).1.symm))
   obtain⟨TT,hTT⟩:=ay (cO E' (jE s) 0 Mg)
   have I9:=ak hTT
   have FU:aA (Mg.map (aas E')=KM):=ak Vm.o.key
   have Uu:aA (TT.length<=600):=ak (by rw[<-hTT];exact HKF.o.2.2.1)
   obtain⟨c0,c1⟩:=vS.o wr Xa.o.kd
   have dW:=Xa.o.few
   have HC:=ak (pU Xa.o.dk HX.o Vm.o.lie Vm.o.kno (by have:=HKF.o.2.2.2.1;omega) HKF.o.1 (by have:=KZ.o;omega) (.inr (by have:=HKF.o.2.1;have:=KZ.o;omega)) (af1 HKF.o.2.2.2.1) (by simp at dW;omega))
   rw[hTT]at HC
   clear dW hTT
   go_wp2_with fail
   clear c0 c1
   refine HC.o.mono ?_
   clear HC
   rintro e xa ⟨Ea,jb,rfl,hst',hbb⟩
   have hst:mM n0 B g pa mb kb 54880 E' Ea wr xa:=hst'
   obtain⟨zg,hzg⟩:=ay (xa.heap.size)
   have hmk:=alH xa j (by have:=HCF.o.2.1;have:=HNC.o;omega)
   obtain⟨xz,hxz⟩:=ay (xa.alloc (.cells (madeCells #[Value.int .i64 0] j) 3))
   have kz:xz.heap[zg]?=some (.cells (madeCells #[Value.int .i64 0] j) 3 (0,0)):=by rw[<-hxz,<-hzg];exact aD _ _
   have bz:Below xa.heap.size xa xz:=by rw[<-hxz];exact(af6 _ _).alloc (af7 _) _
   rw[hxz,hzg]at hmk
   have HZ:aA (∀w,Kd xz w->∀i,i<j->w.cell? ⟨zg,i,none⟩=some (.int .i64 0)):=ak λw hw i hi=>by
    have:=hw _ (by decide) (by decide) _ _ _ kz
    simp only[World.cell?,this]
    have hm:=akX hi
    simp[hm]
   have VK:mM n0 B g pa mb kb 54880 E' Ea wr xz:=(hst.trans (.of hst.dk bz)).mono (by omega)
   have HSa:aA (mM n0 B g pa mb kb 435356 [] Ea w3 xz):=ak ((Xa.o.trans VK).mono (by omega))
   have HXa:aA (Ext E3 Ea):=ak (amq.o.trans VK.ext)
   replace HX:=ak (HX.o.ext VK.ext)
   replace HP:=ak (HP.o.ext VK.ext VK.kd)
   replace HQ:=ak (HQ.o.ext VK.ext VK.kd)
   have HBB:=ak hbb
   clear hst hst' VK hbb kz bz hxz hzg Vm
   obtain⟨c0,c1⟩:=vS.o xz HSa.o.kd
   have dW:=HSa.o.few
   have HC:=ak (adi (m:=j) (zg:=zg) HSa.o.dk HX.o HP.o HQ.o KZ.o (by simp at dW;omega) HZ.o (by have:=agC List.length (QG.o _ HXa.o).2.1;rw[agM]at this;rw[this];exact HNC.o))
   clear dW
   go_wp2_with fail
   clear c0 c1 hmk
   refine HC.o.mono ?_
   clear HC
   rintro e xr ⟨Er,vrr,Rg,rfl,hst',r1,r2,r3⟩
   have hst:mM n0 B g pa mb kb 74500 Ea Er xz xr:=hst'
   have HSr:aA (mM n0 B g pa mb kb 509856 [] Er w3 xr):=ak ((HSa.o.trans hst).mono (by omega))
   have HXr:aA (Ext E3 Er):=ak (HXa.o.trans hst.ext)
   replace HX:=ak (HX.o.ext hst.ext)
   replace HP:=ak (HP.o.ext hst.ext hst.kd)
   replace HQ:=ak (HQ.o.ext hst.ext hst.kd)
   replace HBB:=ak (HBB.o.ext hst.ext)
   have hrk:Rg.map (aas Er)=KM:=by rw[r2];exact(QG.o _ HXa.o).1
   have HRM:aA (MrL Er xr xz.heap.size vrr Rg KM):=ak ⟨r1,r3,hrk⟩
   clear hst hst' r1 r2 r3 hrk HKF
   have HKF:=ak (acD HSr.o.dk.wf HP.o HQ.o KZ.o (L:=Rg) (by rw[HRM.o.key];exact(QG.o _ HXr.o).1.symm))
   have hpt:cO Er (jE s) 0 Rg=TT:=by rw[<-I9.o];exact adn (by rw[HRM.o.key,FU.o])
   obtain⟨c0,c1⟩:=vS.o xr HSr.o.kd
   have dW:=HSr.o.few
   have HC:=ak (pU HSr.o.dk HX.o HRM.o.lie HRM.o.kno (by have:=HKF.o.2.2.2.1;omega) HKF.o.1 (by have:=KZ.o;omega) (.inr (by have:=HKF.o.2.1;have:=KZ.o;omega)) (af1 HKF.o.2.2.2.1) (by simp at dW;omega))
   rw[hpt]at HC
   clear dW hpt
   go_wp2_with fail
   clear c0 c1
   refine HC.o.mono ?_
   clear HC
   rintro e xy ⟨Ey,jy,rfl,hst',hby⟩
   have hst:mM n0 B g pa mb kb 54880 Er Ey xr xy:=hst'
   have HSy:aA (mM n0 B g pa mb kb 564736 [] Ey w3 xy):=ak ((HSr.o.trans hst).mono (by omega))
   replace HBB:=ak (HBB.o.ext hst.ext)
   have HBY:=ak hby
   clear hst hst' hby
   obtain⟨c0,c1⟩:=vS.o xy HSy.o.kd
   have dW:=HSy.o.few
   have HC:=ak (abH HSy.o.dk HBB.o HBY.o Uu.o Uu.o (k:=31200) (by have:=Uu.o;omega) (by simp at dW;omega))
   clear dW
   go_wp2_with fail
   clear c0 c1
   refine HC.o.mono ?_
   rintro e xe ⟨Ee,rfl,hst'⟩
   have HRR:aA (Below W.heap.size W xe):=ak (HW3.o.trans ((HSy.o.Dx.trans hst'.Dx).mono gJ.o))
   clear hst'
   go_wp2_with fail
   exact af_ (v:=.bool true) (by simp[results,Tryz.results6,go_sem]) rfl ⟨rfl,HRR.o⟩
end M
end Go.Proofs.YtgbhohfabhilgaaGreatDoor
namespace Go.Proofs.YtgbhohfabhilgaaGreatDoor.afa
open Go.ChangeShapes Go.WideShapes Go.ChangeAt Go.RowKit Go.OpenShut Go.ChangeMaps
theorem own:ownKnob Tryz.prog.godebug=none:=by kernel_rfl
theorem laidOut:laidOutB Tryz.prog=true:=by kernel_rfl
theorem lifted(os:Os)(started:os.Started)(H:Type)(enc:TypeId×Value->H):
    ReturnsInHanded {} Tryz.checked os 6 .any (λw args=>(Rows.wholeMergesSpec.pre enc Tryz.prog Tryz.f6 [] false w args/\laidMetH Tryz.prog M.JU w)/\sizedMet enc Tryz.prog Tryz.f6 (OpenSpec.ofChange Rows.wholeMergesSpec) false w args)
     (Rows.wholeMergesSpec.post enc Tryz.prog Tryz.f6 false true false false):=by
 refine returnsInHanded_of_change_and (C:=Tryz.checked) (X:=λw _=>laidMetH Tryz.prog M.JU w) (λ_ _ _ hh h=>h.of_heap hh) own started (by kernel_rfl) Tryz.func6
  (ChangeSpec.witness_at (enc:=enc) (C:=Tryz.checked) (os:=os) (X:=λw _=>laidMetH Tryz.prog M.JU w) false (M.Fb os) #[.string ⟨#[]⟩,.slice none 0 0,.slice none 0 0] 8 rfl (by kernel_rfl) (by kernel_rfl) (by kernel_rfl) (by kernel_rfl) (by kernel_rfl) (M.D7 os _)) ?_
 intro W base args ds gs before hval0 hW _ _ hL _
 have hval:∀(j:Nat) t v,Tryz.f6.params[j]?=some t->args[j]?=some v->Value.okWide Tryz.prog W .any base t v:=hval0
 have hW':=hW
 obtain⟨p,q,hA0,hV,rfl,-,-⟩:=hW
 have hA:DataW.TrodAll enc Tryz.prog W 0 (λ_=>true) true Tryz.f6.params.toList args.toList ds p:=hA0
 rw[Tryz.params6]at hA hval
 obtain⟨v0,vs0,d0,ds0,p0,q0,hv0,rfl,rfl,h0,hA⟩:=trodAll_cons hA
 obtain⟨v1,vs1,d1,ds1,p1,q1,rfl,rfl,rfl,h1,hA⟩:=trodAll_cons hA
 obtain⟨v2,vs2,d2,ds2,p2,q2,rfl,rfl,rfl,h2,hA⟩:=trodAll_cons hA
 obtain⟨rfl,rfl,rfl⟩:=trodAll_nil hA
 obtain rfl:args=#[v0,v1,v2]:=by cases args;simp_all
 obtain⟨rfl,rfl⟩:=trodVars_none hV
 obtain⟨s,rfl,rfl,rfl,hs⟩:=open_string Tryz.underlying9 (hval 0 9 v0 rfl rfl) h0
 obtain⟨a1,len1,Lu,rfl⟩:=okWide_slice Tryz.underlying55 (hval 1 55 v1 rfl rfl)
 obtain⟨a2,len2,cap2,rfl⟩:=okWide_slice Tryz.underlying55 (hval 2 55 v2 rfl rfl)
 clear hA0 hval0
 simp only[agi,agH]at hW'
 have hlt:∀x∈p1++p2,x.block<W.heap.size:=λx hx=>by simpa using hW'.lt x (by simpa using hx)
 obtain⟨S1,hS1,af2⟩:=M.Dn ⟨a1,len1,Lu,rfl⟩ h1
 obtain⟨S2,hS2,af3⟩:=M.Dn ⟨a2,len2,cap2,rfl⟩ h2
 have ht:=M.JV hL
 refine(M.adG ht ht.lt s hS1 af2 hS2 af3).mono λe W' ⟨he,hg⟩=>?_
 subst he
 exact⟨_,rfl,L_ (pa:=[]++(p1++(p2++[]))) (pv:=[]) hW' (λ_ _ _=>ajH (shut_bool Tryz.underlying4 _) trodAll_mk0)
  (ajH (shut_string Tryz.underlying9 hs) (ajH (Below.trod laidOut (by kernel_rfl) (ahz (by kernel_rfl)) h1 hg (λx hx=>hlt x (ahd _ hx))) (ajH (Below.trod laidOut (by kernel_rfl) (ahz (by kernel_rfl)) h2 hg (λx hx=>hlt x (aiE _ hx))) trodAll_mk0))) rfl (by simp) hg⟩
theorem said:Rows.WholeMergesSaid:=
 OpenClaim.holds_of_wide 6 Tryz.f6 rfl rfl rfl rfl rfl rfl rfl ⟨rfl,rfl,rfl,rfl,rfl⟩ rfl rfl rfl rfl rfl (by kernel_rfl) Tryz.func6 (by kernel_rfl)
  (ahz (by kernel_rfl)) (by unfold Func.isWrapper;first|(rw[af5 (by decide+kernel)];kernel_rfl)|(rw[af4 (by decide+kernel)];exact⟨rfl,rfl⟩))
  (λos started H enc _=>lifted os started H enc)
theorem proved:Rows.WholeMergesCardSaid:=
 Claim7.holds_tied_plain_at .later [] [.data] true (true, "74b4870b50e075a54fe619d530512f60bac0e18dfc4d04e93ec80595b2cb9047") false
  said (λ_ h=>by cases h) (by kernel_rfl) (λ_ h=>by cases h) wholeMerges_row_tie rfl ⟨rfl,rfl⟩ (by kernel_rfl) rfl
  (λf fn hf hfn=>by
   obtain rfl:f=6:=agQ ((show Tryz.prog.funcNamed "evergreen/evergreentop.WholeMerges" =some 6 by kernel_rfl).symm.trans hf) |>.symm
   obtain rfl:fn=Tryz.f6:=(agQ (Tryz.func6.symm.trans hfn)).symm
   exact⟨by kernel_rfl,λj t ht=>by
    rw[Tryz.params6]at ht
    have h3:t=9\/t=55:=by
     rcases j with _|_|_|j
     .exact .inl (by simpa using ht.symm)
     .exact .inr (by simpa using ht.symm)
     .exact .inr (by simpa using ht.symm)
     .simp at ht
    rcases h3 with rfl|rfl
    .exact(show Tryz.prog.wantsStandIn 9=false by kernel_rfl)
    .exact(show Tryz.prog.wantsStandIn 55=false by kernel_rfl)⟩)
  (by kernel_rfl)
#print axioms proved
end Go.Proofs.YtgbhohfabhilgaaGreatDoor.afa
