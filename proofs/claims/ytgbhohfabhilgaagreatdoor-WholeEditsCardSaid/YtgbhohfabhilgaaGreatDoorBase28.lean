import Derived.Test.YtgbhohfabhilgaaGreatDoorBase27
set_option maxRecDepth 100000
set_option maxHeartbeats 8000000
set_option linter.unusedVariables false
set_option linter.unusedSimpArgs false
namespace Go.Proofs.YtgbhohfabhilgaaGreatDoor
section
open Go.RowKit Go.Lib
namespace M
attribute [local go_sem] Oper.semAt_some
variable{b c g k m:Nat}{W:World}
theorem Hs.kF{E:List En}{T:List Sy}(h:Hs W 27 b c [] k (xx E T))(hk:k=0)(hm:T.length=m):RdN W (.slice (some ⟨b,0,none⟩) m c) (T.map (num E)):=by
 subst hk;refine⟨_,c,by rw[agM,hm],λW' hb i hi=>⟨b,rfl,?_⟩⟩;refine(h.below hb).old (agb _) ?_;unfold xx;rw[ahg];rw[agM]at hi;rw[agt hi];simp
def Dw(W:World)(g:Nat)(q:Nat×Nat):Prop:=W.heap[g]?=some (.cells #[.int .i64 q.1,.int .i64 q.2] 282 (0,0))
theorem Dw.cells{q:Nat×Nat}(h:Dw W g q):W.cell? ⟨g,0,none⟩=some (.int .i64 q.1)/\W.cell? ⟨g,1,none⟩=some (.int .i64 q.2):=by
 unfold Dw at h;simp[World.cell?,h]
theorem Dw.free{q:Nat×Nat}(h:Dw W g q)(i:Nat):W.frozen? ⟨g,i,none⟩=false:=by
 unfold Dw at h;simp[World.frozen?,h]
theorem adj(w:World)(q:Nat×Nat):∃wz w2,w.alloc (.cells #[.int .i64 0,.int .i64 0] 282)=wz/\
    (wz.setCell ⟨w.heap.size,0,none⟩ (.int .i64 q.1)).setCell ⟨w.heap.size,1,none⟩ (.int .i64 q.2)=w2/\
    Dw w2 w.heap.size q/\Below w.heap.size w w2/\(wz.cell? ⟨w.heap.size,0,none⟩=some (.int .i64 0)/\wz.cell? ⟨w.heap.size,1,none⟩=some (.int .i64 0))/\
    (wz.frozen? ⟨w.heap.size,0,none⟩=false/\wz.frozen? ⟨w.heap.size,1,none⟩=false):=by
 have k0:Dw (w.alloc (.cells #[.int .i64 0,.int .i64 0] 282)) w.heap.size (0,0):=aD _ _;have b0:Below w.heap.size w (w.alloc (.cells #[.int .i64 0,.int .i64 0] 282)):=(af6 _ _).alloc (af7 _) _;exact⟨_,_,rfl,rfl,aC _ (aC _ k0),(b0.setCell (p:=⟨w.heap.size,0,none⟩) (af7 _) _).setCell (p:=⟨w.heap.size,1,none⟩) (af7 _) _,k0.cells,k0.free 0,k0.free 1⟩
theorem aX{a:Nat}{ca cb:Array Value}{ta tb:TypeId}{fa fb:Nat×Nat}(h:W.heap[a]?=some (.cells ca ta fa))(k:W.heap[b]?=some (.cells cb tb fb))(hne:ta≠tb):a≠b:=by
 rintro rfl;rw[h]at k;injection k with k;injection k with _ k _;exact hne k
noncomputable def Hs.cs{W:World}{e:TypeId}{b c k:Nat}{P O:List Value}(h:Hs W e b c P k O):Array Value:=Classical.choose h.h
theorem Hs.blk{e:TypeId}{P O:List Value}(h:Hs W e b c P k O):W.heap[b]?=some (.cells h.cs e (0,0)):=(Classical.choose_spec h.h).1
theorem O3{n0 B most:Nat}{F:List Sy}{E:List En}(h:gV n0 B most g F E W){p:Nat}(hp:iW W p B g){b1 b2:Nat}{T:List Sy}(hr:Row W E b1 b2 c T)(hm:T.length=m)(hm2:m<=65536)(n1:n0<=b1)(n2:n0<=b2){lv:Nat}(hlv:lv%2=1)(hF:∀y∈step lv T,y∈F):
    Calls Tryz.prog 139 #[.pointer (some ⟨p,0,none⟩),.agg #[.slice (some ⟨b1,0,none⟩) m c,.slice (some ⟨b2,0,none⟩) m c]] W λe w'=>∃E' m',e=.returned (.tuple #[.agg #[.slice (some ⟨b1,0,none⟩) m' c,.slice (some ⟨b2,0,none⟩) m' c],.nilIface])/\
     (step lv T).length=m'/\Gw n0 B most g F (λq=>q=b1\/q=b2) E E' W w'/\Row w' E' b1 b2 c (step lv T):=by
 have HF:∀f,Fence.wide.fn f:=λ_=>trivial;have hn0:=h.lt;have hcm:m<=c:=by have:=hr.ids.le;rw[iX,hm]at this;exact this
 obtain⟨G,hG⟩:=ay (jf (T.map (num E)));have HAT:=ak (VF h.wf.wf h.nd hr.mem hlv hG);have HP:=ak h;have fV:=ak hp;have Ag:=ak hr;have HM:=ak (And.intro hm (And.intro hm2 hcm));have zI:=ak hlv;have lN:=ak hF;have jU:=ak (And.intro n1 (And.intro n2 hn0));have HG:=ak hG;obtain⟨U,hU⟩:=ay (step lv T);rw[hU]at HAT lN⊢;clear h hp hr hm hm2 hlv hF n1 n2 hG hU;obtain⟨W1,hW1⟩:=ay ((W.alloc (.cells #[.slice (some ⟨b1,0,none⟩) m c,.slice (some ⟨b2,0,none⟩) m c] 237)).alloc (.cells #[.slice none 0 0,.slice none 0 0] 237));have k3:jM W1 W.heap.size (.slice (some ⟨b1,0,none⟩) m c) (.slice (some ⟨b2,0,none⟩) m c):=by rw[<-hW1];exact au ((af6 _ _).alloc (af7 _) _) (aD W _)
 have k4:jM W1 (W.heap.size+1) (.slice none 0 0) (.slice none 0 0):=by
  rw[<-hW1];have:=aD (W.alloc (.cells #[.slice (some ⟨b1,0,none⟩) m c,.slice (some ⟨b2,0,none⟩) m c] 237)) (.cells #[.slice none 0 0,.slice none 0 0] 237);rw[ag1]at this;exact this
 have Na:Below W.heap.size W W1:=by rw[<-hW1];exact((af6 _ _).alloc (af7 _) _).alloc (by simp) _
 have s1:W1.heap.size=W.heap.size+2:=by rw[<-hW1,ag1,ag1]
 have m0:∀w,Below W1.heap.size W1 w->w.cell? ⟨W.heap.size,0,none⟩=some (.slice (some ⟨b1,0,none⟩) m c):=λw hw=>(jM.cells (au hw k3)).1;have m1:∀w,Below W1.heap.size W1 w->w.cell? ⟨W.heap.size,1,none⟩=some (.slice (some ⟨b2,0,none⟩) m c):=λw hw=>(jM.cells (au hw k3)).2.1;have K3:=ak k3;have K4:=ak k4;have B1:=ak Na;have j_:=ak s1;clear k3 k4 Na hn0 s1;go_enter Tryz.func139,Tryz.ntmps139;go_wp2_with fail
 obtain⟨wd,hwd⟩:=ay (W1.drew);refine aU (Below W1.heap.size W1) ?_;have S0:Below W1.heap.size W1 W1.drew:=(af6 _ _).drew;rw[hwd]at S0⊢;refine bJ 0 1 2 3 4 5 ?_;refine tk1 6 ?_;refine aT 7 λK hK=>?_;go_simp;refine hK _ _ (S0.alloc S0.size _) ?_;clear hK K;refine aJ.cK 8 (by kernel_rfl) ?_;simp only[agr,agj];clear m0 m1;obtain⟨b6,hb6⟩:=ay (wd.heap.size);have q6:jM (wd.alloc (.cells #[.slice none 0 0,.slice none 0 0] 237)) b6 (.slice none 0 0) (.slice none 0 0):=by rw[<-hb6];exact aD _ _
 have VG:Below W1.heap.size W1 (wd.alloc (.cells #[.slice none 0 0,.slice none 0 0] 237)):=S0.alloc S0.size _;have l6:W1.heap.size<=b6:=by rw[<-hb6];exact S0.size
 obtain⟨wa,Ah⟩:=ay (wd.alloc (.cells #[.slice none 0 0,.slice none 0 0] 237));rw[Ah]at q6 VG⊢;rw[hb6];obtain⟨c0,c1,f6⟩:=q6.cells;have f0:=f6 0;have f1:=f6 1;obtain⟨w2,hw2⟩:∃w',(wa.setCell ⟨b6,0,none⟩ (.slice (some ⟨b1,0,none⟩) 0 c)).setCell ⟨b6,1,none⟩ (.slice (some ⟨b2,0,none⟩) 0 c)=w':=⟨_,rfl⟩;have g2:wa.grownBy w2 (some b6):=by rw[<-hw2];exact aM (aK _ _ _) (aK _ ⟨b6,1,none⟩ _)
 have q2:jM w2 b6 (.slice (some ⟨b1,0,none⟩) 0 c) (.slice (some ⟨b2,0,none⟩) 0 c):=by rw[<-hw2];exact(q6.set0 _).set1 _
 have Nn:Below W1.heap.size W1 w2:=VG.trans (bL g2 l6 VG.size);have HB2:aA (Below W.heap.size W w2):=ak (Below.after B1.o Nn);have k3:=au Nn K3.o;have m3:w2.cell? ⟨W.heap.size,0,none⟩=some (.slice (some ⟨b1,0,none⟩) m c):=(jM.cells k3).1;have DJ:=ak q2;have qH:=ak (show jM w2 W.heap.size _ _ from k3);have uF:=ak (show jM w2 (W.heap.size+1) _ _ from au Nn K4.o);have jX:aA (Lb n0 W.heap.size b1 b2 b6 W.heap.size (W.heap.size+1)):=ak ⟨jU.o.1,jU.o.2.1,jU.o.2.2,af7 _,by omega,by have:=j_.o;omega,by have:=j_.o;omega,by have:=j_.o;omega⟩;have Ur:=ak (Ag.o.ids.begin.below HB2.o);have P_:=ak (Ag.o.keys.begin.below HB2.o);have Cm:=ak (R9 (Ur.o.kF rfl HM.o.1) (by rw[agM];have:=HM.o;omega));rw[HG.o]at Cm;clear q6 VG l6 g2 q2 Nn k3 S0 f6;gi_wp2_with fail
 clear hw2 Ah hwd hb6 c0 c1 f0 f1 hW1;go_wp2_with fail
 refine Cm.o.mono ?_;rintro e w3 ⟨gv,rfl,hgs,hb3⟩;obtain⟨ga,gc,rfl⟩:=hgs.len;have aak:aA (Lo n0 B most g F E W b1 b2 b6 W.heap.size (W.heap.size+1) c (.slice (some ⟨b1,0,none⟩) m c) (.slice (some ⟨b2,0,none⟩) m c) 282 2 w2.heap.size EB (.slice ga G.length gc) G (xx E T) (yU T) E 0 0 0 [] [] w3):=ak ⟨Gw.of HP.o (Below.after HB2.o hb3),au hb3 qH.o,au hb3 uF.o,au hb3 DJ.o,Ur.o.below hb3,P_.o.below hb3,hgs⟩;clear hgs hb3 m3 Cm Ur P_ DJ qH uF;go_wp2_with fail
 go_loopw [7,24] (λav iv wr=>∃(j i:Nat) (E1:List En),iv=.int .i64 j/\av=.int .i64 i/\j<=G.length/\i=(dZ (G.take j)).length/\(∀y∈U.take j,y∈syms E1)/\Lo n0 B most g F E W b1 b2 b6 W.heap.size (W.heap.size+1) c (.slice (some ⟨b1,0,none⟩) m c) (.slice (some ⟨b2,0,none⟩) m c) 282 2 w2.heap.size EB (.slice ga G.length gc) G (xx E T) (yU T) E1 j j i (xx E1 (U.take j)) (yU (U.take j)) wr) (λ_ iv _=>G.length-(intOf iv).toNat)
 case atStart=>exact⟨0,0,E,rfl,rfl,agb _,rfl,λy hy=>by simp at hy,aak.o⟩
 obtain⟨j,i,E1,rfl,rfl,hj,hi,hmem,hlo⟩:=hrel;have HL:=ak hlo;have Sm:=ak hmem;by_cases hjn:j<G.length
 .have l1:(j:Int)<(G.length:Int):=by omega
  have l0:(0:Int)<=(j:Int):=by omega
  obtain⟨x,t,y,i',a1,a2,a3,a4,a5,a6,a7,a8,a9,a10,a11⟩:=HAT.o.2.2 j hjn;obtain rfl:i=i':=by rw[hi,a5]
  obtain⟨gg,rfl⟩:∃g,ga=some ⟨g,0,none⟩:=by
   rcases hlo.ls.shape with⟨-,h⟩|⟨g,c,h,-⟩
   .rw[h]at hjn;simp at hjn
   simp only[agn]at h;exact⟨g,h.1⟩
  have c0:=aP.cell h_ hlo.ls hjn (j:=0) (by omega);have c1:=aP.cell h_ hlo.ls hjn (j:=1) (by omega);rw[a1]at c0 c1;replace c0:wr.cell? ⟨gg,j*2,none⟩=some (.int .i64 (x:Int)):=c0;replace c1:wr.cell? ⟨gg,j*2+1,none⟩=some (.int .i64 (t:Int)):=c1;obtain⟨i2,hi2⟩:=ay (i+t);have jw:=ak (show j<G.length/\i+t=i2/\i2<=m/\j<=i/\1<=t/\(dZ (G.take (j+1))).length=i2 by have:=HM.o;omega);have hy1:y∈syms E:=Ag.o.mem y a3;have HY:=ak (And.intro a2 (And.intro a3 (And.intro a6 (And.intro a10 a11))));obtain⟨wz,w5,hz,hs1,kr,br,⟨r0,r1⟩,q0,q1⟩:=adj wr (x,t);obtain⟨b9,hb9⟩:=ay (wr.heap.size);rw[hb9]at hs1 kr r0 r1 q0 q1;have HL5:=ak (hlo.below br);have xY:=ak kr;have e0:∀w,Below w5.heap.size w5 w->w.cell? ⟨b9,0,none⟩=some (.int .i64 x):=λw hw=>(Dw.cells (au hw xY.o)).1;have e1:∀w,Below w5.heap.size w5 w->w.cell? ⟨W.heap.size,1,none⟩=some (.slice (some ⟨b2,0,none⟩) m c):=λw hw=>(jM.cells (au hw HL5.o.q3)).2.1;have e2:∀w,Below w5.heap.size w5 w->w.cell? ⟨b2,i,none⟩=some (vK (key y)):=λw hw=>(HL5.o.h2.below hw).old (af7 _) (Vx HY.o.2.2.1);have i0:(0:Int)<=(i:Int):=by omega
  have i1:(i:Int)<(m:Int):=by have:=jw.o;omega
  obtain⟨ky,hky⟩:=ay (key y);rw[hky]at e2;have HKY:=ak hky;clear a1 a2 a3 a4 a5 a6 a7 a8 a9 a10 a11 hj hi hmem hlo kr br hi2 hky hcm;go_wp2_with fail
  clear hz hs1 r0 r1 q0 q1 c0 c1 hb9;obtain⟨w6,dH⟩:=ay (w5.drew);refine aU (Below w5.heap.size w5) ?_;have S0:Below w5.heap.size w5 w5.drew:=(af6 _ _).drew;rw[dH]at S0⊢;refine bJ 0 1 2 3 4 5 ?_;refine tk3 6 7 8 ?_;refine aO ?_;have Uv:=ak (HL5.o.below S0);have G8:aA (Dw w6 b9 (x,t)):=ak (au S0 xY.o);clear e0 e1 e2 S0 dH HL5 xY HL;have g1:w6.cell? ⟨b9,1,none⟩=some (.int .i64 t):=(Dw.cells G8.o).2;by_cases ht1:t>1
  case' _=>
   have u1:(t:Int)>1:=by omega
   have u1':(1:Int)<(t:Int):=by omega
   have HU1:=ak ht1;have hy6:=Uv.o.gw.mem (T:=T) Ag.o.mem y HY.o.2.1;have hx6:x=num E1 y:=by rw[HY.o.1,eZ Uv.o.gw.ext (Ag.o.mem y HY.o.2.1)]
   have VH:=ak (λw (hw:Below w6.heap.size w6 w)=>XE (Uv.o.gw.st.below hw) hy6 (show 2<=t from ht1) (by
    have h:=lN.o _ HY.o.2.2.2.2;rwa [af5 ht1]at h))
   rw[<-hx6]at VH;have XJ:aA (U.take (j+1)=U.take j++[.pw y t]):=ak (by rw[HY.o.2.2.2.1,af5 ht1]);have hpa:∀w,Below w6.heap.size w6 w->iW w p B g:=λw hw=>au hw (fV.o.kp Uv.o.gw.kp (by
    have h1:=fV.o.lt;rintro(q|q|q)
    .exact aX fV.o Ag.o.ids.blk (by decide) q
    .exact aX fV.o Ag.o.keys.blk (by decide) q
    omega))
   have Le:=ak hpa;have e0:∀w,Below w6.heap.size w6 w->w.cell? ⟨p,0,none⟩=some (.pointer (some ⟨B,0,none⟩)):=λw hw=>(hpa w hw).cells.1;have e1:∀w,Below w6.heap.size w6 w->w.cell? ⟨b9,1,none⟩=some (.int .i64 t):=λw hw=>(Dw.cells (au hw G8.o)).2;clear hpa hy6 hx6 ht1;go_wp2_with fail
   clear g1;obtain⟨w7,hw7⟩:=ay (w6.drew);refine aU (Below w6.heap.size w6) ?_;have S0:Below w6.heap.size w6 w6.drew:=(af6 _ _).drew;rw[hw7]at S0⊢;refine bJ 0 1 2 3 4 5 ?_;refine tk1 6 ?_;refine aJ.wall (i:=7) (by kernel_rfl) rfl HF (by rfl) (λK hK=>?_);go_simp
   try with_reducible refine⟨rfl,?_⟩
   refine agq.2 ((VH.o _ S0).mono ?_);rintro r w8 ⟨E2,rfl,hG2,hm2⟩;refine hK (λw=>w=w8) _ _ ?_;clear hK K;refine zD 8 9 10 11 12 ?_;refine aO ?_;have HL8:=ak ((Uv.o.below S0).call hG2 (by decide));rw[<-tT hG2.ext Sm.o]at HL8;have tJ:aA (∀y∈U.take j,y∈syms E2):=ak (hG2.mem Sm.o);have GR8:=hG2.kp.cells _ (by decide) _ (λq=>q) _ _ (au S0 G8.o);have mJ:=ak (show Dw w8 b9 (x,t) from GR8);have pa8:iW w8 p B g:=(Le.o _ S0).kp hG2.kp (λq=>q);have HKEY:=ak (Ci HL8.o.gw.st hm2);obtain⟨nz,hnz⟩:=ay (num E2 (Sy.pw y t));obtain⟨kz,hkz⟩:=ay (key (Sy.pw y t));obtain⟨z,hz⟩:=ay (Sy.pw y t);rw[hz]at hm2 hnz hkz XJ HKEY;rw[hnz]at HKEY;rw[hkz]at HKEY;have HZ:=ak (And.intro hm2 (And.intro hnz hkz));simp only[hz,hnz];obtain⟨p0,p1⟩:=pa8.cells;clear e0 e1 S0 hw7 Uv G8 hG2 GR8 pa8 hm2 hnz hkz hz VH Le;go_wp2_with fail
   refine HKEY.o.mono ?_;rintro r w9 ⟨rfl,hG3⟩;have eG:=ak (HL8.o.call hG3 (by decide));have GR9:=hG3.kp.cells _ (by decide) _ (λq=>q) _ _ mJ.o;have HGR:=ak (show Dw w9 b9 (x,t) from GR9);clear p0 p1 HL8 mJ hG3 GR9 HKEY
  rotate_left
  case' _=>
   have u1:¬(t:Int)>1:=by omega
   have XJ:aA (U.take (j+1)=U.take j++[y]):=ak (by rw[HY.o.2.2.2.1,af4 ht1]);have hy6:=Uv.o.gw.mem (T:=T) Ag.o.mem y HY.o.2.1;have hx6:num E1 y=x:=by rw[HY.o.1,eZ Uv.o.gw.ext (Ag.o.mem y HY.o.2.1)]
   have HZ:=ak (And.intro hy6 (And.intro hx6 HKY.o));have tJ:=ak Sm.o;have eG:=ak Uv.o;have HGR:=ak G8.o;clear hy6 hx6 Sm Uv G8;clear ht1
  rotate_left
  all_goals
   have HW:=ak (eG.o.weak (k2:=i2) (by have:=jw.o;omega));clear eG;have lw:=HW.o;obtain⟨c0,c1,f6⟩:=lw.q6.cells;have f0:=f6 0;have VI:aA (j+1<=i2/\j+1<=c):=ak (by have:=jw.o;have:=HM.o;omega)
  case' _=>
   have uq:aA ((xx E2 (U.take j)).length=j/\(yU (U.take j)).length=j):=ak (by
    have:=HAT.o.1;have:=jw.o;rw[iX,mD,agB];omega)
   clear lw f6;go_wp2_with (first
    | (at_builtin;refine yT elemId rfl _ _ rfl rfl uq.o.1 HW.o.h1 (vI nz) rfl rfl (k2:=i2) VI.o.1 (af7 _) VI.o.2 ?_))
  rotate_left
  case' _=>
   have uq:aA ((xx E1 (U.take j)).length=j/\(yU (U.take j)).length=j):=ak (by
    have:=HAT.o.1;have:=jw.o;rw[iX,mD,agB];omega)
   clear lw f6;go_wp2_with (first
    | (at_builtin;refine yT elemId rfl _ _ rfl rfl uq.o.1 HW.o.h1 (vI x) rfl rfl (k2:=i2) VI.o.1 (af7 _) VI.o.2 ?_))
  rotate_left
  all_goals
   intro wA tA gA;have LA:=HW.o.ap1 jX.o (by decide) gA tA;have GA:Dw wA b9 (x,t):=aI gA HGR.o (aX HGR.o HW.o.h1.blk (by decide));clear c0 c1 f0 tA gA;obtain⟨c0,c1,f6⟩:=LA.q6.cells;have f0:=f6 0;obtain⟨wB,FI⟩:=ay (wA.setCell ⟨b6,0,none⟩ (.slice (some ⟨b1,0,none⟩) (j+1) c));have VJ:=LA.st0 jX.o (by decide) (j+1);have GB:=aI (aK wA ⟨b6,0,none⟩ (.slice (some ⟨b1,0,none⟩) (j+1) c)) GA (aX GA LA.q6 (by decide));rw[FI]at VJ GB;have Lf:=ak VJ;have G5:=ak (show Dw wB b9 (x,t) from GB);clear LA GA f6 GB;obtain⟨d0,d1,f6⟩:=VJ.q6.cells;have f3:=f6 1;clear VJ f6 c1
  case' _=>
   go_wp2_with (first
    | (at_builtin;refine yT EA rfl _ _ rfl rfl uq.o.2 Lf.o.h2 (vK kz) rfl rfl (k2:=i2) VI.o.1 (af7 _) VI.o.2 ?_))
  rotate_left
  case' _=>
   go_wp2_with (first
    | (at_builtin;refine yT EA rfl _ _ rfl rfl uq.o.2 Lf.o.h2 (vK ky) rfl rfl (k2:=i2) VI.o.1 (af7 _) VI.o.2 ?_))
  rotate_left
  all_goals
   intro wC tC gC;have LC:=Lf.o.ap2 jX.o (by decide) gC tC;have GC:Dw wC b9 (x,t):=aI gC G5.o (aX G5.o Lf.o.h2.blk (by decide));clear d0 d1 f3 f0 c0 FI tC gC;obtain⟨c0,c1,f6⟩:=LC.q6.cells;have f1:=f6 1;obtain⟨wD,hwD⟩:=ay (wC.setCell ⟨b6,1,none⟩ (.slice (some ⟨b2,0,none⟩) (j+1) c));have LD:=LC.st1 jX.o (by decide) (j+1);have GD:=aI (aK wC ⟨b6,1,none⟩ (.slice (some ⟨b2,0,none⟩) (j+1) c)) GC (aX GC LC.q6 (by decide));rw[hwD]at LD GD;have HLD:=ak LD;have g1:wD.cell? ⟨b9,1,none⟩=some (.int .i64 t):=(Dw.cells GD).2;have q2:(i:Int)+(t:Int)=(i2:Int):=by have:=jw.o;omega
   clear LC GC LD GD f6;have hj5:j<65536:=by have:=jw.o;have:=HM.o;have:=HAT.o.2.1;omega
   have hi5:i2<=65536:=by have:=jw.o;have:=HM.o;omega
   go_wp2_with fail
  .go_roundw
   case rel=>
    refine⟨j+1,i2,E2,by go_num,by go_num,by have:=jw.o;omega,by have:=jw.o;omega,λw hw=>?_,?_⟩
    .rw[XJ.o]at hw;rcases ags.1 hw with hw|hw
     .exact tJ.o w hw
     rw[agl.1 hw];exact HZ.o.1
    have h:=HLD.o;rw[<-HZ.o.2.1,<-HZ.o.2.2,<-show xx E2 (U.take (j+1))=xx E2 (U.take j)++[vI (num E2 z)] by rw[XJ.o,kP];rfl,<-show yU (U.take (j+1))=yU (U.take j)++[vK (key z)] by rw[XJ.o,kQ];rfl]at h;exact h
   case measure=>have hj6:=jw.o.1;simp only[intOf];omega
  go_roundw
  case rel=>
   refine⟨j+1,i2,E1,by go_num,by go_num,by have:=jw.o;omega,by have:=jw.o;omega,λw hw=>?_,?_⟩
   .rw[XJ.o]at hw;rcases ags.1 hw with hw|hw
    .exact tJ.o w hw
    rw[agl.1 hw];exact HZ.o.1
   have h:=HLD.o;rw[<-HZ.o.2.1,<-HZ.o.2.2,<-show xx E1 (U.take (j+1))=xx E1 (U.take j)++[vI (num E1 y)] by rw[XJ.o,kP];rfl,<-show yU (U.take (j+1))=yU (U.take j)++[vK (key y)] by rw[XJ.o,kQ];rfl]at h;exact h
  case measure=>have hj6:=jw.o.1;simp only[intOf];omega
 have l1:¬(j:Int)<(G.length:Int):=by omega
 have hjg:j=U.length:=by have:=HAT.o.1;omega
 have htk:U.take j=U:=agI (by omega);rw[htk]at hlo hmem;obtain⟨d0,d1,-⟩:=hlo.q6.cells;obtain⟨c0,c1,f6⟩:=hlo.q4.cells;have f0:=f6 0;have f1:=f6 1;obtain⟨w5,eH⟩:∃w',(wr.setCell ⟨W.heap.size+1,0,none⟩ (.slice (some ⟨b1,0,none⟩) j c)).setCell ⟨W.heap.size+1,1,none⟩ (.slice (some ⟨b2,0,none⟩) j c)=w':=⟨_,rfl⟩;have g5:wr.grownBy w5 (some (W.heap.size+1)):=by rw[<-eH];exact aM (aK _ _ _) (aK _ ⟨W.heap.size+1,1,none⟩ _)
 have q5:jM w5 (W.heap.size+1) (.slice (some ⟨b1,0,none⟩) j c) (.slice (some ⟨b2,0,none⟩) j c):=by rw[<-eH];exact(hlo.q4.set0 _).set1 _
 have HR:aA (Gw n0 B most g F (λq=>q=b1\/q=b2) E E1 W w5):=ak ((hlo.gw.trans (Gw.put hlo.gw.st g5 hlo.q4 (by decide) (by have:=jU.o;omega) (.inr (.inr (by omega))))).mono λk hk h=>by rcases h with h|h|h;exact .inl h;exact .inr h;omega);have HT3:=ak ((hlo.h1.other g5 (hlo.h1.Dv hlo.q4 (by decide))).fin (k2:=0));have qG:=ak ((hlo.h2.other g5 (hlo.h2.Dv hlo.q4 (by decide))).fin (k2:=0));have HQ5:=ak q5;have tJ:=ak hmem;have ut:=ak hjg;clear hlo hmem g5 q5 f6 htk hjg hi hcm HL Sm;go_wp2_with fail
 obtain⟨x0,x1,-⟩:=HQ5.o.cells;refine af_ (v:=.tuple #[.agg #[.slice (some ⟨b1,0,none⟩) j c,.slice (some ⟨b2,0,none⟩) j c],.nilIface]) (by simp[results,Tryz.results139,go_sem,x0,x1]) rfl ?_;exact⟨E1,j,rfl,ut.o.symm,HR.o,tJ.o,HT3.o,qG.o⟩
end M
end
section
open Go.RowKit Go.Lib
namespace M
theorem Sn{T:List Sy}{lv:Nat}(hlv:¬lv%2=1){I:List Nat}{j i:Nat}(hI:I.drop j=tV (fits lv) i ((T.drop i).map key))(hj:j<I.length)(hi:i<=T.length):
    ∃q x y,I[j]?=some q/\i<=q/\q+2<=T.length/\I.drop (j+1)=tV (fits lv) (q+2) ((T.drop (q+2)).map key)/\T[q]?=some x/\T[q+1]?=some y/\step lv (T.drop i)=(T.drop i).take (q-i)++ .pr x y::step lv (T.drop (q+2)):=by
 rw[ahc hj]at hI
 obtain⟨a,b,c,x,y,d,e⟩:=Ja hlv i (T.drop i) hI.symm
 rw[agp]at b
 have e1:i+(I[j]-i)=I[j]:=by omega
 have e2:i+(I[j]+2-i)=I[j]+2:=by omega
 rw[ahn,e1,ahn,e2]at d
 rw[ahn,e2]at c e
 refine⟨I[j],x,y,agt hj,a,by omega,c,?_,?_,e⟩
 .have:=agC (·[0]?) d
  simpa[ahL]using this
 .have:=agC (·[1]?) d
  simpa[ahL]using this
theorem O4{T:List Sy}{lv:Nat}(hlv:¬lv%2=1){I:List Nat}{j i:Nat}(hI:I.drop j=tV (fits lv) i ((T.drop i).map key))(hj:I.length<=j):step lv (T.drop i)=T.drop i:=by
 rw[ag9 hj]at hI
 exact Nk hlv i _ hI.symm
end M
end
end Go.Proofs.YtgbhohfabhilgaaGreatDoor
