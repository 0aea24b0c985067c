import Derived.Test.YtgbhohfabhilgaaGreatDoorBase28
set_option maxRecDepth 100000
set_option maxHeartbeats 8000000
set_option linter.unusedVariables false
set_option linter.unusedSimpArgs false
namespace Go.Proofs.YtgbhohfabhilgaaGreatDoor
section
open Go.RowKit Go.Lib
namespace M
attribute [local go_sem] Oper.semAt_some
variable{E:List En}{F T:List Sy}{B b b1 c g k m most n n0 p:Nat}{W w:World}
theorem Hs.rdK(h:Hs W 88 b c [] k (yU T))(hk:k=0)(hm:T.length=m):XI W (.slice (some ⟨b,0,none⟩) m c) (T.map key):=by
 subst hk;refine⟨_,c,by rw[agM,hm],λW' hb i hi=>⟨b,rfl,?_⟩⟩;refine(h.below hb).old (agb _) ?_;unfold yU;rw[ahg];rw[agM]at hi;rw[agt hi];simp
def vX(s3 b6:Nat)(v3 u3 v6 u6:Value)(w:World):Prop:=jM w s3 v3 u3/\jM w b6 v6 u6
theorem Hs.move{t e:TypeId}(hE:Elem Tryz.prog t e 1 8)(ty:TypeId){L O:List Value}(h:Hs w e b c L k O){q:Nat}(hn:L.length=n)(hk:n<=k)(hkq:k<=q)(hq:q<=O.length)(hqc:q<=c)(hone:∀u∈O,u.oneCell'=true)(c2:Nat):
    ∃w',(Builtin.append_ #[t,t] ty #[.slice (some ⟨b,0,none⟩) n c,.slice (if c=k then some ⟨b,0,none⟩else some ⟨b,k,none⟩) (q-k) c2]).run Tryz.prog w=.ok (.slice (some ⟨b,0,none⟩) (n+(q-k)) c) w'/\Hs w' e b c (L++(O.drop k).take (q-k)) q O/\w.grownBy w' (some b):=by
 subst hn;obtain⟨hu,i,z,hi,hz,hsz,-⟩:=hE;have hlen:((O.drop k).take (q-k)).length=q-k:=by rw[agB,agp];omega
 by_cases hck:c=k
 .have e0:(O.drop k).take (q-k)=[]:=by rw[show q-k=0 by omega,ah5]
  rw[af5 hck,e0];exact h.app hu hi hsz ty ⟨b,0,none⟩ (q-k) c2 [] (by rw[show q-k=0 by omega];rfl) (λj u hu=>by simp at hu) (λu hu=>by cases hu) (k2:=q) (by omega) hkq (by omega)
 rw[af4 hck];have r:=h.app hu hi hsz ty ⟨b,k,none⟩ (q-k) c2 ((O.drop k).take (q-k)) hlen (λj u hu=>by
  have hj:=(agA.1 hu).1;rw[hlen]at hj;rw[ahT,af5 hj,ahL]at hu;have e1:(⟨b,k,none⟩:Addr).add j=⟨b,k+j,none⟩:=by unfold Addr.add;split<;>simp_all
  rw[e1];exact h.old (akc _ _) hu) (λu hu=>hone u (aie (ahJ hu))) (k2:=q) (by omega) hkq (by omega)
 exact r
theorem Lo.addd{α:Type}{b2 b6 s3 s4:Nat}{v3 u3:Value}{te:TypeId}{sz n9:Nat}{enc:α->List Value}{gv:Value}{L:List α}{O1 O2:List Value}{E1:List En}{m2:Nat}{P Q P2 Q2:List Value}{w':World}(h:Lo n0 B most g F E W b1 b2 b6 s3 s4 c v3 u3 te sz n9 enc gv L O1 O2 E1 m m k P Q w)(hl:Lb n0 W.heap.size b1 b2 b6 s3 s4)(hte:te∉Du)(ht:te∉[27,88,237])(hg:Gw n0 B most g F (λq=>q=b1\/q=b2\/q=b6) E1 E1 w w')
    (q6:jM w' b6 (.slice (some ⟨b1,0,none⟩) m2 c) (.slice (some ⟨b2,0,none⟩) m2 c)) (t1:Hs w' 27 b1 c P2 k O1) (t2:Hs w' 88 b2 c Q2 k O2):Lo n0 B most g F E W b1 b2 b6 s3 s4 c v3 u3 te sz n9 enc gv L O1 O2 E1 m2 m2 k P2 Q2 w':=by
 simp only[agm,not_or]at ht;refine⟨h.gw.trans (hg.mono λk _ q=>by rcases q with q|q|q;exact .inl q;exact .inr (.inl q);exact .inr (.inr (by rw[q];exact hl.l6))),h.q3.kp hg.kp ?_,h.q4.kp hg.kp ?_,q6,t1,t2,h.ls.keep λkk cs fz e=>hg.kp.cells te hte kk ?_ cs fz e⟩
 .rintro(q|q|q)
  .exact aX h.q3 h.h1.blk (by decide) q
  .exact aX h.q3 h.h2.blk (by decide) q
  exact hl.e3 q
 .rintro(q|q|q)
  .exact aX h.q4 h.h1.blk (by decide) q
  .exact aX h.q4 h.h2.blk (by decide) q
  exact hl.e4 q
 rintro(q|q|q)
 .exact aX e h.h1.blk ht.1 q
 .exact aX e h.h2.blk ht.2.1 q
 exact aX e h.q6 ht.2.2.1 q
theorem F4(E:List En)(T:List Sy)(i k:Nat):((xx E T).drop i).take k=xx E ((T.drop i).take k):=by unfold xx;rw[<-ai8,<-aiM]
theorem F5(T:List Sy)(i k:Nat):((yU T).drop i).take k=yU ((T.drop i).take k):=by unfold yU;rw[<-ai8,<-aiM]
theorem Lg(h:gV n0 B most g F E W)(hp:iW W p B g){b2:Nat}(hr:Row W E b1 b2 c T)(hm:T.length=m)(hm2:m<=65536)(n1:n0<=b1)(n2:n0<=b2){lv:Nat}(hlv:lv%2=0)(hl2:2<=lv)(hl3:lv<=1099511627776)(hF:∀y∈step lv T,y∈F):
    Calls Tryz.prog 140 #[.pointer (some ⟨p,0,none⟩),.agg #[.slice (some ⟨b1,0,none⟩) m c,.slice (some ⟨b2,0,none⟩) m c],.int .i64 lv] W λe w'=>∃E' m',e=.returned (.tuple #[.agg #[.slice (some ⟨b1,0,none⟩) m' c,.slice (some ⟨b2,0,none⟩) m' c],.nilIface])/\
     (step lv T).length=m'/\Gw n0 B most g F (λq=>q=b1\/q=b2) E E' W w'/\Row w' E' b1 b2 c (step lv T):=by
 have HF:∀f,Fence.wide.fn f:=λ_=>trivial;have hn0:=h.lt;have hcm:m<=c:=by have:=hr.ids.le;rw[iX,hm]at this;exact this
 obtain⟨I,hI⟩:=ay (tV (fits lv) 0 (T.map key));have HIL:aA (I.length<=m):=ak (by have:=(xE (fits lv) 0 (T.map key)).1;rw[hI,agM,hm]at this;omega);have HP:=ak h;have fV:=ak hp;have Ag:=ak hr;have HM:=ak (And.intro hm (And.intro hm2 hcm));have zI:=ak (And.intro hlv (And.intro hl2 hl3));have lN:=ak hF;have jU:=ak (And.intro n1 (And.intro n2 hn0));have HI:=ak hI;have HNV:aA (¬lv%2=1):=ak (by omega);obtain⟨U,hU⟩:=ay (step lv T);have HU:=ak hU;rw[hU]at lN⊢;clear h hp hr hm hm2 hlv hl2 hl3 hF n1 n2 hI hU;obtain⟨W1,hW1⟩:=ay ((W.alloc (.cells #[.slice (some ⟨b1,0,none⟩) m c,.slice (some ⟨b2,0,none⟩) m c] 237)).alloc (.cells #[.slice none 0 0,.slice none 0 0] 237));have k3:jM W1 W.heap.size (.slice (some ⟨b1,0,none⟩) m c) (.slice (some ⟨b2,0,none⟩) m c):=by rw[<-hW1];exact au ((af6 _ _).alloc (af7 _) _) (aD W _)
 have k4:jM W1 (W.heap.size+1) (.slice none 0 0) (.slice none 0 0):=by
  rw[<-hW1];have:=aD (W.alloc (.cells #[.slice (some ⟨b1,0,none⟩) m c,.slice (some ⟨b2,0,none⟩) m c] 237)) (.cells #[.slice none 0 0,.slice none 0 0] 237);rw[ag1]at this;exact this
 have Na:Below W.heap.size W W1:=by rw[<-hW1];exact((af6 _ _).alloc (af7 _) _).alloc (by simp) _
 have s1:W1.heap.size=W.heap.size+2:=by rw[<-hW1,ag1,ag1]
 have m0:∀w,Below W1.heap.size W1 w->w.cell? ⟨W.heap.size,0,none⟩=some (.slice (some ⟨b1,0,none⟩) m c):=λw hw=>(jM.cells (au hw k3)).1;have m1:∀w,Below W1.heap.size W1 w->w.cell? ⟨W.heap.size,1,none⟩=some (.slice (some ⟨b2,0,none⟩) m c):=λw hw=>(jM.cells (au hw k3)).2.1;have K3:=ak k3;have K4:=ak k4;have B1:=ak Na;have j_:=ak s1;clear k3 k4 Na hn0 s1;go_enter Tryz.func140,Tryz.ntmps140;go_wp2_with fail
 obtain⟨wd,hwd⟩:=ay (W1.drew);refine aU (Below W1.heap.size W1) ?_;have S0:Below W1.heap.size W1 W1.drew:=(af6 _ _).drew;rw[hwd]at S0⊢;refine bJ 0 1 2 3 4 5 ?_;refine tk1 6 ?_;refine aT 7 λK hK=>?_;go_simp;refine hK _ _ (S0.alloc S0.size _) ?_;clear hK K;refine aJ.cK 8 (by kernel_rfl) ?_;simp only[agr,agj];clear m0 m1;obtain⟨b6,hb6⟩:=ay (wd.heap.size);have q6:jM (wd.alloc (.cells #[.slice none 0 0,.slice none 0 0] 237)) b6 (.slice none 0 0) (.slice none 0 0):=by rw[<-hb6];exact aD _ _
 have VG:Below W1.heap.size W1 (wd.alloc (.cells #[.slice none 0 0,.slice none 0 0] 237)):=S0.alloc S0.size _;have l6:W1.heap.size<=b6:=by rw[<-hb6];exact S0.size
 obtain⟨wa,Ah⟩:=ay (wd.alloc (.cells #[.slice none 0 0,.slice none 0 0] 237));rw[Ah]at q6 VG⊢;rw[hb6];obtain⟨c0,c1,f6⟩:=q6.cells;have f0:=f6 0;have f1:=f6 1;obtain⟨w2,hw2⟩:∃w',(wa.setCell ⟨b6,0,none⟩ (.slice (some ⟨b1,0,none⟩) 0 c)).setCell ⟨b6,1,none⟩ (.slice (some ⟨b2,0,none⟩) 0 c)=w':=⟨_,rfl⟩;have g2:wa.grownBy w2 (some b6):=by rw[<-hw2];exact aM (aK _ _ _) (aK _ ⟨b6,1,none⟩ _)
 have q2:jM w2 b6 (.slice (some ⟨b1,0,none⟩) 0 c) (.slice (some ⟨b2,0,none⟩) 0 c):=by rw[<-hw2];exact(q6.set0 _).set1 _
 have Nn:Below W1.heap.size W1 w2:=VG.trans (bL g2 l6 VG.size);have HB2:aA (Below W.heap.size W w2):=ak (Below.after B1.o Nn);have k3:=au Nn K3.o;have m3:w2.cell? ⟨W.heap.size,1,none⟩=some (.slice (some ⟨b2,0,none⟩) m c):=(jM.cells k3).2.1;have DJ:=ak q2;have qH:=ak (show jM w2 W.heap.size _ _ from k3);have uF:=ak (show jM w2 (W.heap.size+1) _ _ from au Nn K4.o);have jX:aA (Lb n0 W.heap.size b1 b2 b6 W.heap.size (W.heap.size+1)):=ak ⟨jU.o.1,jU.o.2.1,jU.o.2.2,af7 _,by omega,by have:=j_.o;omega,by have:=j_.o;omega,by have:=j_.o;omega⟩;have Ur:=ak (Ag.o.ids.begin.below HB2.o);have P_:=ak (Ag.o.keys.begin.below HB2.o);have Cm:=ak (O0 (P_.o.rdK rfl HM.o.1) (by rw[agM];have:=HM.o;omega) zI.o.2.2 zI.o.2.1 zI.o.1 (λk hk=>by
  obtain⟨y,-,rfl⟩:=agz.1 hk;have:=lT y;omega))
 rw[HI.o]at Cm;clear q6 VG l6 g2 q2 Nn k3 S0 f6;gi_wp2_with fail
 clear hw2 Ah hwd hb6 c0 c1 f0 f1 hW1;go_wp2_with fail
 refine Cm.o.mono ?_;rintro e w3 ⟨gv,rfl,hgs,hb3⟩;obtain⟨ga,gc,rfl⟩:=hgs.len;have aak:aA (Lo n0 B most g F E W b1 b2 b6 W.heap.size (W.heap.size+1) c (.slice (some ⟨b1,0,none⟩) m c) (.slice (some ⟨b2,0,none⟩) m c) 3 1 w2.heap.size gF (.slice ga I.length gc) I (xx E T) (yU T) E 0 0 0 [] [] w3):=ak ⟨Gw.of HP.o (Below.after HB2.o hb3),au hb3 qH.o,au hb3 uF.o,au hb3 DJ.o,Ur.o.below hb3,P_.o.below hb3,hgs⟩;clear hgs hb3 m3 Cm Ur P_ DJ qH uF;go_wp2_with fail
 go_loopw [9,27] (λav iv wr=>∃(j i n1:Nat) (E1:List En) (PT:List Sy),iv=.int .i64 j/\av=.int .i64 i/\j<=I.length/\i<=m/\I.drop j=tV (fits lv) i ((T.drop i).map key)/\PT++step lv (T.drop i)=U/\PT.length=n1/\n1<=i/\(∀y∈PT,y∈syms E1)/\Lo n0 B most g F E W b1 b2 b6 W.heap.size (W.heap.size+1) c (.slice (some ⟨b1,0,none⟩) m c) (.slice (some ⟨b2,0,none⟩) m c) 3 1 w2.heap.size gF (.slice ga I.length gc) I (xx E T) (yU T) E1 n1 n1 i (xx E1 PT) (yU PT) wr) (λ_ iv _=>I.length-(intOf iv).toNat)
 case atStart=>exact⟨0,0,0,E,[],rfl,rfl,agb _,agb _,HI.o.symm,HU.o,rfl,af7 _,λy hy=>by simp at hy,aak.o⟩
 obtain⟨j,i,n1,E1,PT,rfl,rfl,hj,him,hdr,hst,hpl,hni,hmem,hlo⟩:=hrel;by_cases hjn:j<I.length
 .have l1:(j:Int)<(I.length:Int):=by omega
  have l0:(0:Int)<=(j:Int):=by omega
  obtain⟨q,x,y,a1,a2,a3,a4,a5,a6,a7⟩:=Sn HNV.o hdr hjn (by rw[HM.o.1];exact him);obtain⟨gg,cap,hge,c0⟩:=qB hlo.ls hjn;simp only[agn]at hge;obtain⟨rfl,-,rfl⟩:=hge;have hIq:I[j]=q:=by rw[agt hjn]at a1;exact agQ a1
  rw[hIq]at c0;rw[HM.o.1]at a3;have jw:=ak (show j<I.length/\i<=m/\i<=q/\q+2<=m/\n1<=i/\PT.length=n1 from⟨hjn,him,a2,a3,hni,hpl⟩);have Qb:=ak (And.intro a5 a6);have HDR:=ak a4;have HST:aA (PT++(T.drop i).take (q-i)++ .pr x y::step lv (T.drop (q+2))=U):=ak (by rw[<-hst,a7,agf]);have tJ:=ak hmem;have HL:=ak hlo;clear a1 a2 a3 a4 a5 a6 a7 hj him hdr hst hpl hni hmem hIq hcm;have m0:∀w,vX W.heap.size b6 (.slice (some ⟨b1,0,none⟩) m c) (.slice (some ⟨b2,0,none⟩) m c) (.slice (some ⟨b1,0,none⟩) n1 c) (.slice (some ⟨b2,0,none⟩) n1 c) w->w.cell? ⟨W.heap.size,0,none⟩=some (.slice (some ⟨b1,0,none⟩) m c):=λw hw=>hw.1.cells.1;have m6:∀w,vX W.heap.size b6 (.slice (some ⟨b1,0,none⟩) m c) (.slice (some ⟨b2,0,none⟩) m c) (.slice (some ⟨b1,0,none⟩) n1 c) (.slice (some ⟨b2,0,none⟩) n1 c) w->w.cell? ⟨b6,0,none⟩=some (.slice (some ⟨b1,0,none⟩) n1 c):=λw hw=>hw.2.cells.1;have i0:(0:Int)<=(i:Int):=by omega
  have i1:(i:Int)<=(q:Int):=by have:=jw.o;omega
  have i2:(q:Int)<=(m:Int):=by have:=jw.o;omega
  have i3:(q:Int)<=(c:Int):=by have:=jw.o;have:=HM.o;omega
  have i4:(m:Int)<=(c:Int):=by have:=HM.o;omega
  have hci:¬c=i:=by have:=jw.o;have:=HM.o;omega
  go_wp2_with fail
  clear c0;obtain⟨wd,hwd⟩:=ay (wr.drew);have bd:Below wr.heap.size wr wd:=by rw[<-hwd];exact(af6 _ _).drew
  refine bM (vX W.heap.size b6 (.slice (some ⟨b1,0,none⟩) m c) (.slice (some ⟨b2,0,none⟩) m c) (.slice (some ⟨b1,0,none⟩) n1 c) (.slice (some ⟨b2,0,none⟩) n1 c)) (by kernel_rfl) ?_;rw[hwd];clear hwd;have LD:=ak (hlo.below bd);have S0:vX W.heap.size b6 (.slice (some ⟨b1,0,none⟩) m c) (.slice (some ⟨b2,0,none⟩) m c) (.slice (some ⟨b1,0,none⟩) n1 c) (.slice (some ⟨b2,0,none⟩) n1 c) wd:=⟨LD.o.q3,LD.o.q6⟩;clear hlo bd;refine bJ 0 1 2 3 4 5 ?_;refine tk1 6 ?_;obtain⟨w1,hrun,F6,hg1⟩:=LD.o.h1.move elemId 30 (iX E1 PT |>.trans jw.o.2.2.2.2.2) jw.o.2.2.2.2.1 jw.o.2.2.1 (by rw[iX,HM.o.1];have:=jw.o;omega) (by have:=jw.o;have:=HM.o;omega) (λu hu=>by obtain⟨y,-,rfl⟩:=agz.1 hu;rfl) (c-i);rw[af4 hci]at hrun;have hz1:vX W.heap.size b6 (.slice (some ⟨b1,0,none⟩) m c) (.slice (some ⟨b2,0,none⟩) m c) (.slice (some ⟨b1,0,none⟩) n1 c) (.slice (some ⟨b2,0,none⟩) n1 c) w1:=⟨aI hg1 LD.o.q3 (aX LD.o.q3 LD.o.h1.blk (by decide)),aI hg1 LD.o.q6 (aX LD.o.q6 LD.o.h1.blk (by decide))⟩;have L1:=ak ((LD.o.weak jw.o.2.2.1).ap1 jX.o (by decide) hg1 F6);have T1:=ak (LD.o.h2.other hg1 (aX LD.o.h2.blk LD.o.h1.blk (by decide)));clear F6 hg1;refine aT 7 λK hK=>?_;simp[execOp,resolve,invoke,builtin,hrun,Result.andThen,Act.eval,Oper.uponIn];refine hK _ _ hz1 ?_;clear hK K hrun;refine tk1 8 ?_;refine aJ.cK 9 (by kernel_rfl) ?_;simp only[agr,agj];clear m0 m6 S0 hz1 LD;obtain⟨n2,hn2⟩:=ay (n1+(q-i));have J4:=ak hn2;obtain⟨c0,c1,f6⟩:=L1.o.q6.cells;have f0:=f6 0;obtain⟨w2',hw2⟩:=ay (w1.setCell ⟨b6,0,none⟩ (.slice (some ⟨b1,0,none⟩) n2 c));have l2:=L1.o.st0 jX.o (by decide) n2;have t2:=T1.o.other (aK w1 ⟨b6,0,none⟩ (.slice (some ⟨b1,0,none⟩) n2 c)) (aX T1.o.blk L1.o.q6 (by decide));rw[hw2]at l2 t2;rw[<-hn2]at hw2;have L2:=ak l2;have T2:=ak t2;clear l2 t2 f6 hn2 L1 T1;gi_wp2_with fail
  refine NP.normal ?_;clear hw2 c0 c1 f0;have m0:∀w,vX W.heap.size b6 (.slice (some ⟨b1,0,none⟩) m c) (.slice (some ⟨b2,0,none⟩) m c) (.slice (some ⟨b1,0,none⟩) n2 c) (.slice (some ⟨b2,0,none⟩) n1 c) w->w.cell? ⟨W.heap.size,1,none⟩=some (.slice (some ⟨b2,0,none⟩) m c):=λw hw=>hw.1.cells.2.1;have m6:∀w,vX W.heap.size b6 (.slice (some ⟨b1,0,none⟩) m c) (.slice (some ⟨b2,0,none⟩) m c) (.slice (some ⟨b1,0,none⟩) n2 c) (.slice (some ⟨b2,0,none⟩) n1 c) w->w.cell? ⟨b6,1,none⟩=some (.slice (some ⟨b2,0,none⟩) n1 c):=λw hw=>hw.2.cells.2.1;go_wp2_with fail
  obtain⟨we,hwd⟩:=ay (w2'.drew);have bd:Below w2'.heap.size w2' we:=by rw[<-hwd];exact(af6 _ _).drew
  refine bM (vX W.heap.size b6 (.slice (some ⟨b1,0,none⟩) m c) (.slice (some ⟨b2,0,none⟩) m c) (.slice (some ⟨b1,0,none⟩) n2 c) (.slice (some ⟨b2,0,none⟩) n1 c)) (by kernel_rfl) ?_;rw[hwd];clear hwd;have LE:=ak (L2.o.below bd);have TE:=ak (T2.o.below bd);have S0:vX W.heap.size b6 (.slice (some ⟨b1,0,none⟩) m c) (.slice (some ⟨b2,0,none⟩) m c) (.slice (some ⟨b1,0,none⟩) n2 c) (.slice (some ⟨b2,0,none⟩) n1 c) we:=⟨LE.o.q3,LE.o.q6⟩;clear bd L2 T2;refine bJ 0 1 2 3 4 5 ?_;refine tk1 6 ?_;obtain⟨w3',hrun,F6,hg1⟩:=TE.o.move EA 133 (mD PT |>.trans jw.o.2.2.2.2.2) jw.o.2.2.2.2.1 jw.o.2.2.1 (by rw[mD,HM.o.1];have:=jw.o;omega) (by have:=jw.o;have:=HM.o;omega) (λu hu=>by obtain⟨y,-,rfl⟩:=agz.1 hu;rfl) (c-i);rw[af4 hci]at hrun;have hz1:vX W.heap.size b6 (.slice (some ⟨b1,0,none⟩) m c) (.slice (some ⟨b2,0,none⟩) m c) (.slice (some ⟨b1,0,none⟩) n2 c) (.slice (some ⟨b2,0,none⟩) n1 c) w3':=⟨aI hg1 LE.o.q3 (aX LE.o.q3 TE.o.blk (by decide)),aI hg1 LE.o.q6 (aX LE.o.q6 TE.o.blk (by decide))⟩;have L3:=ak (LE.o.ap2 jX.o (by decide) hg1 F6);clear F6 hg1;refine aT 7 λK hK=>?_;simp[execOp,resolve,invoke,builtin,hrun,Result.andThen,Act.eval,Oper.uponIn];refine hK _ _ hz1 ?_;clear hK K hrun;refine tk1 8 ?_;refine aJ.cK 9 (by kernel_rfl) ?_;simp only[agr,agj];clear m0 m6 S0 hz1 LE TE;obtain⟨c0,c1,f6⟩:=L3.o.q6.cells;have f0:=f6 1;obtain⟨w4,hw4⟩:=ay (w3'.setCell ⟨b6,1,none⟩ (.slice (some ⟨b2,0,none⟩) n2 c));have l4:=L3.o.st1 jX.o (by decide) n2;rw[hw4]at l4;rw[<-J4.o]at hw4;have L4:=ak l4;clear l4 f6 L3;gi_wp2_with fail
  refine NP.normal ?_;clear hw4 c0 c1 f0;obtain⟨P2,hP2⟩:=ay (PT++(T.drop i).take (q-i));have Sq:∀y∈(T.drop i).take (q-i),y∈syms E:=λy hy=>Ag.o.mem y (aie (ahJ hy));have l4:=L4.o;rw[F4,F5,<-tT l4.gw.ext Sq,<-kP,<-kQ,hP2]at l4;have kZ:aA (∀y∈P2,y∈syms E1):=ak (λy hy=>by
   rw[<-hP2]at hy;rcases ags.1 hy with h|h
   .exact tJ.o y h
   exact l4.gw.ext.mem (Sq y h))
  have Sr:aA (P2.length=n2/\n2<=q):=ak (by
   have:=jw.o;have:=J4.o;have:=HM.o;rw[<-hP2,af8,agB,agp];omega)
  have VK:=HST.o;rw[hP2]at VK;have HST2:=ak VK;have hx1:=l4.gw.mem Ag.o.mem x (agE Qb.o.1);have hy1:=l4.gw.mem Ag.o.mem y (agE Qb.o.2);have hnx:num E1 x=num E x:=eZ l4.gw.ext (Ag.o.mem x (agE Qb.o.1));have hny:num E1 y=num E y:=eZ l4.gw.ext (Ag.o.mem y (agE Qb.o.2));have jg:=ak (λw (hw:Below w4.heap.size w4 w)=>XD (l4.gw.st.below hw) hx1 hy1 (lN.o _ (by rw[<-VK];simp)));obtain⟨nx,aam⟩:=ay (num E1 x);obtain⟨ny,aan⟩:=ay (num E1 y);rw[aam,aan]at jg;obtain⟨q1,hq1⟩:=ay (q+1);have hpa:∀w,Below w4.heap.size w4 w->iW w p B g:=λw hw=>au hw (fV.o.kp l4.gw.kp (by
   have h1:=fV.o.lt;rintro(q|q|q)
   .exact aX fV.o Ag.o.ids.blk (by decide) q
   .exact aX fV.o Ag.o.keys.blk (by decide) q
   omega))
  have adp:=ak hpa;have L5:=ak l4;have e0:∀w,Below w4.heap.size w4 w->w.cell? ⟨p,0,none⟩=some (.pointer (some ⟨B,0,none⟩)):=λw hw=>(hpa w hw).cells.1;have e1:∀w,Below w4.heap.size w4 w->w.cell? ⟨W.heap.size,0,none⟩=some (.slice (some ⟨b1,0,none⟩) m c):=λw hw=>(jM.cells (au hw l4.q3)).1;have e2:∀w,Below w4.heap.size w4 w->w.cell? ⟨b1,q,none⟩=some (.int .i64 nx):=λw hw=>by
   rw[<-aam,hnx];exact(l4.h1.below hw).old (af7 _) (Ng Qb.o.1)
  have e3:∀w,Below w4.heap.size w4 w->w.cell? ⟨b1,q1,none⟩=some (.int .i64 ny):=λw hw=>by
   rw[<-aan,hny,<-hq1];exact(l4.h1.below hw).old (aiT _) (Ng Qb.o.2)
  have w1q:IntKind.i64.wrap ((q:Int)+1)=(q1:Int):=by have:=jw.o;have:=HM.o;rw[agd];omega
  have i5:(0:Int)<=(q:Int):=by omega
  have i6:(q:Int)<(m:Int):=by have:=jw.o;omega
  have i7:(0:Int)<=(q1:Int):=by omega
  have i8:(q1:Int)<(m:Int):=by have:=jw.o;omega
  clear l4 hP2 Sq VK hx1 hy1 hnx hny aam aan hq1 hpa L4 HST i0 i1 i2 i3 i4;go_wp2_with fail
  obtain⟨w5,eH⟩:=ay (w4.drew);refine aU (Below w4.heap.size w4) ?_;have S0:Below w4.heap.size w4 w4.drew:=(af6 _ _).drew;rw[eH]at S0⊢;refine bJ 0 1 2 3 4 5 ?_;refine bJ 6 7 8 9 10 11 ?_;refine tk3 12 13 14 ?_;refine aJ.wall (i:=15) (by kernel_rfl) rfl HF (by rfl) (λK hK=>?_);go_simp
  try with_reducible refine⟨rfl,?_⟩
  refine agq.2 ((jg.o _ S0).mono ?_);rintro r w6 ⟨E2,rfl,hG2,hm2⟩;refine hK (λw=>w=w6) _ _ ?_;clear hK K;refine zD 16 17 18 19 20 ?_;refine aO ?_;have l6:=(L5.o.below S0).call hG2 (by decide);rw[<-tT hG2.ext kZ.o]at l6;have HM3:aA (∀w∈P2++[Sy.pr x y],w∈syms E2):=ak (λw hw=>by
   rcases ags.1 hw with h|h
   .exact hG2.mem kZ.o w h
   rw[agl.1 h];exact hm2)
  have pa6:iW w6 p B g:=(adp.o _ S0).kp hG2.kp (λq=>q);have L6:=ak (l6.weak (k2:=q+2) (by omega));have Vy:=ak (R6 L6.o.gw.st pa6 L6.o.q6 L6.o.h1 L6.o.h2 Sr.o.1 (by have:=Sr.o;omega) (by have:=Sr.o;have:=jw.o;have:=HM.o;omega) hm2 jX.o.l1 jX.o.l2 (af9 jX.o.l0 jX.o.l6));clear e0 e1 e2 e3 w1q S0 eH l6 pa6 hG2 hm2 jg adp L5 kZ;go_wp2_with fail
  refine Vy.o.mono ?_;rintro r w7 ⟨rfl,hG3,q7,t7,s7⟩;have L7:=ak (L6.o.addd jX.o (by decide) (by decide) hG3 q7 t7 s7);clear hG3 q7 t7 s7 L6 Vy;have hj5:j<65536:=by have:=jw.o;have:=HIL.o;have:=HM.o;omega
  have hq5:q+2<=65536:=by have:=jw.o;have:=HM.o;omega
  go_wp2_with fail
  go_roundw
  case rel=>exact⟨j+1,q+2,n2+1,E2,P2++[.pr x y],by go_num,by go_num,by have:=jw.o;omega,by have:=jw.o;omega,HDR.o,by rw[agf];exact HST2.o,by rw[af8,Sr.o.1];rfl,by have:=Sr.o;omega,HM3.o,L7.o⟩
  case measure=>have:=jw.o.1;simp only[intOf];omega
 have l1:¬(j:Int)<(I.length:Int):=by omega
 have hend:=O4 HNV.o hdr (by omega);rw[hend]at hst;have jw:=ak (show i<=m/\n1<=i/\PT.length=n1/\m<=c from⟨him,hni,hpl,HM.o.2.2⟩);have HST:=ak hst;have tJ:=ak hmem;have HL:=ak hlo;clear hdr hst hpl hni hmem hcm hj hend him;by_cases hci:c=i
 case' _=>
  obtain rfl:i=c:=hci.symm;have m0:∀w,vX W.heap.size b6 (.slice (some ⟨b1,0,none⟩) m i) (.slice (some ⟨b2,0,none⟩) m i) (.slice (some ⟨b1,0,none⟩) n1 i) (.slice (some ⟨b2,0,none⟩) n1 i) w->w.cell? ⟨W.heap.size,0,none⟩=some (.slice (some ⟨b1,0,none⟩) m i):=λw hw=>hw.1.cells.1;have m6:∀w,vX W.heap.size b6 (.slice (some ⟨b1,0,none⟩) m i) (.slice (some ⟨b2,0,none⟩) m i) (.slice (some ⟨b1,0,none⟩) n1 i) (.slice (some ⟨b2,0,none⟩) n1 i) w->w.cell? ⟨b6,0,none⟩=some (.slice (some ⟨b1,0,none⟩) n1 i):=λw hw=>hw.2.cells.1;have i0:(0:Int)<=(i:Int):=by omega
  have i2:(i:Int)<=(m:Int):=by have:=jw.o;omega
  have i4:(m:Int)<=(i:Int):=by have:=HM.o;omega
 rotate_left
 case' _=>
  skip;have m0:∀w,vX W.heap.size b6 (.slice (some ⟨b1,0,none⟩) m c) (.slice (some ⟨b2,0,none⟩) m c) (.slice (some ⟨b1,0,none⟩) n1 c) (.slice (some ⟨b2,0,none⟩) n1 c) w->w.cell? ⟨W.heap.size,0,none⟩=some (.slice (some ⟨b1,0,none⟩) m c):=λw hw=>hw.1.cells.1;have m6:∀w,vX W.heap.size b6 (.slice (some ⟨b1,0,none⟩) m c) (.slice (some ⟨b2,0,none⟩) m c) (.slice (some ⟨b1,0,none⟩) n1 c) (.slice (some ⟨b2,0,none⟩) n1 c) w->w.cell? ⟨b6,0,none⟩=some (.slice (some ⟨b1,0,none⟩) n1 c):=λw hw=>hw.2.cells.1;have i0:(0:Int)<=(i:Int):=by omega
  have i2:(i:Int)<=(m:Int):=by have:=jw.o;omega
  have i4:(m:Int)<=(c:Int):=by have:=HM.o;omega
 rotate_left
 all_goals
  go_wp2_with fail
  obtain⟨wd,hwd⟩:=ay (wr.drew);have bd:Below wr.heap.size wr wd:=by rw[<-hwd];exact(af6 _ _).drew
 case' _=>
  refine bM (vX W.heap.size b6 (.slice (some ⟨b1,0,none⟩) m i) (.slice (some ⟨b2,0,none⟩) m i) (.slice (some ⟨b1,0,none⟩) n1 i) (.slice (some ⟨b2,0,none⟩) n1 i)) (by kernel_rfl) ?_;rw[hwd];clear hwd;have LD:=ak (hlo.below bd);have S0:vX W.heap.size b6 (.slice (some ⟨b1,0,none⟩) m i) (.slice (some ⟨b2,0,none⟩) m i) (.slice (some ⟨b1,0,none⟩) n1 i) (.slice (some ⟨b2,0,none⟩) n1 i) wd:=⟨LD.o.q3,LD.o.q6⟩;clear hlo bd;refine bJ 0 1 2 3 4 5 ?_;obtain⟨w1,hrun,F6,hg1⟩:=LD.o.h1.move elemId 30 (iX E1 PT |>.trans jw.o.2.2.1) jw.o.2.1 jw.o.1 (by rw[iX,HM.o.1];exact af7 _) HM.o.2.2 (λu hu=>by obtain⟨y,-,rfl⟩:=agz.1 hu;rfl) (0);rw[af5 rfl]at hrun;have hz1:vX W.heap.size b6 (.slice (some ⟨b1,0,none⟩) m i) (.slice (some ⟨b2,0,none⟩) m i) (.slice (some ⟨b1,0,none⟩) n1 i) (.slice (some ⟨b2,0,none⟩) n1 i) w1:=⟨aI hg1 LD.o.q3 (aX LD.o.q3 LD.o.h1.blk (by decide)),aI hg1 LD.o.q6 (aX LD.o.q6 LD.o.h1.blk (by decide))⟩
 rotate_left
 case' _=>
  refine bM (vX W.heap.size b6 (.slice (some ⟨b1,0,none⟩) m c) (.slice (some ⟨b2,0,none⟩) m c) (.slice (some ⟨b1,0,none⟩) n1 c) (.slice (some ⟨b2,0,none⟩) n1 c)) (by kernel_rfl) ?_;rw[hwd];clear hwd;have LD:=ak (hlo.below bd);have S0:vX W.heap.size b6 (.slice (some ⟨b1,0,none⟩) m c) (.slice (some ⟨b2,0,none⟩) m c) (.slice (some ⟨b1,0,none⟩) n1 c) (.slice (some ⟨b2,0,none⟩) n1 c) wd:=⟨LD.o.q3,LD.o.q6⟩;clear hlo bd;refine bJ 0 1 2 3 4 5 ?_;obtain⟨w1,hrun,F6,hg1⟩:=LD.o.h1.move elemId 30 (iX E1 PT |>.trans jw.o.2.2.1) jw.o.2.1 jw.o.1 (by rw[iX,HM.o.1];exact af7 _) HM.o.2.2 (λu hu=>by obtain⟨y,-,rfl⟩:=agz.1 hu;rfl) (c-i);rw[af4 hci]at hrun;have hz1:vX W.heap.size b6 (.slice (some ⟨b1,0,none⟩) m c) (.slice (some ⟨b2,0,none⟩) m c) (.slice (some ⟨b1,0,none⟩) n1 c) (.slice (some ⟨b2,0,none⟩) n1 c) w1:=⟨aI hg1 LD.o.q3 (aX LD.o.q3 LD.o.h1.blk (by decide)),aI hg1 LD.o.q6 (aX LD.o.q6 LD.o.h1.blk (by decide))⟩
 rotate_left
 all_goals
  have L1:=ak ((LD.o.weak jw.o.1).ap1 jX.o (by decide) hg1 F6);have T1:=ak (LD.o.h2.other hg1 (aX LD.o.h2.blk LD.o.h1.blk (by decide)));clear F6 hg1;refine aT 6 λK hK=>?_;simp[execOp,resolve,invoke,builtin,hrun,Result.andThen,Act.eval,Oper.uponIn];refine hK _ _ hz1 ?_;clear hK K hrun;refine tk1 7 ?_;refine aJ.cK 8 (by kernel_rfl) ?_;simp only[agr,agj];clear m0 m6 S0 hz1 LD;obtain⟨n2,hn2⟩:=ay (n1+(m-i));have J4:=ak hn2;obtain⟨c0,c1,f6⟩:=L1.o.q6.cells;have f0:=f6 0
 case' _=>
  obtain⟨w2',hw2⟩:=ay (w1.setCell ⟨b6,0,none⟩ (.slice (some ⟨b1,0,none⟩) n2 i));have l2:=L1.o.st0 jX.o (by decide) n2;have t2:=T1.o.other (aK w1 ⟨b6,0,none⟩ (.slice (some ⟨b1,0,none⟩) n2 i)) (aX T1.o.blk L1.o.q6 (by decide))
 rotate_left
 case' _=>
  obtain⟨w2',hw2⟩:=ay (w1.setCell ⟨b6,0,none⟩ (.slice (some ⟨b1,0,none⟩) n2 c));have l2:=L1.o.st0 jX.o (by decide) n2;have t2:=T1.o.other (aK w1 ⟨b6,0,none⟩ (.slice (some ⟨b1,0,none⟩) n2 c)) (aX T1.o.blk L1.o.q6 (by decide))
 rotate_left
 all_goals
  rw[hw2]at l2 t2;rw[<-hn2]at hw2;have L2:=ak l2;have T2:=ak t2;clear l2 t2 f6 hn2 L1 T1;gi_wp2_with fail
  refine NP.normal ?_;clear hw2 c0 c1 f0
 case' _=>
  have m0:∀w,vX W.heap.size b6 (.slice (some ⟨b1,0,none⟩) m i) (.slice (some ⟨b2,0,none⟩) m i) (.slice (some ⟨b1,0,none⟩) n2 i) (.slice (some ⟨b2,0,none⟩) n1 i) w->w.cell? ⟨W.heap.size,1,none⟩=some (.slice (some ⟨b2,0,none⟩) m i):=λw hw=>hw.1.cells.2.1;have m6:∀w,vX W.heap.size b6 (.slice (some ⟨b1,0,none⟩) m i) (.slice (some ⟨b2,0,none⟩) m i) (.slice (some ⟨b1,0,none⟩) n2 i) (.slice (some ⟨b2,0,none⟩) n1 i) w->w.cell? ⟨b6,1,none⟩=some (.slice (some ⟨b2,0,none⟩) n1 i):=λw hw=>hw.2.cells.2.1
 rotate_left
 case' _=>
  have m0:∀w,vX W.heap.size b6 (.slice (some ⟨b1,0,none⟩) m c) (.slice (some ⟨b2,0,none⟩) m c) (.slice (some ⟨b1,0,none⟩) n2 c) (.slice (some ⟨b2,0,none⟩) n1 c) w->w.cell? ⟨W.heap.size,1,none⟩=some (.slice (some ⟨b2,0,none⟩) m c):=λw hw=>hw.1.cells.2.1;have m6:∀w,vX W.heap.size b6 (.slice (some ⟨b1,0,none⟩) m c) (.slice (some ⟨b2,0,none⟩) m c) (.slice (some ⟨b1,0,none⟩) n2 c) (.slice (some ⟨b2,0,none⟩) n1 c) w->w.cell? ⟨b6,1,none⟩=some (.slice (some ⟨b2,0,none⟩) n1 c):=λw hw=>hw.2.cells.2.1
 rotate_left
 all_goals
  go_wp2_with fail
  obtain⟨we,hwd⟩:=ay (w2'.drew);have bd:Below w2'.heap.size w2' we:=by rw[<-hwd];exact(af6 _ _).drew
 case' _=>
  refine bM (vX W.heap.size b6 (.slice (some ⟨b1,0,none⟩) m i) (.slice (some ⟨b2,0,none⟩) m i) (.slice (some ⟨b1,0,none⟩) n2 i) (.slice (some ⟨b2,0,none⟩) n1 i)) (by kernel_rfl) ?_;rw[hwd];clear hwd;have LE:=ak (L2.o.below bd);have TE:=ak (T2.o.below bd);have S0:vX W.heap.size b6 (.slice (some ⟨b1,0,none⟩) m i) (.slice (some ⟨b2,0,none⟩) m i) (.slice (some ⟨b1,0,none⟩) n2 i) (.slice (some ⟨b2,0,none⟩) n1 i) we:=⟨LE.o.q3,LE.o.q6⟩;clear bd L2 T2;refine bJ 0 1 2 3 4 5 ?_;obtain⟨w3',hrun,F6,hg1⟩:=TE.o.move EA 133 (mD PT |>.trans jw.o.2.2.1) jw.o.2.1 jw.o.1 (by rw[mD,HM.o.1];exact af7 _) HM.o.2.2 (λu hu=>by obtain⟨y,-,rfl⟩:=agz.1 hu;rfl) (0);rw[af5 rfl]at hrun;have hz1:vX W.heap.size b6 (.slice (some ⟨b1,0,none⟩) m i) (.slice (some ⟨b2,0,none⟩) m i) (.slice (some ⟨b1,0,none⟩) n2 i) (.slice (some ⟨b2,0,none⟩) n1 i) w3':=⟨aI hg1 LE.o.q3 (aX LE.o.q3 TE.o.blk (by decide)),aI hg1 LE.o.q6 (aX LE.o.q6 TE.o.blk (by decide))⟩
 rotate_left
 case' _=>
  refine bM (vX W.heap.size b6 (.slice (some ⟨b1,0,none⟩) m c) (.slice (some ⟨b2,0,none⟩) m c) (.slice (some ⟨b1,0,none⟩) n2 c) (.slice (some ⟨b2,0,none⟩) n1 c)) (by kernel_rfl) ?_;rw[hwd];clear hwd;have LE:=ak (L2.o.below bd);have TE:=ak (T2.o.below bd);have S0:vX W.heap.size b6 (.slice (some ⟨b1,0,none⟩) m c) (.slice (some ⟨b2,0,none⟩) m c) (.slice (some ⟨b1,0,none⟩) n2 c) (.slice (some ⟨b2,0,none⟩) n1 c) we:=⟨LE.o.q3,LE.o.q6⟩;clear bd L2 T2;refine bJ 0 1 2 3 4 5 ?_;obtain⟨w3',hrun,F6,hg1⟩:=TE.o.move EA 133 (mD PT |>.trans jw.o.2.2.1) jw.o.2.1 jw.o.1 (by rw[mD,HM.o.1];exact af7 _) HM.o.2.2 (λu hu=>by obtain⟨y,-,rfl⟩:=agz.1 hu;rfl) (c-i);rw[af4 hci]at hrun;have hz1:vX W.heap.size b6 (.slice (some ⟨b1,0,none⟩) m c) (.slice (some ⟨b2,0,none⟩) m c) (.slice (some ⟨b1,0,none⟩) n2 c) (.slice (some ⟨b2,0,none⟩) n1 c) w3':=⟨aI hg1 LE.o.q3 (aX LE.o.q3 TE.o.blk (by decide)),aI hg1 LE.o.q6 (aX LE.o.q6 TE.o.blk (by decide))⟩
 rotate_left
 all_goals
  have L3:=ak (LE.o.ap2 jX.o (by decide) hg1 F6);clear F6 hg1;refine aT 6 λK hK=>?_;simp[execOp,resolve,invoke,builtin,hrun,Result.andThen,Act.eval,Oper.uponIn];refine hK _ _ hz1 ?_;clear hK K hrun;refine tk1 7 ?_;refine aJ.cK 8 (by kernel_rfl) ?_;simp only[agr,agj];clear m0 m6 S0 hz1 LE TE;obtain⟨c0,c1,f6⟩:=L3.o.q6.cells;have f0:=f6 1
 case' _=>
  obtain⟨w4,hw4⟩:=ay (w3'.setCell ⟨b6,1,none⟩ (.slice (some ⟨b2,0,none⟩) n2 i))
 rotate_left
 case' _=>
  obtain⟨w4,hw4⟩:=ay (w3'.setCell ⟨b6,1,none⟩ (.slice (some ⟨b2,0,none⟩) n2 c))
 rotate_left
 all_goals
  have l4:=L3.o.st1 jX.o (by decide) n2;rw[hw4]at l4;rw[<-J4.o]at hw4;have L4:=ak l4;clear l4 f6 L3;gi_wp2_with fail
  refine NP.normal ?_;clear hw4 c0 c1 f0;have Sq:∀y∈T.drop i,y∈syms E:=λy hy=>Ag.o.mem y (aie hy);have l5:=L4.o;have hdt:(T.drop i).take (m-i)=T.drop i:=agI (by rw[agp,HM.o.1];exact af7 _);rw[F4,F5,hdt,<-tT l5.gw.ext Sq,<-kP,<-kQ,HST.o]at l5;have kZ:aA (∀y∈U,y∈syms E1):=ak (λy hy=>by
   rw[<-HST.o]at hy;rcases ags.1 hy with h|h
   .exact tJ.o y h
   exact l5.gw.ext.mem (Sq y h))
  have ut:aA (U.length=n2):=ak (by
   have:=jw.o;have:=J4.o;have:=HM.o;rw[<-HST.o,af8,agp];omega)
  obtain⟨d0,d1,-⟩:=l5.q6.cells;obtain⟨c0,c1,f6⟩:=l5.q4.cells;have f0:=f6 0;have f1:=f6 1
 case' _=>
  obtain⟨w5,eH⟩:∃w',(w4.setCell ⟨W.heap.size+1,0,none⟩ (.slice (some ⟨b1,0,none⟩) n2 i)).setCell ⟨W.heap.size+1,1,none⟩ (.slice (some ⟨b2,0,none⟩) n2 i)=w':=⟨_,rfl⟩
 rotate_left
 case' _=>
  obtain⟨w5,eH⟩:∃w',(w4.setCell ⟨W.heap.size+1,0,none⟩ (.slice (some ⟨b1,0,none⟩) n2 c)).setCell ⟨W.heap.size+1,1,none⟩ (.slice (some ⟨b2,0,none⟩) n2 c)=w':=⟨_,rfl⟩
 rotate_left
 all_goals
  have g5:w4.grownBy w5 (some (W.heap.size+1)):=by rw[<-eH];exact aM (aK _ _ _) (aK _ ⟨W.heap.size+1,1,none⟩ _)
 case' _=>
  have q5:jM w5 (W.heap.size+1) (.slice (some ⟨b1,0,none⟩) n2 i) (.slice (some ⟨b2,0,none⟩) n2 i):=by rw[<-eH];exact(l5.q4.set0 _).set1 _
 rotate_left
 case' _=>
  have q5:jM w5 (W.heap.size+1) (.slice (some ⟨b1,0,none⟩) n2 c) (.slice (some ⟨b2,0,none⟩) n2 c):=by rw[<-eH];exact(l5.q4.set0 _).set1 _
 rotate_left
 all_goals
  have HR:aA (Gw n0 B most g F (λq=>q=b1\/q=b2) E E1 W w5):=ak ((l5.gw.trans (Gw.put l5.gw.st g5 l5.q4 (by decide) (by have:=jU.o;omega) (.inr (.inr (by omega))))).mono λk hk h=>by rcases h with h|h|h;exact .inl h;exact .inr h;omega);have HT3:=ak ((l5.h1.other g5 (l5.h1.Dv l5.q4 (by decide))).fin (k2:=0));have qG:=ak ((l5.h2.other g5 (l5.h2.Dv l5.q4 (by decide))).fin (k2:=0));have HQ5:=ak q5;clear l5 Sq hdt g5 q5 f6 L4 HL tJ i0 i2 i4;go_wp2_with fail
  obtain⟨x0,x1,-⟩:=HQ5.o.cells
 .refine af_ (v:=.tuple #[.agg #[.slice (some ⟨b1,0,none⟩) n2 i,.slice (some ⟨b2,0,none⟩) n2 i],.nilIface]) (by simp[results,Tryz.results140,go_sem,x0,x1]) rfl ?_;exact⟨E1,n2,rfl,ut.o,HR.o,kZ.o,HT3.o,qG.o⟩
 refine af_ (v:=.tuple #[.agg #[.slice (some ⟨b1,0,none⟩) n2 c,.slice (some ⟨b2,0,none⟩) n2 c],.nilIface]) (by simp[results,Tryz.results140,go_sem,x0,x1]) rfl ?_;exact⟨E1,n2,rfl,ut.o,HR.o,kZ.o,HT3.o,qG.o⟩
theorem S_go{t:List Nat}(h:t≠[]){j:Nat}(hj:1<(S j t).length):j<246*t.length:=by
 apply ahk
 intro hn
 have h1:=ZC (t:=t) (n:=246*t.length) (m:=j) (by omega)
 rw[rH h,agk]at h1
 omega
theorem VL(h:gV n0 B most g F E W)(hp:iW W p B g){gt ct:Nat}{t:List Nat}(ht:Qa W gt t)(hn:t.length=n)(hn0:0<n)(hlen:n<=65536)(hb:∀b∈t,b<256)(hF:∀z∈iO (sig t),z∈F):
    Calls Tryz.prog 100 #[.pointer (some ⟨p,0,none⟩),.slice (some ⟨gt,0,none⟩) n ct] W λe w'=>∃E',e=.returned (.tuple #[vI (num E' (sig t)),.nilIface])/\Gw n0 B most g F (λ_=>False) E E' W w'/\sig t∈syms E':=by
 have HF:∀f,Fence.wide.fn f:=λ_=>trivial
 have hne:t≠[]:=by rintro rfl;simp at hn;omega
 have HS:aA (∀j,∀y∈S j t,y∈F):=ak λj y hy=>hF y (Ld hne hy)
 have aag:=ak (I8 h hp (ct:=ct) ht hn hlen hb (λb q=>hF _ (Ld hne (n:=0) (show Sy.lt b∈t.map .lt from agz.2 ⟨b,q,rfl⟩))))
 have HP:=ak h;have fV:=ak hp;have HN:=ak (And.intro hne hn)
 have gJ:=ak h.lt
 obtain⟨p0,p1⟩:=hp.cells
 have l1:¬(65536<(n:Int)):=by omega
 have l2:¬((n:Int)=0):=by omega
 have l3:((n:Int)==0)=false:=agh.2 l2
 clear h hp ht hn hb hF
 go_enter Tryz.func100,Tryz.ntmps100
 go_wp2_with fail
 refine aag.o.mono ?_
 rintro e w1 ⟨b1,b2,E1,rfl,⟨lb1,lb2⟩,hG1,hR1⟩
 obtain⟨b6,hb6⟩:=ay (w1.heap.size)
 obtain⟨w2,hw2⟩:=ay (w1.alloc (.cells #[.slice (some ⟨b1,0,none⟩) n n,.slice (some ⟨b2,0,none⟩) n n] 237))
 have q2:jM w2 b6 (.slice (some ⟨b1,0,none⟩) n n) (.slice (some ⟨b2,0,none⟩) n n):=by rw[<-hw2,<-hb6];exact aD _ _
 have Nn:Below w1.heap.size w1 w2:=by rw[<-hw2];exact(af6 _ _).alloc (af7 _) _
 have HG1:aA (Gw n0 B most g F (λk=>W.heap.size<=k) E E1 W w2):=ak ((hG1.free).trans (Gw.of hG1.st Nn))
 have HR1:aA (Row w2 E1 b1 b2 n (t.map .lt)):=ak ⟨hR1.mem,hR1.ids.below Nn,hR1.keys.below Nn⟩
 have HQ1:=ak q2
 have jX:=ak (show W.heap.size<=b1/\W.heap.size<=b2/\W.heap.size<=b6 by
  have:=hG1.below.size;have:=hG1.kp
  refine⟨lb1,lb2,?_⟩
  obtain⟨cs,hcs,-⟩:=hR1.ids.h
  have:=(aga.1 hcs).1
  omega)
 clear hG1 hR1 q2 Nn lb1 lb2 p0 p1 l1 l2 l3
 go_wp2_with fail
 clear hw2 hb6
 go_loopw [8] (λiv wr=>∃(j m:Nat) (E2:List En),iv=.int .i64 ((j+1:Nat):Int)/\j<=246*n/\(S j t).length=m/\m<=n/\Gw n0 B most g F (λk=>W.heap.size<=k) E E2 W wr/\jM wr b6 (.slice (some ⟨b1,0,none⟩) m n) (.slice (some ⟨b2,0,none⟩) m n)/\Row wr E2 b1 b2 n (S j t)) (λiv _=>246*n+2-(intOf iv).toNat)
 case atStart=>
  exact⟨0,n,E1,rfl,agb _,by rw[oz];exact HN.o.2,af7 _,HG1.o,HQ1.o,HR1.o⟩
 case round=>
  obtain⟨j,m,E2,rfl,hj,hm,hmn,hG,hq,hr⟩:=hrel
  obtain⟨jj,hjj⟩:=ay (j+1)
  rw[hjj]
  obtain⟨c0,c1,f6⟩:=hq.cells
  have f0:=f6 0;have f1:=f6 1
  by_cases hm1:1<m
  .have l1:(m:Int)>1:=by omega
   have hjl:j<246*n:=by
    have:=S_go HN.o.1 (j:=j) (by rw[hm];exact hm1)
    rw[HN.o.2]at this;exact this
   have hpa:iW wr p B g:=fV.o.kp hG.kp (by have:=fV.o.lt;omega)
   have hlb:=jX.o
   have aao:=gJ.o
   have hSn:∀y∈step jj (S j t),y∈F:=by rw[<-hjj];exact HS.o (j+1)
   have Ch:b1≠b6/\b2≠b6:=⟨hr.ids.Dv hq (by decide),hr.keys.Dv hq (by decide)⟩
   by_cases hodd:jj%2=1
   case' _=>
    have o1:(jj:Int)%2=1:=by omega
    have o2:((jj%2:Nat):Int)=1:=by omega
    have Cm:=ak (O3 hG.st hpa hr hm (by omega) (by omega) (by omega) hodd hSn)
   rotate_left
   case' _=>
    have o1:¬(jj:Int)%2=1:=by omega
    have o2:¬((jj%2:Nat):Int)=1:=by omega
    have Cm:=ak (Lg hG.st hpa hr hm (by omega) (by omega) (by omega) (lv:=jj) (by omega) (by omega) (by omega) hSn)
   all_goals
    have HG:=ak hG;have HQ:=ak hq;have xu:=ak Ch;have HJ:=ak (And.intro hjj (And.intro hjl hmn))
    have jb:jj<=100000000:=by omega
    clear hG hr hpa hSn Ch hq hjj hjl hj hm hmn f6 hlb aao hodd
    go_wp2_with fail
    refine Cm.o.mono ?_
    rintro e w3 ⟨E3,m',rfl,hm',hG3,Su⟩
    have hq3:=HQ.o.kp hG3.kp (by have:=xu.o;rintro(q|q)<;>omega)
    obtain⟨w4,hw4⟩:∃w',(w3.setCell ⟨b6,0,none⟩ (.slice (some ⟨b1,0,none⟩) m' n)).setCell ⟨b6,1,none⟩ (.slice (some ⟨b2,0,none⟩) m' n)=w':=⟨_,rfl⟩
    have g4:w3.grownBy w4 (some b6):=by rw[<-hw4];exact aM (aK _ _ _) (aK _ ⟨b6,1,none⟩ _)
    have q4:jM w4 b6 (.slice (some ⟨b1,0,none⟩) m' n) (.slice (some ⟨b2,0,none⟩) m' n):=by rw[<-hw4];exact(hq3.set0 _).set1 _
    have Sv:m'<=n:=by have:=Su.ids.le;rw[iX,hm']at this;exact this
    have HR4:aA (Row w4 E3 b1 b2 n (step jj (S j t))):=ak ⟨Su.mem,Su.ids.other g4 xu.o.1,Su.keys.other g4 xu.o.2⟩
    have xZ:aA (Gw n0 B most g F (λk=>W.heap.size<=k) E E3 W w4):=ak ((HG.o.trans (hG3.mono λk _ h=>by have:=jX.o;rcases h with h|h<;>omega)).trans (Gw.put hG3.st g4 hq3 (by decide) (by have:=jX.o;have:=gJ.o;omega) (by have:=jX.o;omega)))
    have HQ4:=ak q4;have Mm:=ak (And.intro hm' Sv)
    obtain⟨d0,d1,d6⟩:=hq3.cells
    have e0:=d6 0;have e1:=d6 1
    clear g4 q4 hG3 Su hq3 hm' Sv d6 c0 c1 f0 f1
    go_wp2_with fail
    go_roundw
    case rel=>
     exact⟨j+1,m',E3,by rw[<-HJ.o.1];go_num,by have:=HJ.o;omega,by show(step (j+1) (S j t)).length=m';rw[HJ.o.1];exact Mm.o.1,Mm.o.2,xZ.o,HQ4.o,by show Row w4 E3 b1 b2 n (step (j+1) (S j t));rw[HJ.o.1];exact HR4.o⟩
    case measure=>have:=HJ.o;simp[intOf];omega
  .have hpos:=Mw j HN.o.1
   obtain rfl:m=1:=by omega
   obtain⟨y,hy⟩:=ajr.1 hm
   have hsg:sig t=y:=Kz hy
   rw[hy]at hr
   have hid:wr.cell? ⟨b1,0,none⟩=some (vI (num E2 y)):=hr.ids.new (by rfl)
   have hmem:y∈syms E2:=hr.mem y (by simp)
   have HG:=ak hG
   clear hG hr hq f6 hm hy
   go_wp2_with fail
   refine af_ (v:=.tuple #[vI (num E2 y),.nilIface]) (by simp[results,Tryz.results100,go_sem]) rfl ?_
   rw[hsg]
   exact⟨E2,rfl,HG.o.mono λk hk h=>by omega,hmem⟩
end M
end
section
open Go.RowKit
namespace M
variable{E:List En}
inductive Need(F:List Sy)(E:List En):Nat->Prop
 |short {x:Nat}:0<x->x<=E.length->(txt E x).length<=256->(∀y∈iO (sig (txt E x)),y∈F)->Need F E x
 |pair {x l r:Nat}:0<x->x<=E.length->256<(txt E x).length->(∀y∈iO (sig (txt E x)),y∈F)->(aF E x).ru=⟨2,0,l,r,0⟩->0<l->l<x->0<r->r<x->txt E x=txt E l++txt E r->Need F E l->Need F E r->Need F E x
theorem Need.at{F:List Sy}{x:Nat}(h:Need F E x):0<x/\x<=E.length/\∀y∈iO (sig (txt E x)),y∈F:=by
 cases h with
 |short a b _ c=>exact⟨a,b,c⟩
 |pair a b _ c=>exact⟨a,b,c⟩
theorem Need.ext{F:List Sy}{E2:List En}(hx:Ext E E2){x:Nat}(h:Need F E x):Need F E2 x:=by
 induction h with
 |short a b c d=>exact .short a (af9 b hx.le) (by rw[hx.txt b];exact c) (by rw[hx.txt b];exact d)
 |pair a b c d e f1 f2 f3 f4 g _ _ i1 i2=>
  exact .pair a (af9 b hx.le) (by rw[hx.txt b];exact c) (by rw[hx.txt b];exact d) (by rw[hx.ent b];exact e) f1 f2 f3 f4 (by rw[hx.txt b,hx.txt (by omega),hx.txt (by omega)];exact g) i1 i2
theorem VN(hE:iE E):∀(d:Nat) {x:Nat} {t:List Nat} {dx:Nat},lY E x t dx->dx<=d->∃L:List Sy,L.length<=2*t.length*(d+1)/\(∀y∈L,(aV y).length<=t.length)/\∀F:List Sy,(∀y∈L,y∈F)->Need F E x:=by
 have self:∀{x:Nat} {t:List Nat} {dx:Nat},lY E x t dx->(iO (sig t)).length<=2*t.length/\(∀y∈iO (sig t),(aV y).length<=t.length):=λ{x t dx} h=>by
  have hl:=(h.len hE).2;have hne:t≠[]:=by rintro rfl;simp at hl
  have h1:=xD (KD hne);rw[eY hne]at h1;refine⟨by omega,λy hy=>?_⟩;have:=(rY (KD hne) y hy).2;rwa [eY hne]at this
 intro d
 induction d with
 |zero=>
  intro x t dx h hd;obtain⟨s1,s2⟩:=self h;refine⟨iO (sig t),by omega,s2,λF hF=>?_⟩;have hl:t.length<=256:=by
   rcases fI hE.wf h.pos h.le with⟨b,r1,-⟩|⟨l,r,r1,-⟩|⟨y,k,r1,-⟩
   .have:=FH hE.wf x h.pos h.le;rw[r1]at this;rw[<-h.txt,this];show([b]:List Nat).length<=256;simp
   .have:=((hE.at x h.pos h.le).2.1 (by rw[r1])).1;rw[h.depth]at this;omega
   have:=(hE.at x h.pos h.le).2.2 (by rw[r1]);rw[h.even]at this;cases this
  exact .short h.pos h.le (by rw[h.txt];exact hl) (by rw[h.txt];exact hF)
 |succ d ih=>
  intro x t dx h hd;obtain⟨s1,s2⟩:=self h;by_cases hl:t.length<=256
  .refine⟨iO (sig t),?_,s2,λF hF=> .short h.pos h.le (by rw[h.txt];exact hl) (by rw[h.txt];exact hF)⟩;have:2*t.length*1<=2*t.length*(d+1+1):=ahK _ (by omega);omega
  have h0:0<dx:=by
   rcases agP dx with q|q
   .subst q;rcases fI hE.wf h.pos h.le with⟨b,r1,-⟩|⟨l,r,r1,-⟩|⟨y,k,r1,-⟩
    .have:=FH hE.wf x h.pos h.le;rw[r1]at this;have e:t=[b]:=(by rw[<-h.txt,this];rfl);rw[e]at hl;simp at hl
    .have:=((hE.at x h.pos h.le).2.1 (by rw[r1])).1;rw[h.depth]at this;omega
    have:=(hE.at x h.pos h.le).2.2 (by rw[r1]);rw[h.even]at this;cases this
   exact q
  obtain⟨l,r,t1,t2,d1,d2,e1,b1,b2,e2,e3,-,-⟩:=h.split hE h0;obtain⟨L1,n1,m1,k1⟩:=ih b1 (by omega);obtain⟨L2,n2,m2,k2⟩:=ih b2 (by omega);have hlen:t.length=t1.length+t2.length:=by rw[e2,af8]
  refine⟨iO (sig t)++(L1++L2),?_,λy hy=>?_,λF hF=>?_⟩
  .rw[af8,af8];have q1:2*t.length*(d+1+1)=2*t.length*(d+1)+2*t.length:=Nat.mul_succ _ _;have q2:2*t.length*(d+1)=2*t1.length*(d+1)+2*t2.length*(d+1):=by rw[hlen,aiA 2 t1.length t2.length,aha]
   omega
  .rcases ags.1 hy with hy|hy
   .exact s2 y hy
   rcases ags.1 hy with hy|hy
   .have:=m1 y hy;omega
   have:=m2 y hy;omega
  have mW:=fI hE.wf h.pos h.le;have hlr:0<l/\l<x/\0<r/\r<x:=by
   rcases mW with⟨b,r1,-⟩|⟨l',r',r1,-,a1,a2,a3,a4⟩|⟨y,k,r1,-⟩
   .rw[e1]at r1;cases r1
   .rw[e1]at r1;cases r1;exact⟨a1,a2,a3,a4⟩
   rw[e1]at r1;cases r1
  exact .pair h.pos h.le (by rw[h.txt];omega) (by rw[h.txt];exact λy hy=>hF y (by simp[hy])) e1 hlr.1 hlr.2.1 hlr.2.2.1 hlr.2.2.2 (by rw[h.txt,b1.txt,b2.txt,e2]) (k1 F λy hy=>hF y (by simp[hy])) (k2 F λy hy=>hF y (by simp[hy]))
theorem Sw(h:Wf E):∀i,i<=E.length->∀b∈txt E i,b<256:=by
 intro i
 induction i using Nat.strongRecOn with
 |_ i ih=>
  intro hi b hb;rcases agP i with h0|h0
  .subst h0;rw[cZ]at hb;cases hb
  rw[FH h i h0 hi]at hb;unfold ug at hb;rcases fI h h0 hi with⟨c,r1,-,hc⟩|⟨l,r,r1,-,l1,l2,l3,l4⟩|⟨x,k,r1,-,l1,l2,-⟩
  .rw[r1]at hb;have e:b=c:=by simpa using hb
   rw[e];exact hc
  .rw[r1]at hb;have hb':b∈txt E l++txt E r:=hb;rcases ags.1 hb' with q|q
   .exact ih l l2 (by omega) b q
   exact ih r l4 (by omega) b q
  rw[r1]at hb;have hb':b∈rep k (txt E x):=hb;obtain⟨s,hs,q⟩:=akb.1 hb';rw[List.eq_of_mem_replicate hs]at q;exact ih x l2 (by omega) b q
def VO(E:List En)(t:List Nat):Nat:=if t=[]then 0 else num E (sig t)
theorem VP{s t:List Nat}(hs:s≠[]->sig s∈syms E)(ht:t≠[]->sig t∈syms E):VO E s=VO E t↔s=t:=by
 refine⟨λh=>?_,λh=>by rw[h]⟩;unfold VO at h;by_cases h1:s=[]
 .by_cases h2:t=[]
  .rw[h1,h2]
  rw[af5 h1,af4 h2]at h;have:=(aS (ht h2)).1;omega
 by_cases h2:t=[]
 .rw[af4 h1,af5 h2]at h;have:=(aS (hs h1)).1;omega
 rw[af4 h1,af4 h2]at h;have e1:=(aS (hs h1)).2.2;have e2:=(aS (ht h2)).2.2;rw[h,e2]at e1;have:=agC aV e1;rw[eY h2,eY h1]at this;exact this.symm
end M
end
end Go.Proofs.YtgbhohfabhilgaaGreatDoor
