import Derived.Test.YtgbhohfabhilgaaGreatDoorBase02
import Derived.Test.YtgbhohfabhilgaaGreatDoorBase12
set_option maxRecDepth 100000
set_option maxHeartbeats 8000000
set_option linter.unusedVariables false
set_option linter.unusedSimpArgs false
namespace Go.Proofs.YtgbhohfabhilgaaGreatDoor
section
open Go.RowKit Go.Lib
namespace M
attribute [local go_sem] Oper.semAt_some
def n_(W:World)(g B:Nat)(v:Value):Prop:=W.heap[g]?=some (.cells #[.pointer (some ⟨B,0,none⟩),v] 127 (0,0))
theorem n_.cells{W:World}{g B:Nat}{v:Value}(h:n_ W g B v):W.cell? ⟨g,0,none⟩=some (.pointer (some ⟨B,0,none⟩))/\W.cell? ⟨g,1,none⟩=some v/\∀i,W.frozen? ⟨g,i,none⟩=false:=by
 unfold n_ at h;simp[World.cell?,World.frozen?,h]
theorem Rp(W:World)(x:Nat)(hx:x<18446744073709551616):Calls Tryz.prog 149 #[.int .u64 1,.int .u64 x,.int .u64 0] W λe w'=>e=.returned (.int .u64 (qL 1 x 0:Nat))/\w'=W:=Fp W 1 x 0 (by omega) hx (by omega)
theorem Rq(W:World)(x y:Nat)(hx:x<18446744073709551616)(hy:y<18446744073709551616):Calls Tryz.prog 149 #[.int .u64 2,.int .u64 x,.int .u64 y] W λe w'=>e=.returned (.int .u64 (qL 2 x y:Nat))/\w'=W:=Fp W 2 x y (by omega) hx hy
theorem Rs(W:World)(x y:Nat)(hx:x<18446744073709551616)(hy:y<18446744073709551616):Calls Tryz.prog 149 #[.int .u64 3,.int .u64 x,.int .u64 y] W λe w'=>e=.returned (.int .u64 (qL 3 x y:Nat))/\w'=W:=Fp W 3 x y (by omega) hx hy
def ZM(n:Nat)(v:Value)(w:World):Prop:=∃b,v=.pointer (some ⟨b,0,none⟩)/\n<=b/\dB w b mH
def PPr2(n:Nat)(_:Nat)(v:Value)(w:World):Prop:=ZM n v w
theorem Iy{n0 g B:Nat}{W:World}{v:Value}{rows:List Rw}(hT:Tab W)(hg:n_ W g B v)(hrs:KO n0 W v rows){r:Ru}(hok:r.ok)(hl:r.left<rows.length)(hr:r.right<rows.length)(hk:r.kind=1\/r.kind=2\/r.kind=3){a b:Rw}(ha:rows[r.left]=a)(hb:rows[r.right]=b)
    (ka:a.key<2305843009213693952) (kb:b.key<2305843009213693952) (la: -1<=a.aQ/\a.aQ<=1099511627775) (lb: -1<=b.aQ/\b.aQ<=1099511627775) (hlb:r.letter<256):
    Calls Tryz.prog 107 #[.pointer (some ⟨g,0,none⟩),qN r] W λe w'=>e=.returned (rwV (oF r a b))/\Below W.heap.size W w':=by
 have HF:∀f,Fence.wide.fn f:=λ_=>trivial;obtain⟨gr,cap,rfl,hc1,hc2,hc3⟩:=hrs.at (by omega);obtain⟨W1,hW1⟩:=ay ((W.alloc (.cells #[.int .i64 r.kind,.int .u8 r.letter,.int .i64 r.left,.int .i64 r.right,.int .i64 r.times] 50)).alloc (.cells #[.int .u64 0,.int .i64 0,.bool false] 142));have b1:Below W.heap.size W W1:=by rw[<-hW1];exact((af6 _ _).alloc (af7 _) _).alloc (by simp) _
 have k1:eP W1 W.heap.size r:=by rw[<-hW1];exact au ((af6 _ _).alloc (af7 _) _) (aD W _)
 have k2:dB W1 (W.heap.size+1) mH:=by
  rw[<-hW1];have:=aD (W.alloc (.cells #[.int .i64 r.kind,.int .u8 r.letter,.int .i64 r.left,.int .i64 r.right,.int .i64 r.times] 50)) (.cells #[.int .u64 0,.int .i64 0,.bool false] 142);rw[ag1]at this;exact this
 have g1:∀w,Below W1.heap.size W1 w->w.cell? ⟨g,1,none⟩=some (.slice (some ⟨gr,0,none⟩) rows.length cap):=λw hw=>(n_.cells (au (Below.after b1 hw) hg)).2.1;have r2:∀w,Below W1.heap.size W1 w->w.cell? ⟨W.heap.size,2,none⟩=some (.int .i64 r.left):=λw hw=>(eP.cells (au hw k1)).2.2.1;have r3:∀w,Below W1.heap.size W1 w->w.cell? ⟨W.heap.size,3,none⟩=some (.int .i64 r.right):=λw hw=>(eP.cells (au hw k1)).2.2.2.1;have a0:∀w,Below W1.heap.size W1 w->w.cell? ⟨gr,r.left*3,none⟩=some (.int .u64 a.key):=λw hw=>by rw[<-ha];exact(hc3 w (Below.after b1 hw) _ hl).1
 have a1:∀w,Below W1.heap.size W1 w->w.cell? ⟨gr,r.left*3+1,none⟩=some (.int .i64 a.aQ):=λw hw=>by rw[<-ha];exact(hc3 w (Below.after b1 hw) _ hl).2.1
 have a2:∀w,Below W1.heap.size W1 w->w.cell? ⟨gr,r.left*3+2,none⟩=some (.bool a.known):=λw hw=>by rw[<-ha];exact(hc3 w (Below.after b1 hw) _ hl).2.2
 have e0:∀w,Below W1.heap.size W1 w->w.cell? ⟨gr,r.right*3,none⟩=some (.int .u64 b.key):=λw hw=>by rw[<-hb];exact(hc3 w (Below.after b1 hw) _ hr).1
 have e1:∀w,Below W1.heap.size W1 w->w.cell? ⟨gr,r.right*3+1,none⟩=some (.int .i64 b.aQ):=λw hw=>by rw[<-hb];exact(hc3 w (Below.after b1 hw) _ hr).2.1
 have e2:∀w,Below W1.heap.size W1 w->w.cell? ⟨gr,r.right*3+2,none⟩=some (.bool b.known):=λw hw=>by rw[<-hb];exact(hc3 w (Below.after b1 hw) _ hr).2.2
 have i1:(0:Int)<=(r.left:Int):=by omega
 have i2:(r.left:Int)<(rows.length:Int):=by omega
 have i3:(0:Int)<=(r.right:Int):=by omega
 have i4:(r.right:Int)<(rows.length:Int):=by omega
 have K1:=ak k1;have K2:=ak k2;have B1:=ak b1;have HT:=ak (λw (hw:Below W.heap.size W w)=>show Tab w from λj hj=>by
  have:=hT j hj;have hlt:0<W.heap.size:=by
   cases hq:W.heap[0]? with
   |none=>simp[World.cell?,hq]at this
   |some o=>exact(aga.1 hq).1
  rw[hw.cell hlt];exact this)
 have HA:=ak (And.intro ka (And.intro kb (And.intro la (And.intro lb (And.intro hlb hk)))));have mF:=ak hok;obtain⟨len,hlen⟩:=ay (rows.length);rw[hlen]at g1 i2 i4;clear hrs hc1 hc2 hc3 hg hl hr ha hb k1 k2 b1 hT ka kb la lb hlb hk hok hlen;unfold qN;go_enter Tryz.func107,Tryz.ntmps107;go_wp2_with fail
 clear hW1;refine aU (Below W1.heap.size W1) ?_;have S0:Below W1.heap.size W1 W1.drew:=(af6 _ _).drew;refine bJ 0 1 2 3 4 5 ?_;refine bJ 6 7 8 9 10 11 ?_;refine tk4 12 13 14 15 ?_;clear a0 a1 a2 e0 e1 e2 g1 r2 r3 i1 i2 i3 i4;refine aJ.Vi [16,17] 2 (λ_=>[]) (λx=>match x with|16=>5|_=>6) (PPr2 W1.heap.size) (λ_=>true) (by kernel_rfl) (by kernel_rfl) (aju (by kernel_rfl)) HF S0 (λx _ v w w' h hb=>?mono) ?box ?step ?tail
 case mono=>
  obtain⟨q,h1,h2,h3⟩:=h;exact⟨q,h1,h2,au hb h3⟩
 case box=>
  intro x hx hal v w h;obtain⟨q,h1,h2,h3⟩:=h;exact⟨q,h1,(aga.1 h3).1⟩
 case step=>
  intro x hx vs w hS hP K hK;simp only[agm,ahA,ahD]at hx;rcases hx with rfl|rfl
  all_goals
   refine iH.mk rfl (by rfl) ?_;simp only[mP,aho,ag5,Act.put,agx,agu,agv]at hK⊢;go_simp;exact hK _ _ (hS.alloc hS.size _) ((af6 _ _).alloc (af7 _) _) ⟨_,rfl,hS.size,aD _ _⟩ (λ_=>rfl)
 intro vs w hS hP hD d;obtain⟨p,ep,lp,np⟩:ZM W1.heap.size (vs 16) w:=hP 16 (by simp);obtain⟨q,eq,lq,nq⟩:ZM W1.heap.size (vs 17) w:=hP 17 (by simp);have hpq:q≠p:=λe=>hD 16 (by simp) 17 (by simp) rfl rfl (by omega) (by rw[ep,eq,e]);clear hP hD;simp only[mP,aho,ag5,ep,eq,Act.put,agx,agu,agv];clear ep eq vs;obtain⟨x0,x1,x2⟩:=np.cells;have f0:=np.free 0;have f1:=np.free 1;have f2:=np.free 2;obtain⟨wA,hwA⟩:∃w',jm w p a=w':=⟨_,rfl⟩;have kA:dB wA p a:=by rw[<-hwA];exact np.set a
 have nA:dB wA q mH:=by rw[<-hwA];exact nq.other hpq
 have bA:Below W1.heap.size W1 wA:=by rw[<-hwA];exact fM hS lp a
 simp only[jm]at hwA;simp only[mH]at x0 x1 x2;refine aT 18 λK hK=>?_;go_simp;refine hK _ _ bA ?_;clear hK K hwA x0 x1 x2 f0 f1 f2;obtain⟨y0,y1,y2⟩:=nA.cells;have h0:=nA.free 0;have h1:=nA.free 1;have h2:=nA.free 2;obtain⟨wB,FI⟩:∃w',jm wA q b=w':=⟨_,rfl⟩;have kB:dB wB q b:=by rw[<-FI];exact nA.set b
 have kA2:dB wB p a:=by rw[<-FI];exact kA.other (λe=>hpq e.symm)
 have bB:Below W1.heap.size W1 wB:=by rw[<-FI];exact fM bA lq b
 simp only[jm]at FI;simp only[mH]at y0 y1 y2;refine aT 19 λK hK=>?_;go_simp;refine hK _ _ bB ?_;clear hK K FI y0 y1 y2 h0 h1 h2;refine aO ?_;obtain⟨wz,w3,hz,hs1,kr,br,⟨r0,r1,r2⟩,q0,q1,q2⟩:=Rn wB ⟨0, -1,true⟩;obtain⟨gc,hgc⟩:=ay (wB.heap.size);rw[hgc]at hs1 kr r0 r1 r2 q0 q1 q2;have hs2:((wz.setCell ⟨gc,0,none⟩ (.int .u64 0)).setCell ⟨gc,1,none⟩ (.int .i64 (-1))).setCell ⟨gc,2,none⟩ (.bool true)=w3:=hs1;clear hs1;have KA:=ak (show dB w3 p a from au br kA2);have KB:=ak (show dB w3 q b from au br kB);have B3:=ak (Below.after bB br);have KR:=ak kr;have LL:=ak (And.intro lp lq);have K1':=ak (show eP w3 W.heap.size r from au B3.o K1.o);have K2':=ak (show dB w3 (W.heap.size+1) mH from au B3.o K2.o);have LG:=ak (show p<gc/\q<gc/\W1.heap.size<=gc from⟨by rw[<-hgc];exact(aga.1 kA2).1,by rw[<-hgc];exact(aga.1 kB).1,by rw[<-hgc];exact bB.size⟩);have SZ:aA (W.heap.size+1<W1.heap.size):=ak (aga.1 K2.o).1;have Vj:=ak KR.o;have KA':=ak KA.o;have KB':=ak KB.o;clear np nq nA kA kB kA2 bA bB br kr hS lp lq hpq S0;rcases HA.o.2.2.2.2.2 with hk|hk|hk
 .have z1:((r.kind:Int)==1)=true:=by simp[hk]
  have ui:=ak hk;clear hk;have zc:IntKind.u64.wrap (r.letter:Int)=(r.letter:Int):=by have:=HA.o.2.2.2.2.1;rw[ag4];omega
  have HM:=ak (λw=>Rp w r.letter (by have:=HA.o.2.2.2.2.1;omega));obtain⟨s0,s1,s2,s3,s4⟩:=eP.cells K1'.o;obtain⟨x0,x1,x2⟩:=dB.cells KA'.o;obtain⟨y0,y1,y2⟩:=dB.cells KB'.o;obtain⟨v0,v1,v2⟩:=dB.cells Vj.o;have u0:=dB.free Vj.o 0;have u1:=dB.free Vj.o 1;go_wp2_with fail
  refine(HM.o _).mono ?_;rintro e w4 ⟨rfl,h⟩;rw[h];clear h w4;obtain⟨kk,hkk⟩:=ay (qL 1 r.letter 0);have HKK:=ak hkk;rw[hkk];clear hkk;obtain⟨w4,hw4⟩:=ay (w3.setCell ⟨gc,0,none⟩ (.int .u64 ((kk:Nat):Int)));have k4:dB w4 gc ⟨kk, -1,true⟩:=by rw[<-hw4];exact aC _ KR.o
  have b4:Below W1.heap.size W1 w4:=by rw[<-hw4];exact B3.o.setCell (p:=⟨gc,0,none⟩) LG.o.2.2 _
  have KA4:aA (dB w4 p a):=ak (by rw[<-hw4];exact aB (by have:=LG.o.1;show p≠gc;omega) KA.o);have KB4:aA (dB w4 q b):=ak (by rw[<-hw4];exact aB (by have:=LG.o.2.1;show q≠gc;omega) KB.o);have K14:aA (eP w4 W.heap.size r):=ak (by rw[<-hw4];exact aB (by have:=LG.o.2.2;have:=SZ.o;show W.heap.size≠gc;omega) K1'.o);have KQ:aA (dB w4 (W.heap.size+1) mH):=ak (by rw[<-hw4];exact aB (by have:=LG.o.2.2;have:=SZ.o;show W.heap.size+1≠gc;omega) K2'.o);have uj:=ak k4;have B4:=ak b4;clear k4 b4;clear s0 s1 s2 s3 s4 x0 x1 x2 y0 y1 y2;have v1':=(dB.cells uj.o).2.1;have u1':=dB.free uj.o 1;obtain⟨w5,eH⟩:=ay (w4.setCell ⟨gc,1,none⟩ (.int .i64 0));have k5:dB w5 gc ⟨kk,0,true⟩:=by rw[<-eH];exact aC _ uj.o
  have b5:Below W1.heap.size W1 w5:=by rw[<-eH];exact B4.o.setCell (p:=⟨gc,1,none⟩) LG.o.2.2 _
  have Iz:aA (dB w5 (W.heap.size+1) mH):=ak (by rw[<-eH];exact aB (by have:=LG.o.2.2;have:=SZ.o;show W.heap.size+1≠gc;omega) KQ.o);have Rt:=ak k5;have B5:=ak b5;clear k5 b5;obtain⟨MN,n1',MO⟩:=dB.cells Iz.o;have m0:=dB.free Iz.o 0;have m1:=dB.free Iz.o 1;have m2:=dB.free Iz.o 2;simp only[mH]at MN n1' MO;obtain⟨v0,v1,v2⟩:=dB.cells Rt.o;have KF:=ak (dB.set Iz.o ⟨kk,0,true⟩);have BF:=ak (fM (Below.after B1.o B5.o) (g:=W.heap.size+1) (by omega) ⟨kk,0,true⟩);obtain⟨w9,dI⟩:∃w',jm w5 (W.heap.size+1) ⟨kk,0,true⟩=w':=⟨_,rfl⟩;rw[dI]at KF BF;simp only[jm]at dI;go_wp2_with fail
  clear dI MN n1' MO m0 m1 m2 v0 v1 v2;obtain⟨c0,c1,c2⟩:=KF.o.cells;have HX:oF r a b=⟨kk,0,true⟩:=by
   unfold oF;rw[af5 ui.o,HKK.o]
  exact af_ (v:=.agg #[.int .u64 ((kk:Nat):Int),.int .i64 0,.bool true]) (by simp[results,Tryz.results107,go_sem,c0,c1,c2]) rfl ⟨by rw[HX],BF.o⟩
 .have z1:((r.kind:Int)==1)=false:=by simp[hk]
  have z2:((r.kind:Int)==2)=true:=by simp[hk]
  have ui:=ak hk;clear hk;have HM:=ak (λw=>Rq w a.key b.key (by have:=HA.o.1;omega) (by have:=HA.o.2.1;omega));obtain⟨s0,s1,s2,s3,s4⟩:=eP.cells K1'.o;obtain⟨x0,x1,x2⟩:=dB.cells KA'.o;obtain⟨y0,y1,y2⟩:=dB.cells KB'.o;obtain⟨v0,v1,v2⟩:=dB.cells Vj.o;have u0:=dB.free Vj.o 0;have u1:=dB.free Vj.o 1;go_wp2_with fail
  refine(HM.o _).mono ?_;rintro e w4 ⟨rfl,h⟩;rw[h];clear h w4;obtain⟨kk,hkk⟩:=ay (qL 2 a.key b.key);have HKK:=ak hkk;rw[hkk];clear hkk;obtain⟨w4,hw4⟩:=ay (w3.setCell ⟨gc,0,none⟩ (.int .u64 ((kk:Nat):Int)));have k4:dB w4 gc ⟨kk, -1,true⟩:=by rw[<-hw4];exact aC _ KR.o
  have b4:Below W1.heap.size W1 w4:=by rw[<-hw4];exact B3.o.setCell (p:=⟨gc,0,none⟩) LG.o.2.2 _
  have KA4:aA (dB w4 p a):=ak (by rw[<-hw4];exact aB (by have:=LG.o.1;show p≠gc;omega) KA.o);have KB4:aA (dB w4 q b):=ak (by rw[<-hw4];exact aB (by have:=LG.o.2.1;show q≠gc;omega) KB.o);have K14:aA (eP w4 W.heap.size r):=ak (by rw[<-hw4];exact aB (by have:=LG.o.2.2;have:=SZ.o;show W.heap.size≠gc;omega) K1'.o);have KQ:aA (dB w4 (W.heap.size+1) mH):=ak (by rw[<-hw4];exact aB (by have:=LG.o.2.2;have:=SZ.o;show W.heap.size+1≠gc;omega) K2'.o);have uj:=ak k4;have B4:=ak b4;clear k4 b4;have o0:=v0;have o1:=u0;clear s0 s1 s2 s3 s4 x0 x1 x2 y0 y1 y2 v1 v2 u1;obtain⟨s0,s1,s2,s3,s4⟩:=eP.cells K14.o;obtain⟨x0,x1,x2⟩:=dB.cells KA4.o;obtain⟨y0,y1,y2⟩:=dB.cells KB4.o;obtain⟨v0',v1',v2'⟩:=dB.cells uj.o;have u1':=dB.free uj.o 1;by_cases hc:r.left≠r.right/\0<=a.aQ/\0<=b.aQ
  .have t1:(((r.left:Int)) !=(r.right:Int))=true:=by have:=hc.1;simp;omega
   have t1':(((r.left:Int))==(r.right:Int))=false:=agh.2 (by have:=hc.1;omega);have t2:a.aQ>=0:=hc.2.1;have t3:b.aQ>=0:=hc.2.2;obtain⟨la,hla⟩:∃n:Nat,a.aQ=n:=⟨a.aQ.toNat,by omega⟩;obtain⟨lb,hlb⟩:∃n:Nat,b.aQ=n:=⟨b.aQ.toNat,by omega⟩;have Xn:=ak (λm (hm:m<=1099511627776) w (hw:Below W.heap.size W w)=>Ov w m a.key b.key hm HA.o.1 HA.o.2.1 (HT.o w hw));have zI:aA (∀m:Nat,m=max la lb->(after (max a.aQ b.aQ).toNat a.key b.key:Nat)=after m a.key b.key):=ak (λm e=>by rw[hla,hlb,e,show(max (la:Int) (lb:Int)).toNat=max la lb by omega]);have uT:aA (la<=1099511627776/\lb<=1099511627776):=ak (by have:=HA.o.2.2.1.2;have:=HA.o.2.2.2.1.2;omega);rw[hla]at x1 t2;rw[hlb]at y1 t3;have HC:=ak hc;clear hc hla hlb;obtain⟨mm,hmm,hcs⟩:∃mm,mm=max la lb/\((mm=lb/\(la:Int)<(lb:Int))\/(mm=la/\(lb:Int)<(la:Int))\/(mm=la/\la=lb)):=⟨max la lb,rfl,by omega⟩;have tJ:aA (mm<=1099511627776):=ak (by have:=uT.o;omega);replace zI:=ak (zI.o mm hmm);replace Xn:=ak (Xn.o mm tJ.o);have Qy:=ak hcs;obtain⟨lv,hlv⟩:=ay (after mm a.key b.key);rw[hlv]at zI Xn;clear hmm hcs hlv;rcases Qy.o with⟨hq,hmx⟩|⟨hq,hmx⟩|⟨hq,hmx⟩<;>clear Qy<;>(try subst hmx)<;>subst hq
   all_goals
    go_wp2_with fail
    all_goals
     first|(exfalso;omega)|skip
    all_goals
     refine((Xn.o _ (Below.after B1.o B4.o))).mono ?_;rintro e w5 ⟨rfl,h⟩;rw[h];clear h w5;obtain⟨w5,eH⟩:=ay (w4.setCell ⟨gc,1,none⟩ (.int .i64 (lv:Int)));have k5:dB w5 gc ⟨kk,(lv:Int),true⟩:=(by rw[<-eH];exact aC _ uj.o);have b5:Below W1.heap.size W1 w5:=(by rw[<-eH];exact B4.o.setCell (p:=⟨gc,1,none⟩) LG.o.2.2 _);have Iz:aA (dB w5 (W.heap.size+1) mH):=ak (by rw[<-eH];exact aB (by have:=LG.o.2.2;have:=SZ.o;show W.heap.size+1≠gc;omega) KQ.o);have Rt:=ak k5;have B5:=ak b5;clear k5 b5;clear hw4 o0 o1 s0 s1 s2 s3 s4 x0 x1 x2 y0 y1 y2 v0' v2';obtain⟨MN,n1',MO⟩:=dB.cells Iz.o;have m0:=dB.free Iz.o 0;have m1:=dB.free Iz.o 1;have m2:=dB.free Iz.o 2;simp only[mH]at MN n1' MO;obtain⟨v0,v1,v2⟩:=dB.cells Rt.o;have KF:=ak (dB.set Iz.o ⟨kk,(lv:Int),true⟩);have BF:=ak (fM (Below.after B1.o B5.o) (g:=W.heap.size+1) (by omega) ⟨kk,(lv:Int),true⟩);obtain⟨w9,dI⟩:∃w',jm w5 (W.heap.size+1) ⟨kk,(lv:Int),true⟩=w':=⟨_,rfl⟩;rw[dI]at KF BF;simp only[jm]at dI;go_wp2_with fail
     clear dI MN n1' MO m0 m1 m2 v0 v1 v2;obtain⟨c0,c1,c2⟩:=KF.o.cells;have HX:oF r a b=⟨kk,(lv:Int),true⟩:=by
      unfold oF;rw[af4 (by have:=ui.o;omega),af5 ui.o,HKK.o,af5 HC.o,zI.o]
     exact af_ (v:=.agg #[.int .u64 ((kk:Nat):Int),.int .i64 (lv:Int),.bool true]) (by simp[results,Tryz.results107,go_sem,c0,c1,c2]) rfl ⟨by rw[HX],BF.o⟩
  have HC:=ak hc;have Rv:aA (oF r a b=⟨kk, -1,true⟩):=ak (by unfold oF;rw[af4 (by have:=ui.o;omega),af5 ui.o,HKK.o,af4 hc]);have cs:(((r.left:Int)) !=(r.right:Int))=false\/((((r.left:Int)) !=(r.right:Int))=true/\(¬a.aQ>=0\/(a.aQ>=0/\¬b.aQ>=0))):=by
   by_cases q1:r.left=r.right
   .exact .inl (by simp[q1])
   refine .inr ⟨by simp;omega,?_⟩;by_cases q2:a.aQ>=0
   .exact .inr ⟨q2,λq3=>hc ⟨q1,q2,q3⟩⟩
   exact .inl q2
  have Qy:=ak cs;clear cs hc;rcases Qy.o with t1|⟨t1,t2|⟨t2,t3⟩⟩
  all_goals
   obtain⟨MN,n1',MO⟩:=dB.cells KQ.o;have m0:=dB.free KQ.o 0;have m1:=dB.free KQ.o 1;have m2:=dB.free KQ.o 2;simp only[mH]at MN n1' MO;obtain⟨v0,v1,v2⟩:=dB.cells uj.o;have KF:=ak (dB.set KQ.o ⟨kk,(-1),true⟩);have BF:=ak (fM (Below.after B1.o B4.o) (g:=W.heap.size+1) (by omega) ⟨kk,(-1),true⟩);obtain⟨w9,dI⟩:∃w',jm w4 (W.heap.size+1) ⟨kk,(-1),true⟩=w':=⟨_,rfl⟩;rw[dI]at KF BF;simp only[jm]at dI;go_wp2_with fail
   clear dI MN n1' MO m0 m1 m2 v0 v1 v2;obtain⟨c0,c1,c2⟩:=KF.o.cells;have HX:oF r a b=⟨kk,(-1),true⟩:=by
    exact Rv.o
   exact af_ (v:=.agg #[.int .u64 ((kk:Nat):Int),.int .i64 (-1),.bool true]) (by simp[results,Tryz.results107,go_sem,c0,c1,c2]) rfl ⟨by rw[HX],BF.o⟩
 have z1:((r.kind:Int)==1)=false:=by simp[hk]
 have z2:((r.kind:Int)==2)=false:=by simp[hk]
 have z3:((r.kind:Int)==3)=true:=by simp[hk]
 have ui:=ak hk;clear hk;have zc:IntKind.u64.wrap (r.times:Int)=(r.times:Int):=by have:=mF.o.2.2.2.2;rw[ag4];omega
 have HM:=ak (λw=>Rs w a.key r.times (by have:=HA.o.1;omega) (by have:=mF.o.2.2.2.2;omega));obtain⟨s0,s1,s2,s3,s4⟩:=eP.cells K1'.o;obtain⟨x0,x1,x2⟩:=dB.cells KA'.o;obtain⟨y0,y1,y2⟩:=dB.cells KB'.o;obtain⟨v0,v1,v2⟩:=dB.cells Vj.o;have u0:=dB.free Vj.o 0;have u1:=dB.free Vj.o 1;go_wp2_with fail
 refine(HM.o _).mono ?_;rintro e w4 ⟨rfl,h⟩;rw[h];clear h w4;obtain⟨kk,hkk⟩:=ay (qL 3 a.key r.times);have HKK:=ak hkk;rw[hkk];clear hkk;obtain⟨w4,hw4⟩:=ay (w3.setCell ⟨gc,0,none⟩ (.int .u64 ((kk:Nat):Int)));have k4:dB w4 gc ⟨kk, -1,true⟩:=by rw[<-hw4];exact aC _ KR.o
 have b4:Below W1.heap.size W1 w4:=by rw[<-hw4];exact B3.o.setCell (p:=⟨gc,0,none⟩) LG.o.2.2 _
 have KA4:aA (dB w4 p a):=ak (by rw[<-hw4];exact aB (by have:=LG.o.1;show p≠gc;omega) KA.o);have KB4:aA (dB w4 q b):=ak (by rw[<-hw4];exact aB (by have:=LG.o.2.1;show q≠gc;omega) KB.o);have K14:aA (eP w4 W.heap.size r):=ak (by rw[<-hw4];exact aB (by have:=LG.o.2.2;have:=SZ.o;show W.heap.size≠gc;omega) K1'.o);have KQ:aA (dB w4 (W.heap.size+1) mH):=ak (by rw[<-hw4];exact aB (by have:=LG.o.2.2;have:=SZ.o;show W.heap.size+1≠gc;omega) K2'.o);have uj:=ak k4;have B4:=ak b4;clear k4 b4;have o0:=v0;have o1:=u0;clear s0 s1 s2 s3 s4 x0 x1 x2 y0 y1 y2 v1 v2 u1;obtain⟨x0,x1,x2⟩:=dB.cells KA4.o;obtain⟨v0',v1',v2'⟩:=dB.cells uj.o;have u1':=dB.free uj.o 1;by_cases hc:0<=a.aQ/\a.aQ%2=0
 .have t2:a.aQ>=0:=hc.1;obtain⟨la,hla⟩:∃n:Nat,a.aQ=n:=⟨a.aQ.toNat,by omega⟩;have HX5:aA (oF r a b=⟨kk,(la:Int)+1,true⟩):=ak (by unfold oF;rw[af4 (by have:=ui.o;omega),af4 (by have:=ui.o;omega),HKK.o,af5 hc,hla]);have t3:(((la:Int)%2)==0)=true:=by have:=hc.2;rw[hla]at this;simp[this]
  have hlb:(la:Int)<=1099511627775:=by have:=HA.o.2.2.1.2;omega
  rw[hla]at x1 t2;clear hc hla;obtain⟨w5,eH⟩:=ay (w4.setCell ⟨gc,1,none⟩ (.int .i64 ((la:Int)+1)));have k5:dB w5 gc ⟨kk,((la:Int)+1),true⟩:=by rw[<-eH];exact aC _ uj.o
  have b5:Below W1.heap.size W1 w5:=by rw[<-eH];exact B4.o.setCell (p:=⟨gc,1,none⟩) LG.o.2.2 _
  have Iz:aA (dB w5 (W.heap.size+1) mH):=ak (by rw[<-eH];exact aB (by have:=LG.o.2.2;have:=SZ.o;show W.heap.size+1≠gc;omega) KQ.o);have Rt:=ak k5;have B5:=ak b5;clear k5 b5;clear x0 x2;obtain⟨MN,n1',MO⟩:=dB.cells Iz.o;have m0:=dB.free Iz.o 0;have m1:=dB.free Iz.o 1;have m2:=dB.free Iz.o 2;simp only[mH]at MN n1' MO;obtain⟨v0,v1,v2⟩:=dB.cells Rt.o;have KF:=ak (dB.set Iz.o ⟨kk,((la:Int)+1),true⟩);have BF:=ak (fM (Below.after B1.o B5.o) (g:=W.heap.size+1) (by omega) ⟨kk,((la:Int)+1),true⟩);obtain⟨w9,dI⟩:∃w',jm w5 (W.heap.size+1) ⟨kk,((la:Int)+1),true⟩=w':=⟨_,rfl⟩;rw[dI]at KF BF;simp only[jm]at dI;go_wp2_with fail
  clear dI MN n1' MO m0 m1 m2 v0 v1 v2;obtain⟨c0,c1,c2⟩:=KF.o.cells;have HX:oF r a b=⟨kk,((la:Int)+1),true⟩:=by
   exact HX5.o
  exact af_ (v:=.agg #[.int .u64 ((kk:Nat):Int),.int .i64 ((la:Int)+1),.bool true]) (by simp[results,Tryz.results107,go_sem,c0,c1,c2]) rfl ⟨by rw[HX],BF.o⟩
 have Rv:aA (oF r a b=⟨kk, -1,true⟩):=ak (by unfold oF;rw[af4 (by have:=ui.o;omega),af4 (by have:=ui.o;omega),HKK.o,af4 hc]);have cs:¬a.aQ>=0\/(a.aQ>=0/\((a.aQ%2)==0)=false):=by
  by_cases q:a.aQ>=0
  .exact .inr ⟨q,agh.2 (λe=>hc ⟨q,e⟩)⟩
  exact .inl q
 have Qy:=ak cs;clear cs hc;rcases Qy.o with t2|⟨t2,t3⟩
 all_goals
  obtain⟨MN,n1',MO⟩:=dB.cells KQ.o;have m0:=dB.free KQ.o 0;have m1:=dB.free KQ.o 1;have m2:=dB.free KQ.o 2;simp only[mH]at MN n1' MO;obtain⟨v0,v1,v2⟩:=dB.cells uj.o;have KF:=ak (dB.set KQ.o ⟨kk,(-1),true⟩);have BF:=ak (fM (Below.after B1.o B4.o) (g:=W.heap.size+1) (by omega) ⟨kk,(-1),true⟩);obtain⟨w9,dI⟩:∃w',jm w4 (W.heap.size+1) ⟨kk,(-1),true⟩=w':=⟨_,rfl⟩;rw[dI]at KF BF;simp only[jm]at dI;go_wp2_with fail
  clear dI MN n1' MO m0 m1 m2 v0 v1 v2;obtain⟨c0,c1,c2⟩:=KF.o.cells;have HX:oF r a b=⟨kk,(-1),true⟩:=by
   exact Rv.o
  exact af_ (v:=.agg #[.int .u64 ((kk:Nat):Int),.int .i64 (-1),.bool true]) (by simp[results,Tryz.results107,go_sem,c0,c1,c2]) rfl ⟨by rw[HX],BF.o⟩
theorem lY.letter{E:List En}(hE:iE E){i:Nat}{t:List Nat}(h:lY E i t 0):t.length=1:=by
 have hdo:=hE.at i h.pos h.le;rcases(hE.wf.rule i h.pos h.le).cases with⟨a,-,-,-,-,b⟩|⟨a,-⟩|⟨a,-⟩
 .rw[<-h.txt,b];rfl
 .have:=(hdo.2.1 a).1;rw[h.depth]at this;omega
 have:=hdo.2.2 a;rw[h.even]at this;cases this
section
variable {n0 B most:Nat} {W:World} {E:List En}
theorem OA(h:aW n0 W B most E){i:Nat}(hi:i<=E.length)(hE:E.length<=1048576):
    Calls Tryz.prog 151 #[.pointer (some ⟨B,0,none⟩),.int .i64 i] W λe w'=>e=.returned (.tuple #[.int .i64 (aF E i).w.len,.nilIface])/\Below W.heap.size W w':=by
 have HW:=ak (dS h hi hE);obtain⟨u,hu⟩:=ay ((aF E i).w);rw[hu]at HW⊢;unfold wK at HW;go_enter Tryz.func151,Tryz.ntmps151;go_wp2_with fail
 refine HW.o.mono ?_;rintro e w1 ⟨rfl,b1⟩;obtain⟨wz,w2,hz,hs,kw,bw,⟨p0,p1,p2,p3,p4,p5⟩,q0,q1,q2,q3,q4,q5⟩:=kE w1 u;obtain⟨x0,x1,x2,x3,x4,x5⟩:=kw.cells;have B2:=ak (Below.after b1 bw);go_wp2_with fail
 go_ret2;exact⟨rfl,B2.o⟩
theorem jC(h:aW n0 W B most E)(hwf:iE E){i:Nat}{t:List Nat}(hb:fT E i t)(hE:E.length<=1048576):
    Calls Tryz.prog 151 #[.pointer (some ⟨B,0,none⟩),.int .i64 i] W λe w'=>e=.returned (.tuple #[.int .i64 (t.length:Nat),.nilIface])/\Below W.heap.size W w':=by
 have:=OA h hb.le hE;rwa [(hb.len hwf).2]at this
theorem Ca(h:aW n0 W B most E)(hwf:iE E){i:Nat}{t:List Nat}(hb:fT E i t)(hE:E.length<=1048576):
    Calls Tryz.prog 110 #[.pointer (some ⟨B,0,none⟩),.int .i64 i] W λe w'=>e=.returned (.tuple #[.int .i64 (t.length:Nat),.nilIface])/\Below W.heap.size W w':=by
 have HB:=ak (qy h hb.le hE);rw[hb.even]at HB;have HS:=ak (λw hw=>jC (h.below hw) hwf hb hE (W:=w));go_enter Tryz.func110,Tryz.ntmps110;go_wp2_with fail
 refine HB.o.mono ?_;rintro e w1 ⟨rfl,b1⟩;have B1:=ak b1;go_wp2_with fail
 refine(HS.o w1 B1.o).mono ?_;rintro e w2 ⟨rfl,b2⟩;have B2:=ak (Below.after B1.o b2);go_wp2_with fail
 go_ret2;exact⟨rfl,B2.o⟩
end
variable{s t:List Nat}{B D M f i most n n0:Nat}
theorem Rz(hD:GZ D M):∀(d:Nat) {n0 B most:Nat} {W:World} {E:List En} {i k:Nat} {t:List Nat},aW n0 W B most E->iE E->lY E i t d->k<=t.length->t.length<=M->E.length+d*(3*D+1)<=most->E.length+d*(3*D+1)<=1048576->
    Calls Tryz.prog 152 #[.pointer (some ⟨B,0,none⟩),.int .i64 i,.int .i64 (k:Nat)] W (uH n0 B most (d*(3*D+1)) E W (t.drop k)):=by
 intro d
 induction d using Nat.strongRecOn with
 |_ d ih=>
 intro n0 B most W E i k t hs hwf hb hk hM hroom hE;have hn0:=hs.lt;have hE':E.length<=1048576:=by omega
 have HS:=ak hs;have gW:=ak hwf;have Vl:=ak hb;have gJ:=ak hn0;have HK:=ak hk;have jU:=ak (And.intro hM (And.intro hroom hE));have hbl:=(hb.zero).len hwf;by_cases g0:k=0
 .subst g0;go_enter Tryz.func152,Tryz.ntmps152;go_wp2_with fail
  go_ret2;exact⟨E,i,rfl,HS.o,gW.o,Ext.refl _,by omega,by rw[agj];exact Vl.o.zero,af6 _ _,Kt.of (af6 _ _)⟩
 have e0:((k:Int)==0)=false:=by simp;omega
 have iF:=ak (jC hs hwf hb.zero hE');by_cases g1:k=t.length
 .have e1:((k:Int)==(t.length:Int))=true:=by simp;omega
  go_enter Tryz.func152,Tryz.ntmps152;go_wp2_with fail
  refine iF.o.mono ?_;rintro e w1 ⟨rfl,b1⟩;have B1:=ak b1;go_wp2_with fail
  go_ret2;exact⟨E,0,rfl,HS.o.below B1.o,gW.o,Ext.refl _,by omega,⟨agb _,by rw[cZ,g1,ajE],rfl⟩,B1.o.mono gJ.o,Kt.of B1.o⟩
 have e1:((k:Int)==(t.length:Int))=false:=by simp;omega
 have hd0:0<d:=by
  rcases agP d with g|g
  .exfalso;subst g;have h1:=hb.letter hwf;omega
  exact g
 obtain⟨l,r,s1,t1,d1,d2,mW,hl,hr,ht,hdd,hd1,hd2⟩:=hb.split hwf hd0;obtain⟨ru,qO⟩:=ay ((aF E i).ru);have el:l=ru.left:=by rw[<-qO,mW]
 have er:r=ru.right:=by rw[<-qO,mW]
 subst el er;have pX:=ak (λw (hw:Below W.heap.size W w)=>iK (hs.below hw) hb.pos hb.le hE' (W:=w));rw[qO]at pX;unfold qN at pX;have HSL:=ak (λw (hw:Below W.heap.size W w)=>jC (hs.below hw) hwf hl.zero hE' (W:=w));have hlen:t.length=s1.length+t1.length:=by rw[ht,af8]
 have HT:=ak ht;have hle1:d1*(3*D+1)+(3*D+1)<=d*(3*D+1):=by rw[<-ag6];exact agY _ (by omega)
 have hle2:d2*(3*D+1)<=d*(3*D+1):=agY _ (by omega);have uT:=ak (And.intro hle1 hle2);have HL:=ak hl;have HR:=ak hr;by_cases g2:s1.length<=k
 case' _=>
  have e2:(s1.length:Int)<=(k:Int):=by omega
  have hw2:IntKind.i64.wrap ((k:Int)-(s1.length:Int))=((k-s1.length:Nat):Int):=by rw[agd];omega
  have ZQ:=ak (λw (hw:Below W.heap.size W w)=>ih d2 (by omega) (hs.below hw) hwf hr (k:=k-s1.length) (W:=w) (by omega) (by omega) (by omega) (by omega));have hdr:t1.drop (k-s1.length)=t.drop k:=by rw[ht,ajD,ag9 g2,agH]
  have HDR:=ak hdr;generalize k-s1.length=k2 at *
 rotate_left
 case' _=>
  have e2:¬(s1.length:Int)<=(k:Int):=by omega
  have ZQ:=ak (λw (hw:Below W.heap.size W w)=>ih d1 (by omega) (hs.below hw) hwf hl (k:=k) (W:=w) (by omega) (by omega) (by omega) (by omega));have hdr:s1.drop k++t1=t.drop k:=by rw[ht,ahj (by omega)]
  have HDR:=ak hdr;have oG:=ak (show(s1.drop k).length+t1.length<=M by rw[agp];omega)
 rotate_left
 all_goals
  generalize s1.length=m at *;generalize t.length=tl at *;go_enter Tryz.func152,Tryz.ntmps152;go_wp2_with fail
  refine iF.o.mono ?_;rintro e w1 ⟨rfl,b1⟩;have B1:=ak b1;go_wp2_with fail
  refine(pX.o w1 B1.o).mono ?_;rintro e w2 ⟨rfl,b2⟩;obtain⟨wz,w3,hz,hs1,kr,br,⟨r0,r1,r2,r3,r4⟩,q0,q1,q2,q3,q4⟩:=pF w2 ru;obtain⟨gc,hgc⟩:=ay (w2.heap.size);rw[hgc]at hs1 kr r0 r1 r2 r3 r4 q0 q1 q2 q3 q4;obtain⟨y0,y1,y2,y3,y4⟩:=kr.cells;have HB3:=ak (Below.after B1.o (Below.after b2 br));have KR:=ak kr;go_wp2_with fail
  refine(HSL.o w3 HB3.o).mono ?_;rintro e w4 ⟨rfl,b4⟩;have cB:=ak (Below.after HB3.o b4);have uj:=ak (show eP w4 gc ru from au b4 KR.o);obtain⟨y0,y1,y2,y3,y4⟩:=uj.o.cells;go_wp2_with fail
  refine(ZQ.o w4 cB.o).mono ?_;intro e w5 hj
 .obtain⟨i2,rfl⟩:=hj.ret;rw[HDR.o]at hj;have HZ:=ak ((hj.read cB.o gJ.o).after (k1:=0) (k:=d*(3*D+1)) rfl (Ext.refl _) (by omega) (by have:=uT.o.2;omega) (af6 _ _) (Kt.of (af6 _ _)));go_wp2_with fail
  go_ret2;exact HZ.o
 obtain⟨E5,i5,rfl,s5,f5,x5,n5,RA,MQ,MR⟩:=hj;have Rt:=ak (show eP w5 gc ru from MR.cells _ (by decide) (by decide) _ _ _ uj.o);obtain⟨y0,y1,y2,y3,y4⟩:=Rt.o.cells;have HJ:=ak (l8 hD s5 f5 RA (HR.o.zero.ext x5) oG.o (by have:=uT.o.1;have:=jU.o;omega) (by have:=uT.o.1;have:=jU.o;omega));rw[HDR.o]at HJ;have HX:=ak (And.intro x5 (And.intro n5 (And.intro ((cB.o.mono gJ.o).trans MQ) ((Kt.of cB.o).trans MR))));go_wp2_with fail
 refine HJ.o.mono ?_;intro e w6 hj;obtain⟨i6,rfl⟩:=hj.ret;have HZ:=ak (hj.after (k:=d*(3*D+1)) rfl HX.o.1 HX.o.2.1 (by have:=uT.o.1;omega) HX.o.2.2.1 HX.o.2.2.2);go_wp2_with fail
 go_ret2;exact HZ.o
theorem OB(hD:GZ D M):∀(d:Nat) {n0 B most:Nat} {W:World} {E:List En} {i k:Nat} {t:List Nat},aW n0 W B most E->iE E->lY E i t d->k<=t.length->t.length<=M->E.length+d*(3*D+1)<=most->E.length+d*(3*D+1)<=1048576->
    Calls Tryz.prog 153 #[.pointer (some ⟨B,0,none⟩),.int .i64 i,.int .i64 (k:Nat)] W (uH n0 B most (d*(3*D+1)) E W (t.take k)):=by
 intro d
 induction d using Nat.strongRecOn with
 |_ d ih=>
 intro n0 B most W E i k t hs hwf hb hk hM hroom hE;have hn0:=hs.lt;have hE':E.length<=1048576:=by omega
 have HS:=ak hs;have gW:=ak hwf;have Vl:=ak hb;have gJ:=ak hn0;have HK:=ak hk;have jU:=ak (And.intro hM (And.intro hroom hE));have hbl:=(hb.zero).len hwf;by_cases g0:k=0
 .subst g0;go_enter Tryz.func153,Tryz.ntmps153;go_wp2_with fail
  go_ret2;exact⟨E,0,rfl,HS.o,gW.o,Ext.refl _,by omega,⟨agb _,by rw[cZ,ah5],rfl⟩,af6 _ _,Kt.of (af6 _ _)⟩
 have e0:((k:Int)==0)=false:=by simp;omega
 have iF:=ak (jC hs hwf hb.zero hE');by_cases g1:k=t.length
 .have e1:((k:Int)==(t.length:Int))=true:=by simp;omega
  go_enter Tryz.func153,Tryz.ntmps153;go_wp2_with fail
  refine iF.o.mono ?_;rintro e w1 ⟨rfl,b1⟩;have B1:=ak b1;go_wp2_with fail
  go_ret2;exact⟨E,i,rfl,HS.o.below B1.o,gW.o,Ext.refl _,by omega,by rw[g1,ahe];exact Vl.o.zero,B1.o.mono gJ.o,Kt.of B1.o⟩
 have e1:((k:Int)==(t.length:Int))=false:=by simp;omega
 have hd0:0<d:=by
  rcases agP d with g|g
  .exfalso;subst g;have h1:=hb.letter hwf;omega
  exact g
 obtain⟨l,r,s1,t1,d1,d2,mW,hl,hr,ht,hdd,hd1,hd2⟩:=hb.split hwf hd0;obtain⟨ru,qO⟩:=ay ((aF E i).ru);have el:l=ru.left:=by rw[<-qO,mW]
 have er:r=ru.right:=by rw[<-qO,mW]
 subst el er;have pX:=ak (λw (hw:Below W.heap.size W w)=>iK (hs.below hw) hb.pos hb.le hE' (W:=w));rw[qO]at pX;unfold qN at pX;have HSL:=ak (λw (hw:Below W.heap.size W w)=>jC (hs.below hw) hwf hl.zero hE' (W:=w));have hlen:t.length=s1.length+t1.length:=by rw[ht,af8]
 have HT:=ak ht;have hle1:d1*(3*D+1)<=d*(3*D+1):=agY _ (by omega);have hle2:d2*(3*D+1)+(3*D+1)<=d*(3*D+1):=by rw[<-ag6];exact agY _ (by omega)
 have uT:=ak (And.intro hle1 hle2);have HL:=ak hl;have HR:=ak hr;by_cases g2:k<=s1.length
 case' _=>
  have e2:(k:Int)<=(s1.length:Int):=by omega
  have ZQ:=ak (λw (hw:Below W.heap.size W w)=>ih d1 (by omega) (hs.below hw) hwf hl (k:=k) (W:=w) (by omega) (by omega) (by omega) (by omega));have hdr:s1.take k=t.take k:=by rw[ht,ahP g2]
  have HDR:=ak hdr;generalize s1.length=m at *
 rotate_left
 case' _=>
  have e2:¬(k:Int)<=(s1.length:Int):=by omega
  have hw2:IntKind.i64.wrap ((k:Int)-(s1.length:Int))=((k-s1.length:Nat):Int):=by rw[agd];omega
  have ZQ:=ak (λw (hw:Below W.heap.size W w)=>ih d2 (by omega) (hs.below hw) hwf hr (k:=k-s1.length) (W:=w) (by omega) (by omega) (by omega) (by omega));have hdr:s1++t1.take (k-s1.length)=t.take k:=by rw[ht,aiL,agI (show s1.length<=k by omega)]
  have HDR:=ak hdr;have oG:=ak (show s1.length+(t1.take (k-s1.length)).length<=M by rw[agB];omega);generalize k-s1.length=k2 at *;generalize hm:s1.length=m at *;have HM:=ak hm
 rotate_left
 all_goals
  generalize t.length=tl at *;go_enter Tryz.func153,Tryz.ntmps153;go_wp2_with fail
  refine iF.o.mono ?_;rintro e w1 ⟨rfl,b1⟩;have B1:=ak b1;go_wp2_with fail
  refine(pX.o w1 B1.o).mono ?_;rintro e w2 ⟨rfl,b2⟩;obtain⟨wz,w3,hz,hs1,kr,br,⟨r0,r1,r2,r3,r4⟩,q0,q1,q2,q3,q4⟩:=pF w2 ru;obtain⟨gc,hgc⟩:=ay (w2.heap.size);rw[hgc]at hs1 kr r0 r1 r2 r3 r4 q0 q1 q2 q3 q4;obtain⟨y0,y1,y2,y3,y4⟩:=kr.cells;have HB3:=ak (Below.after B1.o (Below.after b2 br));have KR:=ak kr;go_wp2_with fail
  refine(HSL.o w3 HB3.o).mono ?_;rintro e w4 ⟨rfl,b4⟩;have cB:=ak (Below.after HB3.o b4);have uj:=ak (show eP w4 gc ru from au b4 KR.o);obtain⟨y0,y1,y2,y3,y4⟩:=uj.o.cells;go_wp2_with fail
  refine(ZQ.o w4 cB.o).mono ?_;intro e w5 hj
 .obtain⟨i2,rfl⟩:=hj.ret;rw[HDR.o]at hj;have HZ:=ak ((hj.read cB.o gJ.o).after (k1:=0) (k:=d*(3*D+1)) rfl (Ext.refl _) (by omega) (by have:=uT.o.1;omega) (af6 _ _) (Kt.of (af6 _ _)));go_wp2_with fail
  go_ret2;exact HZ.o
 obtain⟨E5,i5,rfl,s5,f5,x5,n5,RA,MQ,MR⟩:=hj;have Rt:=ak (show eP w5 gc ru from MR.cells _ (by decide) (by decide) _ _ _ uj.o);obtain⟨y0,y1,y2,y3,y4⟩:=Rt.o.cells;have HJ:=ak (l8 hD s5 f5 (HL.o.zero.ext x5) RA (by rw[HM.o];exact oG.o) (by have:=uT.o.2;have:=jU.o;omega) (by have:=uT.o.2;have:=jU.o;omega));rw[HDR.o]at HJ;have HX:=ak (And.intro x5 (And.intro n5 (And.intro ((cB.o.mono gJ.o).trans MQ) ((Kt.of cB.o).trans MR))));go_wp2_with fail
 refine HJ.o.mono ?_;intro e w6 hj;obtain⟨i6,rfl⟩:=hj.ret;have HZ:=ak (hj.after (k:=d*(3*D+1)) rfl HX.o.1 HX.o.2.1 (by have:=uT.o.2;omega) HX.o.2.2.1 HX.o.2.2.2);go_wp2_with fail
 go_ret2;exact HZ.o
def bZ(D:Nat):Nat:=(2*D+1)*(3*D+1)
theorem Vo(D:Nat):bZ D=D*(3*D+1)+(D*(3*D+1)+(3*D+1)):=by
 unfold bZ
 rw[aha,ah6,Nat.two_mul,aha];omega
theorem RB(h:f+n<=s.length):((s++t).drop f).take n=(s.drop f).take n:=by
 rw[ahj (by omega),ahP (by rw[agp];omega)]
theorem OE(h:s.length<=f):((s++t).drop f).take n=(t.drop (f-s.length)).take n:=by
 rw[ajD,ag9 h,agH]
theorem RD(h1:f<s.length)(h2:s.length<f+n):((s++t).drop f).take n=s.drop f++t.take (f+n-s.length):=by
 rw[ahj (by omega),aiL,agI (by rw[agp];omega),agp]
 congr 2;omega
theorem II(hD:GZ D M){W:World}{E:List En}(hs:aW n0 W B most E)(hwf:iE E)(hb:fT E i t)(hfn:f+n<=t.length)(hM:t.length<=M)(hroom:E.length+bZ D<=most)(hE:E.length+bZ D<=1048576):
    Calls Tryz.prog 111 #[.pointer (some ⟨B,0,none⟩),.int .i64 i,.int .i64 (f:Nat),.int .i64 (n:Nat)] W (uH n0 B most (bZ D) E W ((t.drop f).take n)):=by
 have hn0:=hs.lt
 have hE':E.length<=1048576:=by omega
 have HS:=ak hs;have gW:=ak hwf;have Vl:=ak hb;have gJ:=ak hn0
 have jU:=ak (And.intro hM (And.intro hroom hE))
 have pG:=hD.2
 by_cases g0:n=0
 .subst g0
  clear hs hwf hb hfn hM hroom hE hn0 hE'
  go_enter Tryz.func111,Tryz.ntmps111
  go_wp2_with fail
  go_ret2
  exact⟨E,0,rfl,HS.o,gW.o,Ext.refl _,by omega,⟨agb _,by rw[cZ,ah5],rfl⟩,af6 _ _,Kt.of (af6 _ _)⟩
 have e0:((n:Int)==0)=false:=by simp;omega
 have hi0:0<i:=by
  rcases agP i with g|g
  .have:=(hb.zero hwf).1 g
   rw[this]at hfn;simp at hfn;omega
  .exact g
 have uo:=hb.Ig hi0
 obtain⟨G,hG⟩:=ay ((t.drop f).take n)
 rw[hG]
 have HST:=ak (And.intro uo (And.intro hG hfn))
 clear hb hfn uo hG hi0
 go_enter Tryz.func111,Tryz.ntmps111
 go_wp2_with fail
 go_loopw [1,2] (λc1 c2 wr=>∃(j g d:Nat) (u:List Nat),c1=.int .i64 j/\c2=.int .i64 (g:Nat)/\lY E j u d/\(u.drop g).take n=G/\g+n<=u.length/\u.length<=t.length/\Below W.heap.size W wr) (λc1 _ _=>(aF E (intOf c1).toNat).depth)
 case atStart=>exact⟨i,f,_,t,rfl,rfl,HST.o.1,HST.o.2.1,HST.o.2.2,af7 _,af6 _ _⟩
 case round=>
  obtain⟨j,g,d,u,rfl,rfl,hb,hG,hgn,hut,hbw⟩:=hrel
  have vk:=ak hbw
  have iF:=ak (jC (hs.below hbw) hwf hb.zero hE')
  have HB:=ak hb;have HG:=ak hG
  by_cases g1:n=u.length
  .have e1:((n:Int)==(u.length:Int))=true:=by simp;omega
   have HX:aA (uH n0 B most (bZ D) E W G (.returned (.tuple #[.int .i64 (j:Nat),.nilIface])) wr->True):=ak (λ_=>trivial)
   have HU:aA (G=u):=ak (by
    obtain rfl:g=0:=by omega
    rw[<-hG,g1,agj,ahe])
   generalize u.length=ul at *
   clear hb hG hgn hut hbw g1 hs hwf hM hroom hE hn0 hE' pG HX
   go_wp2_with fail
   refine iF.o.mono ?_;rintro e w1 ⟨rfl,b1⟩
   have B1:=ak (Below.after vk.o b1);clear b1
   go_wp2_with fail
   go_ret2
   exact⟨E,j,rfl,HS.o.below B1.o,gW.o,Ext.refl _,by omega,by rw[HU.o];exact HB.o.zero,B1.o.mono gJ.o,Kt.of B1.o⟩
  have e1:((n:Int)==(u.length:Int))=false:=by simp;omega
  have hd0:0<d:=by
   rcases agP d with q|q
   .exfalso
    subst q
    have h1:=hb.letter hwf
    omega
   .exact q
  obtain⟨l,r,s1,t1,d1,d2,mW,hl,hr,ht,hdd,hd1,hd2⟩:=hb.split hwf hd0
  obtain⟨ru,qO⟩:=ay ((aF E j).ru)
  have el:l=ru.left:=by rw[<-qO,mW]
  have er:r=ru.right:=by rw[<-qO,mW]
  subst el er
  have pX:=ak (λw (hw:Below W.heap.size W w)=>iK (hs.below hw) hb.pos hb.le hE' (W:=w))
  rw[qO]at pX
  unfold qN at pX
  have HSL:=ak (λw (hw:Below W.heap.size W w)=>jC (hs.below hw) hwf hl.zero hE' (W:=w))
  have hlen:u.length=s1.length+t1.length:=by rw[ht,af8]
  have hD1:=hD.le hwf hl (by omega);have hD2:=hD.le hwf hr (by omega)
  have hjd:(aF E j).depth=d:=hb.depth
  have hld:(aF E ru.left).depth=d1:=hl.depth
  have hrd:(aF E ru.right).depth=d2:=hr.depth
  have HDP:=ak (And.intro hjd (And.intro hld (And.intro hrd hdd)))
  have HL:=ak hl;have HR:=ak hr
  subst ht
  have ZT:g+n<=1152921504606846976:=by omega
  have hw1:IntKind.i64.wrap ((g:Int)+(n:Int))=((g+n:Nat):Int):=by rw[agd];omega
  by_cases c1:g+n<=s1.length
  .have e2:((g+n:Nat):Int)<=(s1.length:Int):=by omega
   have HN:aA ((s1.drop g).take n=G/\(g<=s1.length-n/\n<=s1.length)/\s1.length<=t.length):=ak ⟨by rw[<-hG,RB c1],⟨by omega,by omega⟩,by omega⟩
   generalize(s1++t1).length=ul at *
   generalize hm:s1.length=m at *
   have HM:=ak hm
   generalize g+n=gn at *
   clear hb hG hgn hut hbw g1 hs hwf hM hroom hE hn0 hE' pG hl hr hlen hjd hld hrd hdd hd1 hd2 hd0 mW qO hm c1 ZT hD1 hD2
   go_wp2_with fail
   refine iF.o.mono ?_;rintro e w1 ⟨rfl,b1⟩
   have B1:=ak (Below.after vk.o b1);clear b1
   go_wp2_with fail
   refine(pX.o w1 B1.o).mono ?_;rintro e w2 ⟨rfl,b2⟩
   obtain⟨wz,w3,hz,hs1,kr,br,⟨r0,r1,r2,r3,r4⟩,q0,q1,q2,q3,q4⟩:=pF w2 ru
   obtain⟨gc,hgc⟩:=ay (w2.heap.size)
   rw[hgc]at hs1 kr r0 r1 r2 r3 r4 q0 q1 q2 q3 q4
   obtain⟨y0,y1,y2,y3,y4⟩:=kr.cells
   have HB3:=ak (Below.after B1.o (Below.after b2 br));have KR:=ak kr
   clear b2 kr br
   go_wp2_with fail
   clear hz hs1 r0 r1 r2 r3 r4 q0 q1 q2 q3 q4 y0 y1 y2 y3 y4 hgc
   refine(HSL.o w3 HB3.o).mono ?_;rintro e w4 ⟨rfl,b4⟩
   have cB:=ak (Below.after HB3.o b4)
   have uj:=ak (show eP w4 gc ru from au b4 KR.o)
   obtain⟨y0,y1,y2,y3,y4⟩:=uj.o.cells
   clear b4
   go_wp2_with fail
   clear y0 y1 y2 y3 y4
   go_roundw
   case rel=>exact⟨ru.left,g,d1,s1,rfl,rfl,HL.o,HN.o.1,by have:=HN.o.2;have:=HM.o;omega,by rw[HM.o];exact HN.o.2.2,cB.o⟩
   case measure=>simp[intOf,HDP.o.1,HDP.o.2.1];have:=HDP.o.2.2.2;omega
  have e2:¬((g+n:Nat):Int)<=(s1.length:Int):=by omega
  by_cases c2:s1.length<=g
  case' _=>
   have e3:(s1.length:Int)<=(g:Int):=by omega
   have hw2:IntKind.i64.wrap ((g:Int)-(s1.length:Int))=((g-s1.length:Nat):Int):=by rw[agd];omega
   have HN:aA ((t1.drop (g-s1.length)).take n=G/\g-s1.length+n<=t1.length/\t1.length<=t.length):=ak ⟨by rw[<-hG,OE c2],by omega,by omega⟩
   generalize(s1++t1).length=ul at *
   generalize g-s1.length=g2 at *
   generalize s1.length=m at *
   generalize g+n=gn at *
   clear hb hG hgn hut hbw g1 hs hwf hM hroom hE hn0 hE' pG hl hr hlen hjd hld hrd hdd hd1 hd2 hd0 mW qO c1 c2 ZT hD1 hD2
  rotate_left
  case' _=>
   have e3:¬(s1.length:Int)<=(g:Int):=by omega
   have hw2:IntKind.i64.wrap (((g+n:Nat):Int)-(s1.length:Int))=((g+n-s1.length:Nat):Int):=by rw[agd];omega
   have hk:=Vo D
   have hm1:d1*(3*D+1)<=D*(3*D+1):=agY _ hD1
   have hm2:d2*(3*D+1)<=D*(3*D+1):=agY _ hD2
   have ZU:=ak (λw (hw:Below W.heap.size W w)=>Rz hD d1 (hs.below hw) hwf hl (k:=g) (W:=w) (by omega) (by omega) (by omega) (by omega))
   have HKK:=ak (And.intro hk (And.intro hm1 hm2))
   have HG2:aA (s1.drop g++t1.take (g+n-s1.length)=G):=ak (by rw[<-hG,RD (by omega) (by omega)])
   have oG:aA ((s1.drop g).length+(t1.take (g+n-s1.length)).length<=M/\g+n-s1.length<=t1.length/\t1.length<=M):=ak ⟨by rw[agp,agB];omega,by omega,by omega⟩
   generalize(s1++t1).length=ul at *
   generalize g+n-s1.length=g2 at *
   generalize s1.length=m at *
   generalize g+n=gn at *
   clear hb hG hgn hut hbw g1 hs hwf hM hroom hE hn0 hE' pG hl hr hlen hjd hld hrd hdd hd1 hd2 hd0 mW qO c1 c2 ZT hD1 hD2 hk hm1 hm2
  rotate_left
  all_goals
   go_wp2_with fail
   refine iF.o.mono ?_;rintro e w1 ⟨rfl,b1⟩
   have B1:=ak (Below.after vk.o b1);clear b1
   go_wp2_with fail
   refine(pX.o w1 B1.o).mono ?_;rintro e w2 ⟨rfl,b2⟩
   obtain⟨wz,w3,hz,hs1,kr,br,⟨r0,r1,r2,r3,r4⟩,q0,q1,q2,q3,q4⟩:=pF w2 ru
   obtain⟨gc,hgc⟩:=ay (w2.heap.size)
   rw[hgc]at hs1 kr r0 r1 r2 r3 r4 q0 q1 q2 q3 q4
   obtain⟨y0,y1,y2,y3,y4⟩:=kr.cells
   have HB3:=ak (Below.after B1.o (Below.after b2 br));have KR:=ak kr
   clear b2 kr br
   go_wp2_with fail
   clear hz hs1 r0 r1 r2 r3 r4 q0 q1 q2 q3 q4 y0 y1 y2 y3 y4 hgc
   refine(HSL.o w3 HB3.o).mono ?_;rintro e w4 ⟨rfl,b4⟩
   have cB:=ak (Below.after HB3.o b4)
   have uj:=ak (show eP w4 gc ru from au b4 KR.o)
   obtain⟨y0,y1,y2,y3,y4⟩:=uj.o.cells
   clear b4
   go_wp2_with fail
   clear y0 y1 y2 y3 y4
  .go_roundw
   case rel=>exact⟨ru.right,g2,d2,t1,rfl,rfl,HR.o,HN.o.1,HN.o.2.1,HN.o.2.2,cB.o⟩
   case measure=>simp[intOf,HDP.o.1,HDP.o.2.2.1];have:=HDP.o.2.2.2;omega
  .refine(ZU.o w4 cB.o).mono ?_
   intro e w5 hj
   obtain⟨E5,i5,rfl,s5,f5,x5,n5,RA,MQ,MR⟩:=hj
   have Rt:=ak (show eP w5 gc ru from MR.cells _ (by decide) (by decide) _ _ _ uj.o)
   obtain⟨y0,y1,y2,y3,y4⟩:=Rt.o.cells
   have HFR:=ak (OB hD d2 s5 f5 (HR.o.ext x5) (k:=g2) oG.o.2.1 oG.o.2.2 (by have:=HKK.o;have:=jU.o;omega) (by have:=HKK.o;have:=jU.o;omega))
   have HX:=ak (And.intro x5 (And.intro n5 (And.intro ((cB.o.mono gJ.o).trans MQ) ((Kt.of cB.o).trans MR))))
   have HBL5:=ak RA
   clear s5 f5 x5 n5 RA MQ MR
   go_wp2_with fail
   clear y0 y1 y2 y3 y4
   refine HFR.o.mono ?_
   intro e w6 hj
   obtain⟨E6,i6,rfl,s6,f6,x6,n6,bl6,bb6,kt6⟩:=hj
   have HJ:=ak (l8 hD s6 f6 (HBL5.o.ext x6) bl6 oG.o.1 (by have:=HKK.o;have:=jU.o;have:=HX.o.2.1;omega) (by have:=HKK.o;have:=jU.o;have:=HX.o.2.1;omega))
   rw[HG2.o]at HJ
   have tN:=ak (And.intro (HX.o.1.trans x6) (And.intro n6 (And.intro (HX.o.2.2.1.trans bb6) (HX.o.2.2.2.trans kt6))))
   clear s6 f6 x6 n6 bl6 bb6 kt6
   go_wp2_with fail
   refine HJ.o.mono ?_
   intro e w7 hj
   obtain⟨i7,rfl⟩:=hj.ret
   have HZ:=ak (hj.after (k:=bZ D) (k1:=D*(3*D+1)+D*(3*D+1)) rfl tN.o.1 (by have:=tN.o.2.1;have:=HX.o.2.1;have:=HKK.o;omega) (by have:=HKK.o;omega) tN.o.2.2.1 tN.o.2.2.2)
   clear hj
   go_wp2_with fail
   go_ret2
   exact HZ.o
theorem IJ(hD:GZ D M){W:World}{E:List En}(hs:aW n0 W B most E)(hwf:iE E)(hb:fT E i t)(hfn:f+n<=t.length)(hM:t.length<=M)(hroom:E.length+bZ D<=most)(hE:E.length+bZ D<=1048576):
    Calls Tryz.prog 121 #[.pointer (some ⟨B,0,none⟩),.int .i64 i,.int .i64 (f:Nat),.int .i64 (n:Nat)] W (uH n0 B most (bZ D) E W ((t.drop f).take n)):=by
 have hE':E.length<=1048576:=by omega
 have hn0:=hs.lt
 have pG:=hD.2
 have gJ:=ak hn0
 have HC:=ak (Ca hs hwf hb hE')
 have HG:=ak (λw=>MS w (f:Int) (n:Int) (t.length:Int))
 have hr:rF (f:Int) (n:Int) (t.length:Int)=true:=by rw[dJ];unfold dX;omega
 rw[hr]at HG
 simp only[ahv]at HG
 have HS:=ak (λw (hw:Below W.heap.size W w)=>II hD (hs.below hw) hwf hb hfn hM hroom hE)
 generalize(t.drop f).take n=G at *
 generalize t.length=tl at *
 clear hs hwf hb hfn hM hroom hE hE' hn0 pG hr
 go_enter Tryz.func121,Tryz.ntmps121
 go_wp2_with fail
 refine HC.o.mono ?_;rintro e w1 ⟨rfl,b1⟩
 have B1:=ak b1;clear b1
 go_wp2_with fail
 refine(HG.o w1).mono ?_;rintro e w ⟨rfl,h⟩;rw[h];clear h w
 go_wp2_with fail
 refine(HS.o w1 B1.o).mono ?_
 intro e w2 hj
 obtain⟨i2,rfl⟩:=hj.ret
 have HZ:=ak (hj.read B1.o gJ.o)
 clear hj
 go_wp2_with fail
 go_ret2
 exact HZ.o
end M
end
end Go.Proofs.YtgbhohfabhilgaaGreatDoor
