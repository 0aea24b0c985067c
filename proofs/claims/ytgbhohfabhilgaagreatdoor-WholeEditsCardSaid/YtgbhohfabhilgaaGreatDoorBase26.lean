import Derived.Test.YtgbhohfabhilgaaGreatDoorBase25
set_option maxRecDepth 100000
set_option maxHeartbeats 8000000
set_option linter.unusedVariables false
set_option linter.unusedSimpArgs false
namespace Go.Proofs.YtgbhohfabhilgaaGreatDoor
section
open Go.RowKit Go.Lib
namespace M
attribute [local go_sem] Oper.semAt_some
variable{a b g k lo n sb t:Nat}{vL vM vR:Value}{W:World}
theorem S9:∀{y:Sy},jF y->(aZ y).length<=(aV y).length
 | .lt b,_=>by show 0<=_;omega
 | .pr l r,h=>by
  have h1:=gY h.1
  have h2:=gY h.2.1
  show 2<=(aV l++aV r).length
  rw[af8];omega
 | .pw x k,h=>by
  have h1:=gY h.1
  show(List.replicate k x).length<=((List.replicate k (aV x)).flatten).length
  rw[ahF,aiF,aij,aiD]
  exact ajp k h1
theorem dY.sub{b:Bool}{root:Sy}(hr:jF root):∀{p:gI} {x:Sy},dY b root p x->(aV x).length<=(aV root).length/\∀f∈p,(aV f.1).length<=(aV root).length/\aQ f.1<=aQ root/\1<=f.2/\f.2<=(aZ f.1).length
 | [],x,h=>by rw[show x=root from h];exact⟨af7 _,λf hf=>by cases hf⟩
 | (y,k)::p,x,h=>by
  obtain⟨h1,h2,h3⟩:=h
  obtain⟨a,c⟩:=dY.sub hr h3
  have oky:=(dY.ok hr h3).1
  have hm:=qp.1 (agE h2)
  have hk:=(agA.1 h2).1
  rw[jI]at hk
  have hx:x∈iO y:=by
   cases y with
   |lt c=>cases hm
   |pr l r=>
    simp[aZ]at hm;rcases hm with rfl|rfl
    .simp[iO,pJ]
    .simp[iO,pJ]
   |pw z t=>
    simp[aZ]at hm;rw[hm.2];simp[iO,pJ]
  have ht:=(rY oky x hx).2;have hll:=h3.len;refine⟨by omega,λf hf=>?_⟩;rcases agm.1 hf with rfl|hf
  .exact⟨a,by show aQ y<=_;omega,h1,by show k<=(aZ y).length;omega⟩
  .exact c f hf
theorem VE.edb{b:Bool}{root:Sy}{e:Ed}(h:VE b root n e)(hr:jB root)(ht:(aV root).length<=1152921504606846976):Qf e:=by
 intro p x he;obtain⟨hs,-,-⟩:=h p x he;have hlv:aQ root<=25338:=by
  obtain⟨t,htn,rfl⟩:=hr;rw[eY htn]at ht;exact wR htn ht
 obtain⟨-,hsub⟩:=hs.sub hr.ok;have hlen:=hs.len;refine⟨λf hf=>?_,λf hf=>?_,by omega⟩
 .obtain⟨a,c,d,e⟩:=hsub f hf;have:=S9 ((hs.ok hr.ok).2 f hf);exact⟨d,e,by omega⟩
 obtain⟨a,c,d,e⟩:=hsub f hf;omega
def StI(n0 B most g:Nat)(F:List Sy)(E:List En)(W:World)(lo sb pa:Nat)(rb:Sy)(n k:Nat)(s1:iD)(m:Nat)(w:World):Prop:=
 ∃(X:List It) (R':Ed) (cs:Array Value) (vL vR vM:Value),bQ w E lo sb pa ⟨s1.L,s1.mid++X,R'⟩ cs vL vR vM/\GS rb n k s1.R X R'/\Gw n0 B most g F (λq=>lo<=q) E E W w/\m=(bK n R').length/\(X=[]->R'=s1.R)
def ng(W:World)(g a b k t:Nat):Prop:=W.heap[g]?=some (.cells #[.int .i64 a,.int .i64 b,.int .u64 k,.int .i64 t] 254 (0,0))
theorem ng.all(h:ng W g a b k t):W.cell? ⟨g,0,none⟩=some (.int .i64 a)/\W.cell? ⟨g,1,none⟩=some (.int .i64 b)/\W.cell? ⟨g,2,none⟩=some (.int .u64 k)/\W.cell? ⟨g,3,none⟩=some (.int .i64 t)/\∀i,W.frozen? ⟨g,i,none⟩=false:=by
 unfold ng at h;simp[World.cell?,World.frozen?,h]
theorem ng.below{A C:World}(h:ng A g a b k t)(hb:Below A.heap.size A C):ng C g a b k t:=au hb h
theorem ng.times(h:ng W g a b k t)(t2:Nat):ng (W.setCell ⟨g,3,none⟩ (.int .i64 t2)) g a b k t2:=by
 have q:=aC (i:=3) (.int .i64 (t2:Int)) h;simp only[agx,agu,agv]at q;exact q
theorem ze(w:World)(a b k t:Nat):∃wz w2,w.alloc (.cells #[.int .i64 0,.int .i64 0,.int .u64 0,.int .i64 0] 254)=wz/\(((wz.setCell ⟨w.heap.size,0,none⟩ (.int .i64 a)).setCell ⟨w.heap.size,1,none⟩ (.int .i64 b)).setCell ⟨w.heap.size,2,none⟩ (.int .u64 k)).setCell ⟨w.heap.size,3,none⟩ (.int .i64 t)=w2/\ng w2 w.heap.size a b k t/\Below w.heap.size w w2/\ng wz w.heap.size 0 0 0 0/\Below w.heap.size w wz:=by
 have k0:ng (w.alloc (.cells #[.int .i64 0,.int .i64 0,.int .u64 0,.int .i64 0] 254)) w.heap.size 0 0 0 0:=aD _ _;have b0:Below w.heap.size w (w.alloc (.cells #[.int .i64 0,.int .i64 0,.int .u64 0,.int .i64 0] 254)):=(af6 _ _).alloc (af7 _) _;refine⟨_,_,rfl,rfl,?_,(((b0.setCell (p:=⟨w.heap.size,0,none⟩) (af7 _) _).setCell (p:=⟨w.heap.size,1,none⟩) (af7 _) _).setCell (p:=⟨w.heap.size,2,none⟩) (af7 _) _).setCell (p:=⟨w.heap.size,3,none⟩) (af7 _) _,k0,b0⟩;have q:=aC (i:=3) (.int .i64 (t:Int)) (aC (i:=2) (.int .u64 (k:Int)) (aC (i:=1) (.int .i64 (b:Int)) (aC (i:=0) (.int .i64 (a:Int)) k0)));simp only[agx,agu,agv]at q;exact q
def Hg(sb:Nat)(cs:Array Value)(gi a b k t:Nat)(w:World):Prop:=iC sb cs w/\ng w gi a b k t
def S_(rb:Sy)(n:Nat)(s1 s':iD):Prop:=(s'=s1/\∀p x,s1.R=some (p,x)->(gD (n+1) p=0\/gD (n+1) p=2)/\∀i,s1.mid.getLast?=some i->key i.x≠key x)\/(∃k X R',s'=⟨s1.L,s1.mid++X,R'⟩/\GS rb n k s1.R X R'/\X≠[]/\∀p x,R'=some (p,x)->key x≠k)
theorem bQ.other{w':World}{E:List En}{pa:Nat}{s:iD}{cs:Array Value}(h:bQ W E lo sb pa s cs vL vR vM){gi:Nat}(hg:W.grownBy w' (some gi))(hi:ng W gi a b k t)(h1:gi≠sb)(h2:vM.ownBlock≠some gi):bQ w' E lo sb pa s cs vL vR vM:=by
 have hp:∀{u:Value} {p:gI},G9 lo W E u p->G9 lo w' E u p:=λ{u p} hp=>hp.grown hg (by
  cases hu:u.ownBlock with
  |none=>exact .inl rfl
  |some q=>
   refine .inr (λe=>?_);injection e with e;obtain⟨-,cur,hc⟩:=hp.blk hu;have hi':W.heap[gi]?=_:=hi;rw[<-e,hc]at hi';injection hi' with hi';injection hi' with _ hi' _;exact absurd hi' (by decide))
 have hb:w'.heap[sb]?=some (.cells cs 251 (0,0)):=aI hg h.blk (λe=>h1 e.symm);exact⟨⟨⟨hb,h.left.r.c0,h.left.r.c1,h.left.r.c2,h.left.r.c3,h.left.r.c4,hp h.left.r.path,h.left.r.mem⟩,h.left.sym⟩,⟨⟨hb,h.right.r.c0,h.right.r.c1,h.right.r.c2,h.right.r.c3,h.right.r.c4,hp h.right.r.path,h.right.r.mem⟩,h.right.sym⟩,h.c0,h.c11,h.mid.grown hg (by
  cases hu:vM.ownBlock with
  |none=>exact .inl rfl
  |some q=>exact .inr (λe=>h2 (by rw[hu,e]))),h.mem,h.VZ,h.low⟩
theorem xJ{n0 B most:Nat}{F:List Sy}{E:List En}(h:gV n0 B most g F E W){pa:Nat}{rb:Sy}{s1:iD}{cs:Array Value}(hlo:n0<=lo)(hp:iW W pa B g)(hpa:pa<lo)(hS:bQ W E lo sb pa s1 cs vL vR vM)(hIS:jB rb)(htx:(aV rb).length<=1152921504606846976)(hV:VE true rb n s1.R)(htie:f_ (n+1)=true)(hX:∀k X R',GS rb n k s1.R X R'->s1.mid.length+X.length<=900000)(hn:n<=100000):
    Calls Tryz.prog 182 #[.pointer (some ⟨sb,0,none⟩),.int .i64 ((n+1:Nat):Int)] W λe w'=>e=.returned (.tuple #[])/\∃s',S_ rb n s1 s'/\kC n0 B most g F E W lo sb pa s' E w':=by
 have HF:∀f,Fence.wide.fn f:=λ_=>trivial;have hV0:=hV.edb hIS htx;have HP:=ak h;have fV:=ak hp;have eG:=ak (And.intro hlo hpa);have HIS:=ak hIS;have HTX:=ak htx;have aaI:=ak htie;have HXX:=ak hX;have JZ:=ak hS;have HVV:=ak hV;have HTE:aA ((n+1)%2=0):=ak (fK htie);have gW:=ak h.wf.wf;cases hR:s1.R with
 |none=>
  have c9:=hS.cR.1;rw[hR]at c9;replace c9:W.cell? ⟨sb,9,none⟩=some (.int .i64 0):=c9;have HR:aA (∃s',S_ rb n s1 s'/\kC n0 B most g F E W lo sb pa s' E W):=ak ⟨s1,.inl ⟨rfl,λp x e=>by rw[hR]at e;cases e⟩,_,_,_,_,hS,Gw.refl h⟩;clear h hlo hp hpa hS hIS htx hV htie hX hV0 hR;go_enter Tryz.func182,Tryz.ntmps182;go_wp2_with fail
  exact af_ (v:=.tuple #[]) (by simp[results,Tryz.results182,go_sem]) rfl ⟨rfl,HR.o⟩
 |some q0=>
  obtain⟨p0,x0⟩:=q0;obtain⟨Cz,-,-⟩:=hV p0 x0 hR;have hr0:iq W E 251 lo sb 6 pa true p0 (num E x0) (key x0) cs vR:=by have:=hS.right.r;rw[hR]at this;exact this
  have hx0:=hS.right.sym p0 x0 hR;obtain⟨ix0,aaJ⟩:=ay (num E x0);obtain⟨kx,aaK⟩:=ay (key x0);have c9:=hS.cR.1;have c10:=hS.cR.2;rw[hR]at c9 c10;replace c9:W.cell? ⟨sb,9,none⟩=some (.int .i64 ix0):=by rw[<-aaJ];exact c9
  replace c10:W.cell? ⟨sb,10,none⟩=some (.int .u64 kx):=by rw[<-aaK];exact c10
  have hi0:¬(ix0:Int)=0:=by have:=(aS hx0.1).1;omega
  have Gf:((ix0:Int)==0)=false:=agh.2 hi0;have hpl:=(hV0 p0 x0 hR).2.2;have HX0:=ak (And.intro aaJ (And.intro aaK hx0));have Ag:=ak hR;have c11:=hS.jD;have hmx:s1.mid.length<=900000:=by have:=hX 0 [] _ (GS.begin hV);simpa using this
  have Jl:=qw hIS (fK htie) Cz;have DY:=ak (And.intro Cz (And.intro hr0 (And.intro hpl (And.intro hmx Jl))));have hN:((n+1:Nat):Int)=(n:Int)+1:=by omega
  rw[hN];clear h hlo hp hpa hS hIS htx hV htie hX hV0 hR Cz hr0 hx0 aaJ aaK hpl hmx Jl hN;go_enter Tryz.func182,Tryz.ntmps182;go_upto_region 2 with(fail);rename_i K1 hK1 K2 hK2;have REST:∀(zz5 zz6 zz7 zz8 zz9 adH adI adJ adK adL adM adN adO adP adQ adR adS adT adU adV adW adX adY adZ ad1 ad2 ad3 ad4 ad5 ad6 ad7 ad8 ad9 ad_ aea aeb aec aed aee aef aeg aeh aei aej aek ael aem aen aeo aep aer aes aeu aev aew aex aey aez aeA aeB aeC aeD aeE aeF aeG aeH aeI aeJ aeK aeL aeM aeN aeO aeP aeQ aeR aeS aeT aeU aeV aeW aeX aeY aeZ ae0 ae1 ae2 ae3 ae4 ae5 ae6 ae7 ae8 ae9 ae_ XO XP XQ XR XT XU XV XW XX XY XZ X0 X3 X4 X5 X6 X7 X8 X9 X_ Ya Yb Yc Yd Ye Yf Yg Yh Yi Yj Yk Yl Ym Yn Yo Yp Yq Yr Yt Yu Yv Yw Yx Yy Yz YA YB YC YD YE YF YG YH YI:Value) (m0:Nat) (w:World),StI n0 B most g F E W lo sb pa rb n kx s1 m0 w->K1 { tmps:=#[.pointer (some ⟨sb,0,none⟩),.int .i64 ((n:Int)+1),undef,undef,.int .u64 kx,zz5,zz6,zz7,zz8,zz9,adH,adI,adJ,adK,adL,adM,adN,adO,adP,adQ,adR,adS,adT,adU,adV,adW,adX,adY,adZ,ad1,ad2,ad3,ad4,ad5,ad6,ad7,ad8,ad9,ad_,aea,aeb,aec,aed,aee,aef,aeg,aeh,aei,aej,aek,ael,aem,aen,aeo,aep,aer,aes,aeu,aev,aew,aex,aey,aez,aeA,aeB,aeC,aeD,aeE,aeF,aeG,aeH,aeI,aeJ,aeK,aeL,aeM,aeN,aeO,aeP,aeQ,aeR,aeS,aeT,aeU,aeV,aeW,aeX,aeY,aeZ,ae0,ae1,ae2,ae3,ae4,ae5,ae6,ae7,ae8,ae9,ae_,XO,XP,XQ,XR,XT,XU,XV,XW,XX,XY,XZ,X0,X3,X4,X5,X6,X7,X8,X9,X_,Ya,Yb,Yc,Yd,Ye,Yf,Yg,Yh,Yi,Yj,Yk,Yl,Ym,Yn,Yo,Yp,Yq,Yr,Yt,Yu,Yv,Yw,Yx,Yy,Yz,YA,YB,YC,YD,YE,YF,YG,YH,YI],defers:=[] } w:=by
   intro zz5 zz6 zz7 zz8 zz9 adH adI adJ adK adL adM adN adO adP adQ adR adS adT adU adV adW adX adY adZ ad1 ad2 ad3 ad4 ad5 ad6 ad7 ad8 ad9 ad_ aea aeb aec aed aee aef aeg aeh aei aej aek ael aem aen aeo aep aer aes aeu aev aew aex aey aez aeA aeB aeC aeD aeE aeF aeG aeH aeI aeJ aeK aeL aeM aeN aeO aeP aeQ aeR aeS aeT aeU aeV aeW aeX aeY aeZ ae0 ae1 ae2 ae3 ae4 ae5 ae6 ae7 ae8 ae9 ae_ XO XP XQ XR XT XU XV XW XX XY XZ X0 X3 X4 X5 X6 X7 X8 X9 X_ Ya Yb Yc Yd Ye Yf Yg Yh Yi Yj Yk Yl Ym Yn Yo Yp Yq Yr Yt Yu Yv Yw Yx Yy Yz YA YB YC YD YE YF YG YH YI m0 w hinit;have EL:=ak hinit;apply hK1;clear hK1 hK2 hinit c9 c10 c11 hi0 Gf;go_wp2_with fail
   go_loopg [] m0 (λm0 wr=>StI n0 B most g F E W lo sb pa rb n kx s1 m0 wr)
   case atStart=>exact EL.o
   clear EL;obtain⟨X,R',cs,vL,vR,vM,hS,Ta,hG,hmm,Ll⟩:=hrel;have tJ:=ak hmm;have pY:aA ((s1.mid++X).length<=900000):=ak (by rw[af8];exact HXX.o kx X R' Ta);cases R' with
   |none=>
    have c9:=hS.cR.1;replace c9:wr.cell? ⟨sb,9,none⟩=some (.int .i64 0):=c9;have HR:aA (∃s',S_ rb n s1 s'/\kC n0 B most g F E W lo sb pa s' E wr):=ak ⟨_,.inr ⟨kx,X,none,rfl,Ta,λe=>(by have h9:=Ll e;rw[Ag.o]at h9;cases h9),λp x e=>(by cases e)⟩,_,_,_,_,hS,hG⟩;clear hS Ta hG Ll hmm;go_wp2_with fail
    go_end0;exact⟨rfl,HR.o⟩
   |some q1=>
    obtain⟨p,x⟩:=q1;obtain⟨hsp,-,-⟩:=Ta.ve p x rfl;have hx:=hS.right.sym p x rfl;obtain⟨ix,hix⟩:=ay (num E x);obtain⟨kz,hkz⟩:=ay (key x);have c9:=hS.cR.1;have c10:=hS.cR.2;replace c9:wr.cell? ⟨sb,9,none⟩=some (.int .i64 ix):=(by rw[<-hix];exact c9);replace c10:wr.cell? ⟨sb,10,none⟩=some (.int .u64 kz):=(by rw[<-hkz];exact c10);have hi0:¬(ix:Int)=0:=(by have:=(aS hx.1).1;omega);have Gf:((ix:Int)==0)=false:=agh.2 hi0;have adB:((ix:Int) !=0)=true:=(by simpa using hi0);by_cases hkk:kz=kx
    .obtain rfl:kx=kz:=hkk.symm;have hB:=Ta.ve.edb HIS.o HTX.o;have hr:iq wr E 251 lo sb 6 pa true p (num E x) (key x) cs vR:=hS.right.r;obtain⟨d1,d2,d3,d4⟩:=su hB;have hpl:=(hB p x rfl).2.2;have HX:=ak (And.intro hix (And.intro hkz hx));have HS:=ak hS;have HG:=ak hG;have HGS:=ak Ta;have HKX:aA (key x=kx):=ak hkz;clear hmm;have hkx:=hkz;by_cases hp2:gD (n+1) p=2
     .clear hS hG Ta Ll;obtain⟨l,r,q,hpq,hlr⟩:=Ot HIS.o HTE.o hsp hp2;subst hpq;obtain⟨gb,cap,rfl,-,-,-,-⟩:=hr.top;have aaL:q.length+1<=1000000:=(by simpa using hpl);have jg:=ak (dw hr aaL hlr);obtain⟨il,hil⟩:=ay (num E l);obtain⟨ir,hir⟩:=ay (num E r);obtain⟨m,hm⟩:=ay (q.length);have hxl:=(HGS.o.two HIS.o aaI.o HKX.o hlr).2.2;have aaM:=hr.mem (.pr l r,2) (by simp);have hlm:l∈syms E:=pz gW.o aaM.1 (by simp[aZ]);have hrm:r∈syms E:=pz gW.o aaM.1 (by simp[aZ]);have Pe:aA (num E l=il/\num E r=ir/\key l=kx/\l∈syms E/\r∈syms E):=ak ⟨hil,hir,by rw[<-hxl];exact HX.o.2.1,hlm,hrm⟩;have e7:wr.cell? ⟨gb,m*8+7,none⟩=some (.int .i64 2):=(by rw[<-hm];exact hr.jo.2.2.2.2.2.2.2.1);have e3:∀w,Below wr.heap.size wr w->w.cell? ⟨gb,m*8+3,none⟩=some (.int .i64 il):=λw hw=>by rw[<-hm,<-hil];exact(hr.below hw).jo.2.2.2.1
      have e4:∀w,Below wr.heap.size wr w->w.cell? ⟨gb,m*8+4,none⟩=some (.int .i64 ir):=λw hw=>by rw[<-hm,<-hir];exact(hr.below hw).jo.2.2.2.2.1
      rw[hm]at jg;have zI:=ak hlr;have UD:=ak hsp;have uq:=ak aaL;have HBB:=ak hB;clear hr hpl aaL hil hir hxl aaM hlm hrm hlr hp2 hsp hB hx hix hkx d1 d2 d3 d4 hm;go_wp2_with fail
      refine jg.o.mono ?_;rintro r0 w1 ⟨rfl,hw1⟩;obtain rfl:wr=w1:=hw1.symm;go_wp2_with fail
      clear e7 c9 c10;refine aU (Below wr.heap.size wr) ?_;obtain⟨we,bU⟩:=ay (wr.drew);have S0:Below wr.heap.size wr we:=(by rw[<-bU];exact(af6 _ _).drew);rw[bU];clear bU;refine bJ 0 1 2 3 4 5 ?_;refine bJ 6 7 8 9 10 11 ?_;refine aT 12 λK hK=>?_;go_simp;obtain⟨wz,w3,hz,hs,k3,b3,kz,bz⟩:=ze we il ir kx 1;obtain⟨g8,EJ⟩:=ay (we.heap.size);rw[EJ]at hs k3 kz;replace hs:(((wz.setCell ⟨g8,0,none⟩ (.int .i64 il)).setCell ⟨g8,1,none⟩ (.int .i64 ir)).setCell ⟨g8,2,none⟩ (.int .u64 kx)).setCell ⟨g8,3,none⟩ (.int .i64 1)=w3:=hs;rw[hz,EJ];refine hK _ _ (Below.after S0 bz) ?_;have qH:=ak k3;have HB3:aA (Below wr.heap.size wr w3):=ak (Below.after S0 b3);have V7:aA (wr.heap.size<=g8):=ak (by rw[<-EJ];exact S0.size);have S1:=Below.after S0 bz;clear hK K hz S0 k3 b3 bz EJ;refine aJ.cK 13 (by kernel_rfl) ?_;simp only[agr,agj];obtain⟨z0,z1,z2,z3,z4⟩:=kz.all;have Jh:=z4 0;have Ji:=z4 1;have GY:=z4 2;have Jj:=z4 3;clear z4 kz e3 e4 S1;have AO:=ak (HS.o.below HB3.o);have qJ:=ak (HG.o.trans (Gw.of HG.o.st HB3.o));have hE3:=AO.o.right;dsimp only at hE3;have HUP:=ak (Lh (n:=n+1) qJ.o.st (fO eG.o.1 HS.o.low) (fV.o.kp qJ.o.kp (by have:=eG.o.2;omega)) hE3 (by omega) (by show((Sy.pr l r,2)::q).length<=_;rw[agc];exact uq.o) (λy h q' e=>by
       have e:(Sy.pr l r,2)::q=(y,h)::q':=e;injection e with e1 _;injection e1 with e2 e3;rw[<-e2,<-e3];exact af7 2))
      have hup:oD (n+1) (some ((.pr l r,2)::q,x))=some (q,.pr l r):=(by rw[jS,af5 ⟨zI.o,rfl⟩]);rw[hup]at HUP;have mJ:aA (g8≠sb/\(vM.ownBlock≠some g8)):=ak ⟨by have:=HS.o.lt;have:=V7.o;omega,λq1=>by
       have:=(HS.o.sj q1).2.2.2.2;have:=V7.o;omega⟩
      clear hE3 hup;gi_wp2_with fail
      clear hs z0 z1 z2 z3 Jh Ji GY Jj;go_wp2_with fail
      refine HUP.o.mono ?_;rintro r0 w4 ⟨rfl,hE⟩;have hI4:ng w4 g8 il ir kx 1:=by
       obtain⟨cs',v',he,hb,ho,hg⟩:=hE;refine hg.kp.cells _ (by decide) _ (λq=>?_) _ _ qH.o;rcases q with q1|q1|q1
       .exact mJ.o.1 q1
       .obtain⟨-,cur,hc⟩:=AO.o.right.r.path.blk q1;have hS0:w3.heap[g8]?=_:=qH.o;rw[hc]at hS0;injection hS0 with hS0;injection hS0 with _ hS0 _;exact absurd hS0 (by decide)
       have:=(aga.1 qH.o).1;omega
      obtain⟨DZ,v5,hW4,hG4⟩:=AO.o.UC gW.o hE;have lU:=ak hW4;have xZ:=ak (qJ.o.trans hG4);have HI4:=ak hI4;have hr4:iq w4 E 251 lo sb 6 pa true q (num E (.pr l r)) (key (.pr l r)) DZ v5:=hW4.right.r;have hBq:=HBB.o _ _ rfl;have HD:aA (EK q/\(∀y h q',q=(y,h)::q'->q.length+aQ y<=1000000)/\∀f∈q,aQ f.1+q.length<=1000000):=ak ⟨λf hf=>hBq.1 f (agK _ hf),λy h q' e=>by
       have:=hBq.2.1 (y,h) (by rw[e];simp);rw[agc]at this;dsimp only at this;omega,λf hf=>by
       have:=hBq.2.1 f (agK _ hf);rw[agc]at this;omega⟩
      clear hE hW4 hG4 hI4 hBq HUP;rcases kU (n+2) q with⟨h0,hno⟩|⟨y,h',q',hpq,pK,hh⟩
      case' _=>
       have Qc:=ak (d9 (n:=n+2) hr4 (by have:=uq.o;omega) hno);obtain⟨t,ht⟩:∃t,t=1:=⟨_,rfl⟩;have Uu:aA ((kD (n+2) q).1=t):=ak (by
        rw[ht];cases q with
        |nil=>rfl
        |cons f q9=>
         obtain⟨y9,h9⟩:=f;show(if aQ y9=n+2 then _ else _:Nat×Bool).1=1;rw[af4 (hno y9 h9 q9 rfl)])
       have Gg:aA (t<=1152921504606846976):=ak (by omega);have V4:aA (∀y h q',q=(y,h)::q'->t<=h):=ak λy h q' e=>by rw[ht];exact(HD.o.1 (y,h) (by rw[e];simp)).1
       clear hr4 h0 hno;go_wp2_with fail
       refine Qc.o.mono ?_;rintro r0 w5 ⟨rfl,eH⟩;obtain rfl:w4=w5:=eH.symm;go_wp2_with fail
       obtain⟨w5,eH⟩:∃w,w=w4:=⟨_,rfl⟩;have qU:aA (bQ w5 E lo sb pa ⟨s1.L,s1.mid++X,some (q,.pr l r)⟩ DZ vL v5 vM):=(by rw[eH];exact lU);have xY:aA (Gw n0 B most g F (λq=>lo<=q) E E W w5):=(by rw[eH];exact xZ);have OP:aA (ng w5 g8 il ir kx t):=(by rw[eH,ht];exact HI4);rw[<-eH];clear eH ht
      rotate_left
      case' _=>
       subst hpq;obtain⟨gc,capc,rfl,-,-,-,-⟩:=hr4.top;have Qc:=ak (dw hr4 (by have:=uq.o;rw[agc]at this;omega) pK);obtain⟨mc,hmc⟩:=ay (q'.length);have e7:w4.cell? ⟨gc,mc*8+7,none⟩=some (.int .i64 h'):=(by rw[<-hmc];exact hr4.jo.2.2.2.2.2.2.2.1);rw[hmc]at Qc;obtain⟨t,ht⟩:∃t,t=h':=⟨_,rfl⟩;subst ht;have Uu:aA ((kD (n+2) ((y,t)::q')).1=t):=ak (by
        show(if aQ y=n+2 then(t,decide (t<(aZ y).length))else _:Nat×Bool).1=t;rw[af5 pK])
       have Gg:aA (t<=1152921504606846976):=ak (HD.o.1 (y,t) (by simp)).2.2;have V4:aA (∀y' h q2,(y,t)::q'=(y',h)::q2->t<=h):=ak λy' h q2 e=>by injection e with e1 _;injection e1 with _ e3;rw[e3];exact af7 _
       obtain⟨j0,j1,j2,j3,j4⟩:=HI4.o.all;have fj3:=j4 3;obtain⟨w5,eH⟩:=ay (w4.setCell ⟨g8,3,none⟩ (.int .i64 t));have hg5:w4.grownBy w5 (some g8):=(by rw[<-eH];exact aK _ _ _);have OP:aA (ng w5 g8 il ir kx t):=ak (by rw[<-eH];exact HI4.o.times t);have qU:aA (bQ w5 E lo sb pa ⟨s1.L,s1.mid++X,some ((y,t)::q',.pr l r)⟩ DZ vL (.slice (some ⟨gc,0,none⟩) (q'.length+1) capc) vM):=ak (lU.o.other hg5 HI4.o mJ.o.1 mJ.o.2);have xY:aA (Gw n0 B most g F (λq=>lo<=q) E E W w5):=ak (xZ.o.trans (Gw.put xZ.o.st hg5 HI4.o (by decide) (by have:=V7.o;have:=HS.o.lt;have:=HS.o.low;have:=eG.o.1;omega) (by have:=V7.o;have:=HS.o.lt;have:=HS.o.low;omega)));clear hr4 pK hh hmc hg5 j0 j1 j2 j4;go_wp2_with fail
       refine Qc.o.mono ?_;rintro r0 w6 ⟨rfl,dH⟩;obtain rfl:w4=w6:=dH.symm;go_wp2_with fail
       clear eH e7 j3 fj3
      rotate_left
      all_goals
       have e11:∀w,Hg sb DZ g8 il ir kx t w->w.cell? ⟨sb,11,none⟩=some vM:=λw hw=>hw.1.at qU.o.c11;have i0:∀w,Hg sb DZ g8 il ir kx t w->w.cell? ⟨g8,0,none⟩=some (.int .i64 il):=λw hw=>hw.2.all.1;have i1:∀w,Hg sb DZ g8 il ir kx t w->w.cell? ⟨g8,1,none⟩=some (.int .i64 ir):=λw hw=>hw.2.all.2.1;have i2:∀w,Hg sb DZ g8 il ir kx t w->w.cell? ⟨g8,2,none⟩=some (.int .u64 kx):=λw hw=>hw.2.all.2.2.1;have i3:∀w,Hg sb DZ g8 il ir kx t w->w.cell? ⟨g8,3,none⟩=some (.int .i64 t):=λw hw=>hw.2.all.2.2.2.1;refine aU (Hg sb DZ g8 il ir kx t) ?_;obtain⟨we,bU⟩:=ay (w5.drew);have hbe:Below w5.heap.size w5 we:=(by rw[<-bU];exact(af6 _ _).drew);rw[bU];have kV:aA (Below w5.heap.size w5 we):=ak hbe;have S0:Hg sb DZ g8 il ir kx t we:=⟨(qU.o.below hbe).blk,OP.o.below hbe⟩;have zf:=ak S0;clear bU hbe;refine bJ 0 1 2 3 4 5 ?_;refine aT 6 λK hK=>?_;go_simp;have qI:Hg sb DZ g8 il ir kx t (we.alloc (.cells #[.int .i64 il,.int .i64 ir,.int .u64 kx,.int .i64 t] 254)):=⟨au ((af6 _ _).alloc (af7 _) _) S0.1,S0.2.below ((af6 _ _).alloc (af7 _) _)⟩;refine hK _ _ qI ?_;clear hK K qI S0;obtain⟨v7,w7,hrun,hs7,hgr,oI,EI⟩:=eB m_ (bG E) 249 (qU.o.mid.below kV.o) (⟨l,some r,t⟩:It) 1 (cs:=#[.int .i64 il,.int .i64 ir,.int .u64 kx,.int .i64 t]) (by
        show _=[vI (num E l),vI (num E r),vK (key l),vI t];rw[Pe.o.1,Pe.o.2.1,Pe.o.2.2.1]) (eF E _) (by have:=pY.o;dsimp only;omega) (by have:=kV.o.size;have:=qU.o.lt;have:=qU.o.low;omega)
       obtain⟨a7,m7,c7,rfl⟩:∃a m c,v7=.slice a m c:=(by obtain⟨a,c,h⟩:=hs7.len;exact⟨_,_,_,h⟩);have Lm:we.grownBy w7 vM.ownBlock:=aM (ahG we _ _) hgr;have hI:vD lo (jK E) we (s1.mid++X++[⟨l,some r,t⟩]) (.returned (.slice a7 m7 c7)) w7:=⟨_,rfl,hs7,bS.own (qU.o.mid.below kV.o) (af6 _ _) Lm (agl.2 rfl),oI⟩;obtain⟨a8,m8,c8,e8,fB,gM,fE⟩:=jy qU.o xY.o.st eG.o.1 kV.o hI (qU.o.mem.app (λi hi=>by
        rw[agl.1 hi];exact⟨Pe.o.2.2.2.1,λy e=>(by cases e;exact Pe.o.2.2.2.2),Gg.o⟩))
       simp only[aib,agn]at e8;obtain⟨rfl,rfl,rfl⟩:=e8;have FY:ng w7 g8 il ir kx t:=iZ Lm zf.o.2 mJ.o.2;have vE:=ak gM;have vF:=ak fE;have lW:aA (Hg sb DZ g8 il ir kx t w7):=ak ⟨fB,FY⟩;clear hI hs7 hgr oI EI gM fE fB FY Lm;refine aT 7 λK hK=>?_;simp[execOp,resolve,invoke,builtin,hrun,Result.andThen,Act.eval,Oper.uponIn];have hS:=lW.o;refine hK _ _ hS ?_;clear hK K hrun;refine tk2 8 9 ?_;refine aJ.cK 10 (by kernel_rfl) ?_;simp only[agr,agj];clear e11 i0 i1 i2 i3;have fB:=lW.o.1;have gM:=vE.o;have fE:=vF.o;have c11:w7.cell? ⟨sb,11,none⟩=some vM:=fB.at qU.o.c11;have f11:w7.frozen? ⟨sb,11,none⟩=false:=by
        unfold iC at fB;simp[World.frozen?,fB]
       obtain⟨w8,hw8⟩:=ay (w7.setCell ⟨sb,11,none⟩ (.slice a7 m7 c7));have hI8:ng w8 g8 il ir kx t:=(by rw[<-hw8];exact aI (aK w7 ⟨sb,11,none⟩ _) lW.o.2 mJ.o.1);rw[hw8]at gM fE;have Cw:=ak gM;have HGG:=ak (xY.o.trans fE);have V8:=ak hI8;clear fB gM fE hI8;gi_wp2_with fail
       clear hw8 c11 f11;go_wp2_with fail
       have i3:∀w,ng w g8 il ir kx t->w.cell? ⟨g8,3,none⟩=some (.int .i64 t):=λw hw=>hw.all.2.2.2.1;refine aU (λw=>ng w g8 il ir kx t) ?_;obtain⟨wf,hwf⟩:=ay (w8.drew);have hbf:Below w8.heap.size w8 wf:=(by rw[<-hwf];exact(af6 _ _).drew);rw[hwf];have S0:ng wf g8 il ir kx t:=V8.o.below hbf;have hWf:=Cw.o.below hbf;have dF:=hWf.right;dsimp only at dF;have V9:=HGG.o.trans (Gw.of HGG.o.st hbf);have HDR:=ak (gZ (t:=t) (n:=n) V9.st (fO eG.o.1 qU.o.low) (fV.o.kp V9.kp (by have:=eG.o.2;omega)) dF HD.o.1 V4.o HD.o.2.1 HD.o.2.2);have gW:=ak hWf;have HGF:=ak V9;clear hwf hbf hWf dF V9;have lw:IntKind.i64.wrap (n:Int)=(n:Int):=(by rw[agd];omega);refine bJ 0 1 2 3 4 5 ?_;refine tk1 6 ?_;refine aT 7 λK hK=>?_;go_simp
       try with_reducible refine⟨rfl,?_⟩
       refine agq.2 (HDR.o.mono ?_);rintro r0 w9 ⟨rfl,hE⟩;have hI9:ng w9 g8 il ir kx t:=by
        obtain⟨cs',v',he,hb,ho,hg⟩:=hE;refine hg.kp.cells _ (by decide) _ (λq=>?_) _ _ S0;rcases q with q1|q1|q1
        .exact mJ.o.1 q1
        .obtain⟨-,cur,hc⟩:=gW.o.right.r.path.blk q1;have hS0:wf.heap[g8]?=_:=S0;rw[hc]at hS0;injection hS0 with hS0;injection hS0 with _ hS0 _;exact absurd hS0 (by decide)
        have:=(aga.1 S0).1;omega
       have HE:=ak hE;refine hK _ _ hI9 ?_;clear hK K hE hI9 S0;refine aO ?_;obtain⟨SS,v9,sw,sD⟩:=gW.o.UC HGF.o.st.wf.wf HE.o;have hst:=HGS.o.two HIS.o aaI.o HKX.o zI.o;rw[Uu.o]at hst
      .have Cx:aA (StI n0 B most g F E W lo sb pa rb n kx s1 (bK n (bE true n t q)).length w9):=ak ⟨X++[⟨l,some r,t⟩],_,_,_,_,_,by rw[<-agf];exact sw,hst.1,HGF.o.trans sD,rfl,λh=>by simp at h⟩;have iI:=ak hst.2.1;clear i3 sw sD hst;go_wp2_with fail
       go_roundg (bK n (bE true n t q)).length
       case measure=>rw[tJ.o];exact iI.o
       case rel=>exact Cx.o
      have Cx:aA (StI n0 B most g F E W lo sb pa rb n kx s1 (bK n (bE true n t ((y,t)::q'))).length w9):=ak ⟨X++[⟨l,some r,t⟩],_,_,_,_,_,by rw[<-agf];exact sw,hst.1,HGF.o.trans sD,rfl,λh=>by simp at h⟩;have iI:=ak hst.2.1;clear i3 sw sD hst;go_wp2_with fail
      go_roundg (bK n (bE true n t ((y,t)::q'))).length
      case measure=>rw[tJ.o];exact iI.o
      case rel=>exact Cx.o
     have Oz:=ak hp2;have HD:=ak (And.intro d1 (And.intro d2 (And.intro d3 d4)));rcases kU (n+1) p with⟨h0,hno⟩|⟨y,h',q,hpq,pK,hh⟩
     case' _=>
      have jg:=ak (d9 hr hpl hno);clear hS hG Ta Ll hB hr d1 d2 d3 d4 hpl hx hix hkz hkx hsp hp2 h0 hno
     rotate_left
     case' _=>
      subst hpq;obtain⟨gb,cap,rfl,-,-,-,-⟩:=hr.top;have F6:h'=1:=by
       have q1:1<=h'/\h'<=(aZ y).length/\h'<=1152921504606846976:=d1 (y,h') (by simp);rcases qw HIS.o HTE.o hsp with⟨q2,-⟩|⟨l,r,q3,e3,-,q2⟩<;>omega
      subst F6;have jg:=ak (dw hr (by simpa using hpl) pK);have e7:=hr.jo.2.2.2.2.2.2.2.1;obtain⟨mq,vC⟩:=ay (q.length);rw[vC]at jg e7;replace e7:wr.cell? ⟨gb,mq*8+7,none⟩=some (.int .i64 1):=e7;clear hS hG Ta Ll hB hr d1 d2 d3 d4 hpl hx hix hkz hkx hsp hp2 pK hh vC
     rotate_left
     all_goals
      go_wp2_with fail
      refine jg.o.mono ?_;rintro r0 w1 ⟨rfl,hw1⟩;obtain rfl:wr=w1:=hw1.symm;go_wp2_with fail
     case' _=>
      clear c9 c10
     rotate_left
     case' _=>
      clear c9 c10 e7
     rotate_left
     all_goals
      have e11:∀w,iC sb cs w->w.cell? ⟨sb,11,none⟩=some vM:=λw hw=>hw.at HS.o.c11;have e4:∀w,iC sb cs w->w.cell? ⟨sb,9,none⟩=some (.int .i64 ix):=λw hw=>hw.at (by have:=HS.o.right.r.c3;rw[<-HX.o.1];exact this);refine aU (iC sb cs) ?_;obtain⟨we,bU⟩:=ay (wr.drew);have hbe:Below wr.heap.size wr we:=(by rw[<-bU];exact(af6 _ _).drew);rw[bU];have kV:aA (Below wr.heap.size wr we):=ak hbe;have S0:iC sb cs we:=(HS.o.below hbe).blk;clear bU hbe;refine bJ 0 1 2 3 4 5 ?_;refine bJ 6 7 8 9 10 11 ?_;refine aT 12 λK hK=>?_;go_simp;have qI:iC sb cs (we.alloc (.cells #[.int .i64 ix,.int .i64 0,.int .u64 kx,.int .i64 1] 254)):=au ((af6 _ _).alloc (af7 _) _) S0;refine hK _ _ qI ?_;clear hK K qI S0;obtain⟨v7,w7,hrun,hs7,hgr,oI,EI⟩:=eB m_ (bG E) 249 (HS.o.mid.below kV.o) (⟨x,none,1⟩:It) 1 (cs:=#[.int .i64 ix,.int .i64 0,.int .u64 kx,.int .i64 1]) (by
       show _=[vI (num E x),vI 0,vK (key x),vI 1];rw[HX.o.1,HX.o.2.1];rfl) (eF E _) (by have:=pY.o;dsimp only;omega) (by have:=kV.o.size;have:=HS.o.lt;have:=HS.o.low;omega)
      obtain⟨a7,m7,c7,rfl⟩:∃a m c,v7=.slice a m c:=(by obtain⟨a,c,h⟩:=hs7.len;exact⟨_,_,_,h⟩);have hI:vD lo (jK E) we (s1.mid++X++[⟨x,none,1⟩]) (.returned (.slice a7 m7 c7)) w7:=⟨_,rfl,hs7,bS.own (HS.o.mid.below kV.o) (af6 _ _) (aM (ahG we _ _) hgr) (agl.2 rfl),oI⟩;obtain⟨a8,m8,c8,e8,fB,gM,fE⟩:=jy HS.o HG.o.st eG.o.1 kV.o hI (HS.o.mem.app (λi hi=>by
       rw[agl.1 hi];exact⟨HX.o.2.2.1,λy e=>(by cases e),by show 1<=_;omega⟩))
      simp only[aib,agn]at e8;obtain⟨rfl,rfl,rfl⟩:=e8;have vE:=ak gM;have vF:=ak fE;have lW:=ak fB;clear hI hs7 hgr oI EI gM fE fB;refine aT 13 λK hK=>?_;simp[execOp,resolve,invoke,builtin,hrun,Result.andThen,Act.eval,Oper.uponIn];have hS:=lW.o;refine hK _ _ hS ?_;clear hK K hrun;refine tk2 14 15 ?_;refine aJ.cK 16 (by kernel_rfl) ?_;simp only[agr,agj];clear e11 e4;have fB:=lW.o;have gM:=vE.o;have fE:=vF.o;have c11:w7.cell? ⟨sb,11,none⟩=some vM:=fB.at HS.o.c11;have f11:w7.frozen? ⟨sb,11,none⟩=false:=by
       unfold iC at fB;simp[World.frozen?,fB]
      obtain⟨w8,hw8⟩:=ay (w7.setCell ⟨sb,11,none⟩ (.slice a7 m7 c7));rw[hw8]at gM fE;have dF:=gM.right;dsimp only at dF;have HDR:=ak (gZ (t:=1) (n:=n) fE.st (fO eG.o.1 HS.o.low) (fV.o.kp (HG.o.trans fE).kp (by have:=eG.o.2;omega)) dF HD.o.1 HD.o.2.1 HD.o.2.2.1 HD.o.2.2.2);have Cw:=ak gM;have mJ:=ak (HG.o.trans fE);clear fB gM fE dF;gi_wp2_with fail
      clear hw8 c11 f11;go_wp2_with fail
      refine HDR.o.mono ?_;rintro r w9 ⟨rfl,hE⟩;obtain⟨SS,v9,sw,sD⟩:=Cw.o.UC mJ.o.st.wf.wf hE;have hst:=HGS.o.one HIS.o HTE.o HKX.o Oz.o
     .have Cx:aA (StI n0 B most g F E W lo sb pa rb n kx s1 (bK n (bE true n 1 p)).length w9):=ak ⟨X++[⟨x,none,1⟩],_,_,_,_,_,by rw[<-agf];exact sw,hst.1,mJ.o.trans sD,rfl,λh=>(by simp at h)⟩;have iI:=ak hst.2;clear hE sw sD hst;go_wp2_with fail
      go_roundg (bK n (bE true n 1 p)).length
      case measure=>rw[tJ.o];exact iI.o
      case rel=>exact Cx.o
     have Cx:aA (StI n0 B most g F E W lo sb pa rb n kx s1 (bK n (bE true n 1 ((y,1)::q))).length w9):=ak ⟨X++[⟨x,none,1⟩],_,_,_,_,_,by rw[<-agf];exact sw,hst.1,mJ.o.trans sD,rfl,λh=>(by simp at h)⟩;have iI:=ak hst.2;clear hE sw sD hst;go_wp2_with fail
     go_roundg (bK n (bE true n 1 ((y,1)::q))).length
     case measure=>rw[tJ.o];exact iI.o
     case rel=>exact Cx.o
    have hkn:¬(kz:Int)=(kx:Int):=(by omega);have hkn':((kz:Int)==(kx:Int))=false:=agh.2 hkn;have HR:aA (∃s',S_ rb n s1 s'/\kC n0 B most g F E W lo sb pa s' E wr):=ak ⟨_,.inr ⟨kx,X,some (p,x),rfl,Ta,λe=>(by
     have h9:=Ll e;rw[Ag.o]at h9;injection h9 with h9;injection h9 with _ h9;exact hkk (by rw[<-hkz,h9];exact HX0.o.2.1)),λp' x' e=>(by
     injection e with e;injection e with _ e2;rw[<-e2,hkz];exact hkk)⟩,_,_,_,_,hS,hG⟩
    clear hS Ta hG Ll hmm hkk hx hix hkz hsp;go_wp2_with fail
    go_end0;exact⟨rfl,HR.o⟩
  clear hK1;obtain⟨Cz,hr0,hpl,hmx,Jl⟩:=DY.o;have hS:=JZ.o;by_cases hgo:gD (n+1) p0=1\/∃i,s1.mid.getLast?=some i/\key i.x=kx
  .obtain⟨m0,hm0⟩:=ay ((bK n s1.R).length);have EL:aA (StI n0 B most g F E W lo sb pa rb n kx s1 m0 W):=ak ⟨[],s1.R,cs,vL,vR,vM,by rw[agi];exact hS,GS.begin HVV.o,Gw.refl HP.o,hm0.symm,λ_=>rfl⟩;by_cases hp1:gD (n+1) p0=1
   .obtain⟨l,r,q,hpq,pK⟩:∃l r q,p0=(.pr l r,1)::q/\aQ (.pr l r)=n+1:=by
     rcases Jl with⟨q,-⟩|⟨l,r,q,e,hl,-⟩
     .omega
     rw[hp1]at e;exact⟨l,r,q,e,hl⟩
    subst hpq;obtain⟨gb,cap,Lp,-,-,-,-⟩:=hr0.top;rw[Lp]at hr0;have jg:=ak (dw hr0 (by simpa using hpl) pK);have e7:=hr0.jo.2.2.2.2.2.2.2.1;obtain⟨mq,vC⟩:=ay (q.length);rw[vC]at jg e7;replace e7:W.cell? ⟨gb,mq*8+7,none⟩=some (.int .i64 1):=e7;clear hS Cz hr0 hpl hmx hgo hp1 Jl pK Lp vC hm0 c11;go_wp2_with fail
    refine jg.o.mono ?_;rintro r0 w1 ⟨rfl,hw1⟩;obtain rfl:W=w1:=hw1.symm;go_wp2_with fail
    clear c9 c10 e7 hi0 Gf;apply REST;exact EL.o
   obtain⟨i,hil,hik⟩:∃i,s1.mid.getLast?=some i/\key i.x=kx:=by
    rcases hgo with q|q
    .exact absurd q hp1
    exact q
   obtain⟨l,hmid⟩:=ajQ.1 hil;obtain⟨gm,Lr,oq,-,hat⟩:=hS.xI (by rw[hmid];simp);obtain⟨ml,kM⟩:=ay (l.length);have hln:s1.mid.length=ml+1:=by rw[hmid,af8,kM];rfl
   have hgi:s1.mid[ml]?=some i:=by rw[hmid,agN (by omega),kM];simp
   obtain⟨ki,hki⟩:=ay (key i.x);have ek:W.cell? ⟨gm,ml*4+2,none⟩=some (.int .u64 ki):=by rw[<-hki];exact(hat W (af6 _ _) ml i hgi).2.2.1
   rw[oq,hln]at c11;have afe:ml<=1000000:=by omega
   have hkk:kx=ki:=by rw[<-hki,hik]
   obtain rfl:=hkk;rcases Jl with⟨hp0,hno⟩|⟨l',r,q,hpq,pK,hp2⟩
   .have jg:=ak (d9 hr0 hpl hno);clear hS Cz hr0 hpl hmx hgo hp1 hmid kM hln hgi hki oq hat hik hil hp0 hno hm0;go_wp2_with fail
    refine jg.o.mono ?_;rintro r0 w1 ⟨rfl,hw1⟩;obtain rfl:W=w1:=hw1.symm;go_wp2_with fail
    clear c9 c10 hi0 Gf c11 ek;apply REST;exact EL.o
   have hp3:gD (n+1) p0=2:=by omega
   rw[hp3]at hpq;subst hpq;obtain⟨gb,cap,Lp,-,-,-,-⟩:=hr0.top;rw[Lp]at hr0;have jg:=ak (dw hr0 (by simpa using hpl) pK);have e7:=hr0.jo.2.2.2.2.2.2.2.1;obtain⟨mq,vC⟩:=ay (q.length);rw[vC]at jg e7;replace e7:W.cell? ⟨gb,mq*8+7,none⟩=some (.int .i64 2):=e7;clear hS Cz hr0 hpl hmx hgo hp1 hmid kM hln hgi hki oq hat hik hil hp2 hp3 hm0 Lp pK vC;go_wp2_with fail
   refine jg.o.mono ?_;rintro r0 w1 ⟨rfl,hw1⟩;obtain rfl:W=w1:=hw1.symm;go_wp2_with fail
   clear c9 c10 e7 hi0 Gf c11 ek;apply REST;exact EL.o
  have ZU:aA (∀w,Below W.heap.size W w->∃s',S_ rb n s1 s'/\kC n0 B most g F E W lo sb pa s' E w):=ak λw hb=>⟨s1,.inl ⟨rfl,λp x e=>by
   rw[Ag.o]at e;injection e with e;injection e with e1 e2;subst e1 e2;refine⟨?_,λi hi q=>hgo (.inr ⟨i,hi,by rw[q,HX0.o.2.1]⟩)⟩;rcases Jl with⟨q,-⟩|⟨l,r,q,-,-,q2⟩
   .exact .inl q
   rcases q2 with q2|q2
   .exact absurd (.inl q2) hgo
   exact .inr q2⟩,_,_,_,_,JZ.o.below hb,Gw.of HP.o hb⟩
  have HR:=ak (ZU.o W (af6 _ _));have hmk:s1.mid=[]\/∃l i,s1.mid=l++[i]/\key i.x≠kx:=by
   rcases agR s1.mid with q|⟨l,i,q⟩
   .exact .inl q
   rw[agO]at q;exact .inr ⟨l,i,q,λe=>hgo (.inr ⟨i,by rw[q,ahy],e⟩)⟩
  rcases Jl with⟨hp0,hno⟩|⟨l',r,q,hpq,pK,hp2⟩
  .have jg:=ak (d9 hr0 hpl hno);rcases hmk with hmid|⟨l,i,hmid,hik⟩
   case' _=>
    obtain⟨a,Lr,oq⟩:=hS.Gc hmid;rw[oq]at c11;clear hS Cz hr0 hpl hmx hgo hmid oq hp0 hno ZU
   rotate_left
   case' _=>
    obtain⟨gm,Lr,oq,-,hat⟩:=hS.xI (by rw[hmid];simp);obtain⟨ml,kM⟩:=ay (l.length);have hln:s1.mid.length=ml+1:=(by rw[hmid,af8,kM];rfl);have hgi:s1.mid[ml]?=some i:=(by rw[hmid,agN (by omega),kM];simp);obtain⟨ki,hki⟩:=ay (key i.x);have ek:W.cell? ⟨gm,ml*4+2,none⟩=some (.int .u64 ki):=(by rw[<-hki];exact(hat W (af6 _ _) ml i hgi).2.2.1);rw[oq,hln]at c11;have afe:ml<=1000000:=(by omega);have hkk:¬(ki:Int)=(kx:Int):=(by rw[<-hki];omega);have hkk':((ki:Int) !=(kx:Int))=true:=(by simpa using hkk);clear hS Cz hr0 hpl hmx hgo hmid kM hln hgi hki oq hat hik hp0 hno ZU
   all_goals
    go_wp2_with fail
    refine jg.o.mono ?_;rintro r0 w1 ⟨rfl,hw1⟩;obtain rfl:W=w1:=hw1.symm;go_wp2_with fail
    exact af_ (v:=.tuple #[]) (by simp[results,Tryz.results182,go_sem]) rfl ⟨rfl,HR.o⟩
  have hp3:gD (n+1) p0=2:=by
   rcases hp2 with q2|q2
   .exact absurd (.inl q2) hgo
   exact q2
  rw[hp3]at hpq;subst hpq;obtain⟨gb,cap,Lp,-,-,-,-⟩:=hr0.top;rw[Lp]at hr0;have jg:=ak (dw hr0 (by simpa using hpl) pK);have e7:=hr0.jo.2.2.2.2.2.2.2.1;obtain⟨mq,vC⟩:=ay (q.length);rw[vC]at jg e7;replace e7:W.cell? ⟨gb,mq*8+7,none⟩=some (.int .i64 2):=e7;rcases hmk with hmid|⟨l,i,hmid,hik⟩
  case' _=>
   obtain⟨a,Lr,oq⟩:=hS.Gc hmid;rw[oq]at c11;clear hS Cz hr0 hpl hmx hgo hmid oq hp2 hp3 Lp pK vC ZU
  rotate_left
  case' _=>
   obtain⟨gm,Lr,oq,-,hat⟩:=hS.xI (by rw[hmid];simp);obtain⟨ml,kM⟩:=ay (l.length);have hln:s1.mid.length=ml+1:=by rw[hmid,af8,kM];rfl
   have hgi:s1.mid[ml]?=some i:=by rw[hmid,agN (by omega),kM];simp
   obtain⟨ki,hki⟩:=ay (key i.x);have ek:W.cell? ⟨gm,ml*4+2,none⟩=some (.int .u64 ki):=by rw[<-hki];exact(hat W (af6 _ _) ml i hgi).2.2.1
   rw[oq,hln]at c11;have afe:ml<=1000000:=by omega
   have hkk:¬(ki:Int)=(kx:Int):=by rw[<-hki];omega
   have hkk':((ki:Int) !=(kx:Int))=true:=by simpa using hkk
   clear hS Cz hr0 hpl hmx hgo hmid kM hln hgi hki oq hat hik hp2 hp3 Lp pK vC ZU
  all_goals
   go_wp2_with fail
   refine jg.o.mono ?_;rintro r0 w1 ⟨rfl,hw1⟩;obtain rfl:W=w1:=hw1.symm;go_wp2_with fail
   exact af_ (v:=.tuple #[]) (by simp[results,Tryz.results182,go_sem]) rfl ⟨rfl,HR.o⟩
end M
end
end Go.Proofs.YtgbhohfabhilgaaGreatDoor
