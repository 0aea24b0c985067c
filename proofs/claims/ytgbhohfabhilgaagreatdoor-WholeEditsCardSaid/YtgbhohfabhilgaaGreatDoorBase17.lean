import Derived.Test.YtgbhohfabhilgaaGreatDoorBase16
set_option maxRecDepth 100000
set_option maxHeartbeats 8000000
set_option linter.unusedVariables false
set_option linter.unusedSimpArgs false
namespace Go.Proofs.YtgbhohfabhilgaaGreatDoor
section
open Go.RowKit Go.Lib
namespace M
attribute [local go_sem] Oper.semAt_some
variable{E:List En}{l:List Nat}{L:List Sp}{B C b0 dG g gb most n n0 x:Nat}{s:Sp}{W:World}
def Ok1(E:List En)(s:Sp):Prop:=s.n=0\/OkS E s
def bnd(C:Nat)(L:List Sp):Prop:=∀(k:Nat) (s:Sp),L[k]?=some s->k+1+2*s.id<=C
theorem bnd.pop(h:bnd C (L++[s])):bnd C L:=λk x hx=>h k x (by rw[agV (agA.1 hx).1];exact hx)
theorem bnd.push{M:List Sp}(h:bnd C (L++[s]))(hM:∀x∈M,x.id<s.id)(hl:M.length<=3):bnd C (L++M):=λk x hx=>by
 by_cases hk:k<L.length
 .rw[agV hk]at hx
  exact h.pop k x hx
 .rw[agN (by omega)]at hx
  have h1:=h L.length s (by rw[agN (af7 _)];simp)
  have h2:=hM x (agE hx)
  have h3:=(agA.1 hx).1
  omega
theorem bnd.len(h:bnd C L):L.length<=C:=by
 rcases agR L with rfl|⟨L',s,rfl⟩
 .simp
 .have:=h L'.length s (by rw[agO,agN (af7 _)];simp);rw[agO,af8,agk];omega
theorem EW(h:s.n=0\/s.times=0):nN E s=[]:=by
 unfold nN;rcases h with h|h
 .rw[h,ah5];simp[rep]
 .rw[h];rfl
theorem LV(h:OkS E s)(hn:s.n=(txt E s.id).length):nN E s=rep s.times (txt E s.id):=by
 unfold nN
 have h0:s.dG=0:=by have:=h.rng;omega
 rw[h0,agj,agI (by omega)]
theorem C9(E:List En)(L M:List Sp):den E (L++M)=den E M++den E L:=by
 induction L with
 |nil=>show den E M=den E M++[];rw[agi]
 |cons a L ih=>show den E (L++M)++nN E a=den E M++(den E L++nN E a);rw[ih,agf]
def NJ(W:World)(E:List En)(I:List Nat->World->Prop)(tot:List Nat)(k:Nat)(tv:Value)(wr:World):Prop:=
 ∃(L:List Sp) (acc:List Nat),mu L=k/\M7 W.heap.size wr tv L/\I acc wr/\(∀s∈L,Ok1 E s)/\bnd (3+2*E.length) L/\acc++den E L=tot/\W.heap.size<=wr.heap.size
theorem PK(hwf:Wf E)(hE:E.length<=1048576)(F:FuncId)(hcf:∀(args:Array Value) (w:World),(callFunc F args).run Tryz.prog w=.ok (.enter F args) w)(c1 c2:Value)(I:List Nat->World->Prop){id:Nat}(LW:List Nat)
    (hSt:∀acc w,I acc w->aW n0 w B most E) (hIk:∀acc w w',I acc w->vv W.heap.size w w'->I acc w')
    (hV:∀acc w x m,I acc w->0<x->x<=E.length->0<m->acc.length+m*(txt E x).length<=LW.length+n->Calls Tryz.prog F #[.int .i64 (x:Nat),.int .i64 (m:Nat),c1,c2] w λe w'=>e=.returned .nilIface/\I (acc++rep m (txt E x)) w'/\jd 260 w w'/\w.heap.size<=w'.heap.size)
    (hI:I LW W) (hid:id<=E.length) (hr:dG+n<=(txt E id).length):
    Calls Tryz.prog 118 #[.pointer (some ⟨B,0,none⟩),.int .i64 id,.int .i64 dG,.int .i64 n,.func (.func F) #[] #[c1,c2]] W λe w'=>e=.returned .nilIface/\I (LW++((txt E id).drop dG).take n) w':=by
 have HF:∀f,Fence.wide.fn f:=λ_=>trivial;have gW:=ak hwf;have HST:=ak hSt;have HIK:=ak hIk;have HV:=ak hV;obtain⟨tot,htot⟩:=ay (LW++((txt E id).drop dG).take n);have htl:tot.length=LW.length+n:=by rw[<-htot,af8,agB,agp];omega
 have hlen:=(hwf.len hid).2;rw[htot];obtain⟨W1,hW1⟩:=ay (W.alloc (.cells #[.int .i64 id,.int .i64 dG,.int .i64 n,.int .i64 1] 260));have l1:M7 W.heap.size W1 (.slice (some ⟨W.heap.size,0,none⟩) 1 1) [⟨id,dG,n,1⟩]:=by rw[<-hW1];exact aP.lit (l:=[⟨id,dG,n,1⟩]) dh rfl (by simp;unfold maxLen;omega)
 have b1:Below W.heap.size W W1:=by rw[<-hW1];exact(af6 _ _).alloc (af7 _) _
 have HP:aA (NJ W E I tot (mu [⟨id,dG,n,1⟩]) (.slice (some ⟨W.heap.size,0,none⟩) 1 1) W1):=ak ⟨[⟨id,dG,n,1⟩],LW,rfl,l1,hIk _ _ _ hI (vv.of b1 (af7 _)),by
  intro s hs;simp only[agl]at hs;subst hs;rcases agP n with h0|h0
  .exact .inl h0
  .refine .inr ⟨?_,hid,hr,λ_=>af7 _⟩;rcases agP id with h1|h1
   .subst h1;rw[cZ]at hr;simp at hr;omega
   exact h1,by
  intro k s hs;cases k with
  |zero=>simp at hs;subst hs;dsimp only;omega
  |succ k=>simp at hs,by rw[<-htot];show LW++([]++nN E ⟨id,dG,n,1⟩)=_;unfold nN;rw[iB,agH],b1.size⟩
 have KZ:=ak htl;clear hwf hSt hIk hV htot l1 b1 hI htl hr hid hlen;go_enter Tryz.func118,Tryz.ntmps118;go_wp2_with fail
 clear hW1;go_loopg [11] (mu [⟨id,dG,n,1⟩]) (λk tv wr=>NJ W E I tot k tv wr)
 case atStart=>exact HP.o
 clear HP;obtain⟨L,acc,hk,hS,hI,RO,hBd,Ac,hsz⟩:=hrel;rcases agR L with rfl|⟨L',s,rfl⟩
 .obtain⟨ta,tc,rfl⟩:=hS.len;have hD:acc=tot:=by rw[<-Ac];simp[den]
  have HI:=ak hI;rw[hD]at HI;clear hk hS hI RO hBd Ac hsz hD;go_wp2_with fail
  go_ret;exact⟨rfl,HI.o⟩
 rw[agO]at hk hS RO hBd Ac;obtain⟨ta,tc,rfl⟩:=hS.len;rw[af8,agk]at hS⊢;obtain⟨j,hj⟩:=ay (L'.length);rw[hj]at hS⊢;have hjb:j<=4000000:=by have:=hBd.len;rw[af8,agk]at this;omega
 have hsh:=hS.shape;rw[af8,agk,hj]at hsh;obtain⟨g,rfl,hjc⟩:∃g,ta=some ⟨g,0,none⟩/\j+1<=tc:=by
  rcases hsh with⟨-,h⟩|⟨g,cap,h,h1,h2⟩
  .simp at h
  simp only[agn]at h;obtain⟨rfl,-,rfl⟩:=h;exact⟨g,rfl,h1⟩
 have hjn:j<(L'++[s]).length:=by simp[hj]
 have hsj:(L'++[s])[j]=s:=by simp[<-hj]
 have q0:=aP.cell dh hS hjn (j:=0) (by omega);have q1:=aP.cell dh hS hjn (j:=1) (by omega);have q2:=aP.cell dh hS hjn (j:=2) (by omega);have q3:=aP.cell dh hS hjn (j:=3) (by omega);rw[hsj]at q0 q1 q2 q3;replace q0:wr.cell? ⟨g,j*4,none⟩=some (.int .i64 s.id):=q0;replace q1:wr.cell? ⟨g,j*4+1,none⟩=some (.int .i64 s.dG):=q1;replace q2:wr.cell? ⟨g,j*4+2,none⟩=some (.int .i64 s.n):=q2;replace q3:wr.cell? ⟨g,j*4+3,none⟩=some (.int .i64 s.times):=q3;have HS:=ak (aP.pop dh hS hj);have mF:=ak RO;have I5:=ak hBd;have iF:=ak hsz;have HJ:=ak hj;have P7:=ak (RO s (by simp));have hk2:mu L'+4^s.id=mu (L'++[s]):=by rw[yR];rfl
 have Z0:=ak (hk2.trans hk);clear hk2;rw[RJ]at Ac;have FV:=ak Ac;obtain⟨wz,w1,hz1,hs1,kt,b1,⟨p0,p1,p2,p3⟩,f0,f1,f2,f3⟩:=acN wr s;obtain⟨x0,x1,x2,x3⟩:=kt.cells;have HI1:=ak (HIK.o _ _ _ hI (vv.of b1 hsz));have B1:=ak b1;have KT:=ak kt;have hj1:(j:Int)<((j+1:Nat):Int):=by omega
 have hj2:(j:Int)<=(tc:Int):=by omega
 have hj3:j<=tc:=by omega
 have hj4:IntKind.i64.wrap (((j+1:Nat):Int)-1)=(j:Int):=by rw[agd];omega
 clear hk hS hI RO hBd Ac hsz hsh hjn hsj hj b1 kt;have j_:=ak (aP.below HS.o B1.o);by_cases hn0:s.n=0
 .have Y5:aA (s.n=0\/s.times=0):=ak (.inl hn0);have hnb:((s.n:Int)==0)=true:=by simp[hn0]
  clear hn0;go_wp2_with fail
  go_roundg (mu L')
  case measure=>have:=Z0.o;have:0<4^s.id:=ajM (by omega);omega
  case rel=>exact⟨L',acc,rfl,j_.o,HI1.o,λx hx=>mF.o x (ahd _ hx),I5.o.pop,by have h:=FV.o;rw[EW Y5.o,agH]at h;exact h,af9 iF.o B1.o.size⟩
 have hnb:((s.n:Int)==0)=false:=by simp[hn0]
 by_cases ht0:s.times=0
 .have Y5:aA (s.n=0\/s.times=0):=ak (.inr ht0);have htb:((s.times:Int)==0)=true:=by simp[ht0]
  clear hn0 ht0;go_wp2_with fail
  go_roundg (mu L')
  case measure=>have:=Z0.o;have:0<4^s.id:=ajM (by omega);omega
  case rel=>exact⟨L',acc,rfl,j_.o,HI1.o,λx hx=>mF.o x (ahd _ hx),I5.o.pop,by have h:=FV.o;rw[EW Y5.o,agH]at h;exact h,af9 iF.o B1.o.size⟩
 have htb:((s.times:Int)==0)=false:=by simp[ht0]
 obtain⟨hsp,hsl,hsr,afJ⟩:OkS E s:=by
  rcases P7.o with h|h
  .exact absurd h hn0
  exact h
 have C_:aA (OkS E s):=ak ⟨hsp,hsl,hsr,afJ⟩;obtain⟨hw,hlen⟩:=gW.o.len hsl;have HW:aA (∀w,Below w1.heap.size w1 w->Calls Tryz.prog 36 #[.pointer (some ⟨B,0,none⟩),.int .i64 s.id] w λe w'=>e=.returned (.tuple #[wK (wt (txt E s.id)),.nilIface])/\Below w.heap.size w w'):=ak (λw hw'=>by
  have:=dS ((HST.o _ _ HI1.o).below hw') hsl hE;rwa [hw]at this)
 obtain⟨u,hu⟩:=ay (wt (txt E s.id));have EX:u.len=(txt E s.id).length:=by rw[<-hu];rfl
 rw[hu]at HW;unfold wK at HW;have ut:=ak EX;have gJ:=ak hn0;have HT0:=ak ht0;have hnu:s.n<=u.len:=by omega
 rw[<-EX]at hlen;clear hw hu EX hsp hsr afJ ht0 hn0;by_cases hwh:s.n=u.len
 .have hwb:((s.n:Int)==(u.len:Int))=true:=by simp[hwh]
  have HDW:aA (nN E s=rep s.times (txt E s.id)):=ak (LV C_.o (by rw[hwh];exact ut.o));have HVS:aA (∀w,I acc w->Calls Tryz.prog F #[.int .i64 (s.id:Nat),.int .i64 (s.times:Nat),c1,c2] w λe w'=>e=.returned .nilIface/\I (acc++rep s.times (txt E s.id)) w'/\jd 260 w w'/\w.heap.size<=w'.heap.size):=ak (λw hI=>HV.o acc w s.id s.times hI C_.o.pos C_.o.le (by have:=HT0.o;omega) (by
   have h1:=agC List.length FV.o;rw[HDW.o,af8,af8,fQ,KZ.o]at h1;omega))
  clear hwh;go_wp2_with fail
  refine(HW.o w1 (af6 _ _)).mono ?_;rintro e w2 ⟨rfl,b2⟩;obtain⟨wz2,w3,hz2,hs2,kw,bw,⟨r0,r1,r2,r3,r4,r5⟩,e0,e1,e2,e3,e4,e5⟩:=kE w2 u;obtain⟨y0,y1,y2,y3,y4,y5⟩:=kw.cells;have b3:=Below.after b2 bw;obtain⟨z0,z1,z2,z3⟩:=IX.cells (au b3 KT.o);have HI3:=ak (HIK.o _ _ _ HI1.o (vv.of b3 (af9 iF.o B1.o.size)));have AO:=ak (aP.below j_.o b3);have HZ3:aA (W.heap.size<=w3.heap.size):=ak (af9 (af9 iF.o B1.o.size) b3.size);clear kw bw b2 b3;go_wp2_with fail
  refine(HVS.o w3 HI3.o).mono ?_;rintro e w4 ⟨rfl,i4,k4,g4⟩;have HI4:=ak i4;have lU:=ak (aP.keep AO.o k4);have HZ4:aA (W.heap.size<=w4.heap.size):=ak (af9 HZ3.o g4);clear i4 k4 g4 hz1 hs1 hz2 hs2 p0 p1 p2 p3 f0 f1 f2 f3 x0 x1 x2 x3 r0 r1 r2 r3 r4 r5 e0 e1 e2 e3 e4 e5 y0 y1 y2 y3 y4 y5 z0 z1 z2 z3 q0 q1 q2 q3;go_wp2_with fail
  go_roundg (mu L')
  case measure=>have:=Z0.o;have:0<4^s.id:=ajM (by omega);omega
  case rel=>exact⟨L',acc++rep s.times (txt E s.id),rfl,lU.o,HI4.o,λx hx=>mF.o x (ahd _ hx),I5.o.pop,by have h:=FV.o;rw[HDW.o]at h;rw[agf];exact h,HZ4.o⟩
 have hwb:((s.n:Int)==(u.len:Int))=false:=by simp;omega
 have hlt:s.n<(txt E s.id).length:=by have:=ut.o;omega
 have Xy:=ak (gW.o.rule s.id C_.o.pos C_.o.le).cases;have NK:=ak (OI gW.o C_.o (by have:=gJ.o;omega) (by have:=HT0.o;omega) hlt);have pX:aA (∀w,Below w1.heap.size w1 w->Calls Tryz.prog 19 #[.pointer (some ⟨B,0,none⟩),.int .i64 s.id] w λe w'=>e=.returned (.tuple #[qN (aF E s.id).ru,.nilIface])/\Below w.heap.size w w'):=ak (λw hw'=>iK ((HST.o _ _ HI1.o).below hw') C_.o.pos hsl hE);obtain⟨r,hr⟩:=ay ((aF E s.id).ru);rw[hr]at pX NK Xy;unfold qN at pX;have hk:r.kind=2\/r.kind=3:=by
  rcases Xy.o with⟨-,-,-,-,-,g⟩|⟨a,-⟩|⟨a,-⟩
  .rw[g]at hlt;have:=gJ.o;simp at hlt;omega
  .exact .inl a
  exact .inr a
 have hll:0<r.left/\r.left<s.id:=by
  rcases Xy.o with⟨-,-,-,-,-,g⟩|⟨-,-,c,d,-⟩|⟨-,-,c,d,-⟩
  .rw[g]at hlt;have:=gJ.o;simp at hlt;omega
  .exact⟨c,d⟩
  exact⟨c,d⟩
 obtain⟨hw2,TS⟩:=gW.o.len (show r.left<=E.length by omega);have hpos:0<(txt E r.left).length:=(gW.o.get r.left hll.1 (by omega)).2.2.1;have HWL:aA (∀w,Below w1.heap.size w1 w->Calls Tryz.prog 36 #[.pointer (some ⟨B,0,none⟩),.int .i64 r.left] w λe w'=>e=.returned (.tuple #[wK (wt (txt E r.left)),.nilIface])/\Below w.heap.size w w'):=ak (λw hw=>by
  have:=dS ((HST.o _ _ HI1.o).below hw) (i:=r.left) (by omega) hE;rwa [hw2]at this)
 have AL:aA (r.kind=3->(txt E r.left).length<s.dG % (txt E r.left).length+s.n->((txt E r.left).length-s.dG % (txt E r.left).length) % (txt E r.left).length<=s.n):=ak (λh3 h4=>by
  rcases Xy.o with⟨a,-⟩|⟨a,-⟩|⟨a,-,-,-,-,-,-,g⟩
  .omega
  .omega
  have hR:=C_.o.rng;rw[g,fQ]at hR;exact(M3 _ _ _ _ hpos hR h4).2)
 obtain⟨ul,abf⟩:=ay (wt (txt E r.left));have afK:ul.len=(txt E r.left).length:=by rw[<-abf];rfl
 rw[abf]at HWL;unfold wK at HWL;rw[<-afK]at NK AL hpos TS;have NG:s.dG<=1152921504606846976:=by have:=C_.o.rng;have:=ut.o;omega
 have afL:s.n<=1152921504606846976:=by omega
 clear hwh hr hw2 abf afK hlt hll;go_wp2_with fail
 refine(HW.o w1 (af6 _ _)).mono ?_;rintro e w2 ⟨rfl,b2⟩;obtain⟨wz2,w3,hz2,hs2,kw,bw,⟨r0,r1,r2,r3,r4,r5⟩,e0,e1,e2,e3,e4,e5⟩:=kE w2 u;obtain⟨y0,y1,y2,y3,y4,y5⟩:=kw.cells;have b3:=Below.after b2 bw;obtain⟨z0,z1,z2,z3⟩:=IX.cells (au b3 KT.o);have HB3:=ak b3;clear kw bw b2 b3;go_wp2_with fail
 refine(pX.o w3 HB3.o).mono ?_;rintro e w4 ⟨rfl,b4⟩;clear hz2 hs2 r0 r1 r2 r3 r4 r5 e0 e1 e2 e3 e4 e5 y0 y1 y2 y3 y4 y5 z0 z1 z2 z3;obtain⟨wz5,w5,hz5,hs5,kr,br,⟨r0,r1,r2,r3,r4⟩,e0,e1,e2,e3,e4⟩:=pF w4 r;obtain⟨y0,y1,y2,y3,y4⟩:=kr.cells;have mG:=ak (Below.after HB3.o (Below.after b4 br));have KR:=ak kr;clear kr br b4;go_wp2_with fail
 refine(HWL.o w5 mG.o).mono ?_;rintro e w6 ⟨rfl,b6⟩;clear hz5 hs5 r0 r1 r2 r3 r4 e0 e1 e2 e3 e4 y0 y1 y2 y3 y4;obtain⟨wz7,w7,hz6,hs6,kw,bw,⟨o0,o1,o2,o3,o4,o5⟩,i0,i1,i2,i3,i4,i5⟩:=kE w6 ul;obtain⟨m0,m1,m2,m3,m4,m5⟩:=kw.cells;have b7:=Below.after b6 bw;obtain⟨l0,l1,l2,l3,l4⟩:=eP.cells (au b7 KR.o);obtain⟨t0,t1,t2,t3⟩:=IX.cells (au (Below.after mG.o b7) KT.o);have Vu:=ak (Below.after mG.o b7);have DN:=ak (aP.below j_.o Vu.o);have HZ7:aA (W.heap.size<=w7.heap.size):=ak (af9 (af9 iF.o B1.o.size) Vu.o.size);have HI7:=ak (HIK.o _ _ _ HI1.o (vv.of Vu.o (af9 iF.o B1.o.size)));have HL':aA (L'.length<=4000000):=ak (by have:=HJ.o;omega);clear kw bw b6 b7;rcases hk with hk2|hk3
 case' _=>
  have hkb:((r.kind:Int)==2)=true:=by simp[hk2]
  have nY:=ak hk2;clear hk2;go_wp2_with fail
  refine(OL DN.o HZ7.o r s TS NG afL HL'.o).mono ?_;rintro e w8 ⟨v8,rfl,s8,kp8⟩;have Tp:aA (M7 W.heap.size w8 v8 (L'++kN r ul.len s)):=ak (by unfold kN;rw[af5 nY.o];exact s8)
 rotate_left
 case' _=>
  have hkb:((r.kind:Int)==2)=false:=by simp[hk3]
  have qH:=ak hk3;clear hk3;go_wp2_with fail
  refine(K8 DN.o HZ7.o r s hpos TS NG afL (AL.o qH.o) HL'.o).mono ?_;rintro e w8 ⟨v8,rfl,s8,kp8⟩;have Tp:aA (M7 W.heap.size w8 v8 (L'++kN r ul.len s)):=ak (by unfold kN;rw[af4 (by have:=qH.o;omega)];exact s8)
 all_goals
  have V8:=ak (HIK.o _ _ _ HI7.o kp8);have HZ8:aA (W.heap.size<=w8.heap.size):=ak (af9 HZ7.o kp8.below.size);clear s8 kp8 hz1 hs1 p0 p1 p2 p3 f0 f1 f2 f3 x0 x1 x2 x3 q0 q1 q2 q3;clear hz6 hs6 o0 o1 o2 o3 o4 o5 i0 i1 i2 i3 i4 i5 t0 t1 t2 t3 l0 l1 l2 l3 l4 m0 m1 m2 m3 m4 m5;go_wp2_with fail
  go_roundg (mu (L'++kN r ul.len s))
  case measure=>have h1:=Z0.o;have h2:=IU (λx hx=>(NK.o.1 x hx).2) NK.o.2.1 C_.o.pos;rw[yR];omega
  case rel=>exact⟨L'++kN r ul.len s,acc,rfl,Tp.o,V8.o,by
   intro x hx;rcases ags.1 hx with h|h
   .exact mF.o x (ahd _ h)
   exact .inr (NK.o.1 x h).1,I5.o.push (λx hx=>(NK.o.1 x hx).2) NK.o.2.1,by rw[C9,NK.o.2.2];exact FV.o,HZ8.o⟩
theorem PM(W:World){f l:Nat}(hl:l<=1152921504606846976)(h:f+n<=l):Calls Tryz.prog 117 #[.int .i64 f,.int .i64 n,.int .i64 l] W λe w'=>e=.returned .nilIface/\w'=W:=by
 have h1:¬(f:Int)<0:=by omega
 have h2:¬(n:Int)<0:=by omega
 have h3:¬(f:Int)>(l:Int):=by omega
 have h4:¬(n:Int)>(l:Int)-(f:Int):=by omega
 have h5:¬l<f:=by omega
 have HV:=ak (oQ W hl)
 go_enter Tryz.func117,Tryz.ntmps117
 go_wp2_with fail
 refine HV.o.mono ?_;rintro e w ⟨rfl,h⟩;rw[h];clear h w
 go_wp2_with fail
 go_ret
 exact⟨rfl,rfl⟩
def Y_(W:World)(g B:Nat):Prop:=W.heap[g]?=some (.cells #[.pointer (some ⟨B,0,none⟩)] 42 (0,0))
theorem Y_.cell{W:World}{g B:Nat}(h:Y_ W g B):W.cell? ⟨g,0,none⟩=some (.pointer (some ⟨B,0,none⟩)):=by
 unfold Y_ at h
 simp[World.cell?,h]
theorem aW.kps{A C:World}(hs:aW n0 A B most E)(h:vv n A C):aW n0 C B most E:=by
 obtain⟨lv,mb,k1,k2,k3,k4⟩:=hs
 refine⟨lv,mb,h.cells _ (by decide) _ _ _ k1,aP.keep k2 (h.cells _ (by decide)),?_,k4⟩
 obtain⟨es,c,h5,h6⟩:=k3
 exact⟨es,c,h.others.same _ _ h5 rfl,h6⟩
theorem WS{ops:Array Oper}{rest:List Oper}{o:Oper}{a:Act}{Q:Exit->Act->World->Prop}{w:World}{l2:List Nat}(hgd:o.guard=none)(s x:Operand)(ho:o.op=.call { callee:=.builtin .append,args:=#[s,x],argTypes:=#[22,22] })
    (h:RN b0 w (.slice (some ⟨g,0,none⟩) l.length n) l) {ad:Addr} {c m k:Nat} (hk:l.length=k) (hs:a.eval s=.slice (some ⟨g,0,none⟩) k n) (hx:a.eval x=.slice (some ad) m c) (hm:l2.length=m) (hc:∀(j x:Nat),l2[j]?=some x->w.cell? (ad.add j)=some (.int .u8 x)) (hr:k+m<=n)
    (hK:∀w',RN b0 w' (.slice (some ⟨g,0,none⟩) (l++l2).length n) (l++l2)->w.grownBy w' (some g)->wpList Tryz.prog ops Q rest (a.put o.dst (.slice (some ⟨g,0,none⟩) (k+m) n)) w'):wpList Tryz.prog ops Q (o::rest) a w:=by
 subst hk hm
 obtain⟨ht,i,z,hi,hz,hsz,hby,hzs,h0,hb0⟩:=Xx
 refine wpList_append_own_spare w hgd s x 22 ho b0 5 i 1 ht hi hsz g l.length n (l.flatMap yS) hs h ad l2.length c (l2.flatMap yS) hx (bf lI l2) ?_ ?_ hr ?_
 .intro j u hu
  have hjl:j<l2.length:=by have:=(agA.1 hu).1;rwa [bf lI,ag3]at this
  have h1:=nQ lI l2 j 0 hjl (by omega)
  rw[ag3,ahC,hu]at h1
  have h2:=hc j l2[j] (agt hjl)
  rw[h2,h1];rfl
 .intro u hu
  obtain⟨y,-,hy⟩:=ah4.1 hu
  exact IZ y u hy
 .intro w' hown hg
  have:=aP.append (l2:=l2) hown rfl rfl rfl
  exact hK w' (by rwa [af8]) hg
theorem JJ(k:Nat)(t:List Nat):rep k t++t=rep (k+1) t:=by
 rw[sS,iB]
theorem Tb.at(h:Tb b0 W gb g n l){i:Nat}(hi:l[i]?=some x):W.cell? ⟨g,i,none⟩=some (.int .u8 x):=by
 obtain⟨hlt,rfl⟩:=agA.1 hi
 have:=aP.cell lI h.row hlt (j:=0) (by omega)
 rw[ag3,ahC]at this
 exact this
theorem LX(hs:aW n0 W B most E)(hwf:Wf E)(hE:E.length<=1048576){gs:Nat}{acc:List Nat}(hgs:Y_ W gs B)(hT:Tb b0 W gb g n acc){m:Nat}(hx0:0<x)(hx:x<=E.length)(hm:0<m)(hl:acc.length+m*(txt E x).length<=n):
    Calls Tryz.prog 119 #[.int .i64 x,.int .i64 m,.pointer (some ⟨gb,0,none⟩),.pointer (some ⟨gs,0,none⟩)] W λe w'=>e=.returned .nilIface/\Tb b0 w' gb g n (acc++rep m (txt E x))/\B2 gb g W w':=by
 have hpos:0<(txt E x).length:=(hwf.get x hx0 hx).2.2.1
 have hm1:(txt E x).length<=m*(txt E x).length:=ajW _ hm
 have hm2:m<=m*(txt E x).length:=ajp _ hpos
 have hnm:=hT.room.2
 unfold maxLen at hnm
 have UD:=ak (OM hs hwf hE hT hx0 hx (by omega))
 obtain⟨t,ht⟩:=ay (txt E x)
 rw[ht]at UD hl hpos hm1 hm2⊢
 have c0:=hT.cell.1
 have d0:=hgs.cell
 obtain⟨al,hal⟩:=ay (acc.length)
 rw[hal]at c0 hl
 obtain⟨tl,htl⟩:=ay (t.length)
 rw[htl]at hl hpos hm1 hm2
 have P8:=ak hal;have KZ:=ak htl;have HL:=ak hl
 have HGG:=ak hT.lt
 have hmw:IntKind.i64.wrap ((m:Int)-1)=((m-1:Nat):Int):=by rw[agd];omega
 obtain⟨m1,afM⟩:=ay (m-1)
 rw[afM]at hmw
 have Vm:aA (m=m1+1):=ak (by omega)
 have hmb:m1<=9223372036854775806:=by omega
 have hln:al+tl<=n:=by omega
 obtain⟨l1,hl1⟩:=ay (al+tl)
 rw[hl1]at hln
 have hall:al<=l1:=by omega
 have Wl:(al:Int)<=(l1:Int):=by omega
 have hlj:(l1:Int)<=(n:Int):=by omega
 have YO:=ak hl1
 have hsub:l1-al=tl:=by omega
 clear hs hwf hT hgs ht hal htl hl hm1 hm2 afM hl1 hm hx0 hx
 go_enter Tryz.func119,Tryz.ntmps119
 go_wp2_with fail
 refine UD.o.mono ?_
 rintro e w1 ⟨rfl,t1,b1⟩
 have HB1:=ak b1;have HT1:=ak t1
 have c1:=t1.cell.1
 rw[af8,P8.o,KZ.o,YO.o]at c1
 clear b1 t1 c0 d0
 go_wp2_with fail
 clear c1
 go_loopw [23] (λiv wr=>∃i:Nat,iv=.int .i64 i/\i<=m1/\Tb b0 wr gb g n (acc++rep (i+1) t)/\B2 gb g W wr) (λiv _=>m1+1-(intOf iv).toNat)
 case atStart=>exact⟨0,rfl,agb _,by rw[iB];exact HT1.o,HB1.o⟩
 case round=>
  clear HT1 HB1
  obtain⟨i,rfl,hi,hT,hB⟩:=hrel
  have HT:=ak hT;have HB:=ak hB
  by_cases hlt:i<m1
  .have hlt2:(i:Int)<(m1:Int):=by omega
   obtain⟨q,hq⟩:=ay ((acc++rep (i+1) t).length)
   have hqe:q=al+(i+1)*tl:=by rw[<-hq,af8,fQ,P8.o,KZ.o]
   have hqn:q+tl<=n:=by
    have h1:(i+2)*tl<=m*tl:=agY _ (by have:=Vm.o;omega)
    have h2:=HL.o
    rw[show i+2=(i+1)+1 by omega,ag6]at h1
    omega
   obtain⟨c2,f2⟩:=hT.cell
   rw[hq]at c2
   have HC:aA (∀(j x:Nat),t[j]?=some x->wr.cell? ((⟨g,al,none⟩:Addr).add j)=some (.int .u8 x)):=ak (λj x hx=>by
    have e1:(⟨g,al,none⟩:Addr).add j=⟨g,al+j,none⟩:=by unfold Addr.add;split<;>simp_all
    rw[e1]
    refine HT.o.at ?_
    rw[agN (by rw[P8.o];omega),P8.o,ajo,ji,agV (agA.1 hx).1]
    exact hx)
   have HQ:=ak (And.intro hq hqn)
   clear hT hB hqe
   go_wp2_with (
    at_builtin
    refine WS (l:=acc++rep (i+1) t) (l2:=t) (k:=q) (m:=tl) rfl _ _ rfl HT.o.row HQ.o.1 rfl rfl KZ.o HC.o HQ.o.2 ?_
    intro w5 XL hg5
    have hb5:w5.heap[gb]?=some (.cells #[.slice (some ⟨g,0,none⟩) (acc++rep (i+1) t).length n] 22 (0,0)):=(hg5.block gb HT.o.lt.1 (λe=>HT.o.lt.2.2 (agQ e))).trans HT.o.box
    have c5:w5.cell? ⟨gb,0,none⟩=some (.slice (some ⟨g,0,none⟩) q n):=by simp[World.cell?,hb5,HQ.o.1]
    have f5:w5.frozen? ⟨gb,0,none⟩=false:=by simp[World.frozen?,hb5]
    have yQ:aA (Tb b0 (w5.setCell ⟨gb,0,none⟩ (.slice (some ⟨g,0,none⟩) (q+tl) n)) gb g n (acc++rep (i+1+1) t)):=ak (by
     have h:=Tb.told (l':=(acc++rep (i+1) t)++t) hb5 HT.o.lt.2.2 XL
     rw[agf,JJ]at h
     rwa [show(acc++rep (i+1+1) t).length=q+tl by rw[<-JJ,<-agf,af8,HQ.o.1,KZ.o]]at h)
    have tN:=ak ((HB.o.grown hg5 (.inr rfl)).set (p:=⟨gb,0,none⟩) (.inr (.inl rfl)) (.slice (some ⟨g,0,none⟩) (q+tl) n))
    clear XL hg5 hb5)
   clear c2 f2
   go_roundw
   case rel=>exact⟨i+1,by go_num,by omega,yQ.o,tN.o⟩
   case measure=>first|(simp[intOf];omega)|simp[intOf]
  .have hlt2:¬(i:Int)<(m1:Int):=by omega
   have e:i+1=m:=by have:=Vm.o;omega
   rw[e]at HT
   clear hT hB e
   go_wp2_with fail
   go_ret
   exact⟨rfl,HT.o,HB.o⟩
theorem Tb.grow{W':World}(h:Tb b0 W gb g n l)(hk:jd 22 W W')(hk2:jd 5 W W'):Tb b0 W' gb g n l:=⟨hk _ _ _ h.box,aP.keep h.row hk2⟩
def IE(n0 B most:Nat)(E:List En)(n1 gs b0 gb g n:Nat)(W0:World)(acc:List Nat)(w:World):Prop:=aW n0 w B most E/\Y_ w gs B/\Tb b0 w gb g n acc/\Below n1 W0 w
theorem zX(hs:aW n0 W B most E)(hwf:Wf E)(hE:E.length<=1048576){id:Nat}(hid:id<=E.length)(hr:dG+n<=(txt E id).length)(hn:n<=65536):
    Calls Tryz.prog 75 #[.pointer (some ⟨B,0,none⟩),.int .i64 id,.int .i64 dG,.int .i64 n] W λe w'=>∃v,e=.returned (.tuple #[v,.nilIface])/\RN W.heap.size w' v (((txt E id).drop dG).take n)/\Below W.heap.size W w':=by
 have hmf:∀(fn:Fn) (first cap:Array Value) (w:World),(Instr.makeFunc fn first cap).run Tryz.prog w=.ok (.func fn first cap) w:=λ_ _ _ _=>rfl
 have hmk:∀w:World,(Instr.makeSlice 22 (.int .i64 0) (.int .i64 (n:Int))).run Tryz.prog w=.ok (.slice (some ⟨w.heap.size,0,none⟩) 0 n) (w.alloc (.cells (madeCells #[.int .u8 0] n) 5)):=λw=>by
  have h:=Ba (P:=Tryz.prog) (t:=22) (e:=5) (z:=.int .u8 0) (size:=1) (bytes:=1) (by kernel_rfl) (by kernel_rfl) 0 n (by omega) (by omega) (by omega) w
  have hz:(Value.int .u8 0).cells=#[Value.int .u8 0]:=rfl
  rw[hz]at h
  simpa using h
 obtain⟨hw,hlen⟩:=hwf.len hid
 have H:=ak hs;have gW:=ak hwf;have HR:=ak hr
 obtain⟨W1,hW1⟩:=ay (W.alloc (.cells #[.pointer (some ⟨B,0,none⟩)] 42))
 have k1:Y_ W1 W.heap.size B:=by rw[<-hW1];exact aD W _
 have b1:Below W.heap.size W W1:=by rw[<-hW1];exact(af6 _ W).alloc (af7 _) _
 have hz1:W1.heap.size=W.heap.size+1:=by rw[<-hW1];simp
 have HW:=ak (dS (hs.below b1) hid hE)
 rw[hw]at HW
 obtain⟨t,ht⟩:=ay (txt E id)
 rw[ht]at HW hr hlen⊢
 have HT:=ak ht
 obtain⟨u,hu⟩:=ay (wt t)
 have EX:u.len=t.length:=by rw[<-hu];rfl
 rw[hu]at HW
 unfold wK at HW
 have PZ:=ak (λw:World=>PM w (f:=dG) (n:=n) (l:=u.len) (by omega) (by omega))
 have K1:=ak k1;have B1:=ak b1;have HZ1:=ak hz1
 have c0:=k1.cell
 have hnb:¬(n:Int)>65536:=by omega
 have hnc:(0:Int)<=(n:Int):=by omega
 clear hs hwf hw k1 b1 hz1 ht hu EX hr hlen
 go_enter Tryz.func75,Tryz.ntmps75
 go_wp2_with fail
 refine HW.o.mono ?_;rintro e w1 ⟨rfl,b2⟩
 obtain⟨wz,w2,hz,hs,kw,bw,⟨p0,p1,p2,p3,p4,p5⟩,q0,q1,q2,q3,q4,q5⟩:=kE w1 u
 obtain⟨x0,x1,x2,x3,x4,x5⟩:=kw.cells
 have B2':=ak (Below.after b2 bw)
 clear b2 kw bw c0
 go_wp2_with fail
 refine(PZ.o w2).mono ?_;rintro e w ⟨rfl,h⟩;rw[h];clear h w
 clear hW1 hz hs p0 p1 p2 p3 p4 p5 q0 q1 q2 q3 q4 q5 x0 x1 x2 x3 x4 x5
 obtain⟨gz,hgz⟩:=ay (w2.heap.size)
 obtain⟨w3,hw3⟩:=ay (w2.alloc (.cells (madeCells #[.int .u8 0] n) 5))
 have hz3:w3.heap.size=gz+1:=by rw[<-hw3];simp[hgz]
 obtain⟨w4,hw4⟩:=ay (w3.alloc (.cells #[.slice (some ⟨gz,0,none⟩) 0 n] 22))
 have b3:Below w2.heap.size w2 w3:=by rw[<-hw3];exact(af6 _ _).alloc (af7 _) _
 have b4:Below w3.heap.size w3 w4:=by rw[<-hw4];exact(af6 _ _).alloc (af7 _) _
 have t4:Tb W.heap.size w4 (gz+1) gz n []:=by
  refine⟨?_,?_⟩
  .have:=aD w3 (.cells #[.slice (some ⟨gz,0,none⟩) 0 n] 22)
   rw[hw4,hz3]at this
   exact this
  .have h3:w3.heap[gz]?=some (.cells (madeCells #[.int .u8 0] n) 5 (0,0)):=by
    have:=aD w2 (.cells (madeCells #[.int .u8 0] n) 5)
    rwa [hw3,hgz]at this
   have h4:=au b4 h3
   refine⟨by simp,.inr ⟨gz,n,_,rfl,?_,h4,agb _,by unfold maxLen;omega,by simp[madeCells],by simp⟩⟩
   rw[<-hgz]
   exact(Below.after B1.o B2'.o).size
 have B4:=ak (Below.after B2'.o (Below.after b3 b4))
 have c4:=Y_.cell (show Y_ w4 W.heap.size B from au B4.o K1.o)
 have HI4:aA (IE n0 B most E W.heap.size W.heap.size W.heap.size (gz+1) gz n W [] w4):=ak ⟨H.o.below (Below.after B1.o B4.o),au B4.o K1.o,t4,Below.after B1.o B4.o⟩
 have hgl:W.heap.size<=gz:=by rw[<-hgz];exact(Below.after B1.o B2'.o).size
 have I6:=ak hgl
 have fV:aA (Calls Tryz.prog 118 #[.pointer (some ⟨B,0,none⟩),.int .i64 id,.int .i64 dG,.int .i64 n,.func (.func 119) #[] #[.pointer (some ⟨gz+1,0,none⟩),.pointer (some ⟨W.heap.size,0,none⟩)]] w4 λe w'=>e=.returned .nilIface/\IE n0 B most E W.heap.size W.heap.size W.heap.size (gz+1) gz n W ([]++((txt E id).drop dG).take n) w'):=ak (by
  refine PK gW.o hE 119 (λ_ _=>by kernel_rfl) _ _ (IE n0 B most E W.heap.size W.heap.size W.heap.size (gz+1) gz n W) [] (λacc w h=>h.1) ?_ ?_ HI4.o hid HR.o
  .rintro acc w w' ⟨h1,h2,h3,h5⟩ hk
   exact⟨h1.kps hk,hk.cells _ (by decide) _ _ _ h2,h3.grow (hk.cells _ (by decide)) (hk.cells _ (by decide)),h5.trans (hk.below.mono (af9 (Below.after B1.o B4.o).size (af7 _)))⟩
  .rintro acc w x m ⟨h1,h2,h3,h5⟩ hx0 hx hm hl
   refine(LX h1 gW.o hE h2 h3 hx0 hx hm (by simpa using hl)).mono ?_
   rintro e w' ⟨rfl,t1,b1⟩
   exact⟨rfl,⟨h1.b2 h3 b1,h3.lX b1 (by decide) (by decide) _ _ _ h2,t1,b1.under h5 (by have:=I6.o;omega) I6.o h5.size⟩,h3.lX b1 (by decide) (by decide),b1.size⟩)
 clear t4 b3 b4 hgl
 go_wp2_with fail
 refine fV.o.mono ?_
 rintro e w5 ⟨rfl,i1,i2,i3,i4⟩
 rw[agH,HT.o]at i3
 clear hw3 hw4 hz3 hgz c4 fV
 have HI3:=ak i3;have HI4':=ak i4
 obtain⟨c5,-⟩:=i3.cell
 clear i1 i2 i3 i4
 go_wp2_with fail
 exact af_ (v:=.tuple #[.slice (some ⟨gz,0,none⟩) ((t.drop dG).take n).length n,.nilIface]) (by simp[results,Tryz.results75,go_sem]) rfl ⟨_,rfl,HI3.o.row,HI4'.o⟩
end M
end
end Go.Proofs.YtgbhohfabhilgaaGreatDoor
