import Derived.Test.YtgbhohfabhilgaaGreatDoorBase15
set_option maxRecDepth 100000
set_option maxHeartbeats 8000000
set_option linter.unusedVariables false
set_option linter.unusedSimpArgs false
namespace Go.Proofs.YtgbhohfabhilgaaGreatDoor
section
open Go.RowKit Go.Lib
structure B2(C D:Nat)(A B:World):Prop where
 os:B.os=A.os
 tape:B.tape=A.tape
 output:B.output=A.output
 size:A.heap.size<=B.heap.size
 block:∀k,k<A.heap.size->k≠C->k≠D->B.heap[k]?=A.heap[k]?
namespace B2
variable{C D n:Nat}{A B X:World}
theorem refl(C D:Nat)(A:World):B2 C D A A:=⟨rfl,rfl,rfl,af7 _,λ_ _ _ _=>rfl⟩
theorem trans(h:B2 C D A B)(k:B2 C D B X):B2 C D A X:=
 ⟨k.os.trans h.os,k.tape.trans h.tape,k.output.trans h.output,af9 h.size k.size,λi hi h1 h2=>(k.block i (ahm hi h.size) h1 h2).trans (h.block i hi h1 h2)⟩
theorem below(h:B2 C D A B)(k:Below n B X)(hn:A.heap.size<=n):B2 C D A X:=
 ⟨k.os.trans h.os,k.tape.trans h.tape,k.output.trans h.output,af9 h.size k.size,λi hi h1 h2=>(k.block i (ahm hi hn)).trans (h.block i hi h1 h2)⟩
theorem obj(h:B2 C D A B){k:Nat}(h1:k≠C)(h2:k≠D){o:Obj}(ho:A.heap[k]?=some o):B.heap[k]?=some o:=(h.block k (aga.1 ho).1 h1 h2).trans ho
theorem set(h:B2 C D A B){p:Addr}(hp:A.heap.size<=p.block\/p.block=C\/p.block=D)(u:Value):B2 C D A (B.setCell p u):=
 ⟨h.os,h.tape,h.output,af9 h.size (by simp[World.setCell]),λk hk h1 h2=>(agU _ _ _ _ (by omega)).trans (h.block k hk h1 h2)⟩
theorem grown{r:Nat}(h:B2 C D A B)(hg:B.grownBy X (some r))(hr:r=C\/r=D):B2 C D A X:=
 ⟨hg.os.trans h.os,hg.tape.trans h.tape,hg.output.trans h.output,af9 h.size hg.size,λk hk h1 h2=>(hg.block k (ahm hk h.size) (λe=>by cases e;omega)).trans (h.block k hk h1 h2)⟩
theorem under{W:World}(h:Below n W A)(k:B2 C D A B)(hC:n<=C)(hD:n<=D)(hn:n<=A.heap.size):Below n W B:=
 ⟨k.os.trans h.os,k.tape.trans h.tape,k.output.trans h.output,af9 h.size k.size,λi hi=>(k.block i (ahm hi hn) (by omega) (by omega)).trans (h.block i hi)⟩
end B2
theorem aP.same{α:Type}{B₀ g n c:Nat}{A B:World}{e:TypeId}{size:Nat}{enc:α->List Value}{l:List α}(h:aP B₀ A e size enc (.slice (some ⟨g,0,none⟩) n c) l)(hg:B.heap[g]?=A.heap[g]?):aP B₀ B e size enc (.slice (some ⟨g,0,none⟩) n c) l:=by
 refine⟨h.1,?_⟩;rcases h.2 with⟨hn,-⟩|⟨g',cap,cur,hv,hb,hgg,rest⟩
 .cases hn
 .cases hv;exact .inr ⟨g,c,cur,rfl,hb,hg.trans hgg,rest⟩
theorem aP.free{α:Type}{B₀ g n c:Nat}{A:World}{e:TypeId}{size:Nat}{enc:α->List Value}{l:List α}(h:aP B₀ A e size enc (.slice (some ⟨g,0,none⟩) n c) l):(∃cs,A.heap[g]?=some (.cells cs e (0,0)))/\B₀<=g/\∀j,A.frozen? ⟨g,j,none⟩=false:=by
 rcases h.2 with⟨hn,-⟩|⟨g',cap,cur,hv,hb,hgg,rest⟩
 .cases hn
 .cases hv;exact⟨⟨cur,hgg⟩,hb,λj=>by simp[World.frozen?,hgg]⟩
namespace M
attribute [local go_sem] Oper.semAt_some
structure Tb(b0:Nat)(W:World)(gb g n:Nat)(l:List Nat):Prop where
 box:W.heap[gb]?=some (.cells #[.slice (some ⟨g,0,none⟩) l.length n] 22 (0,0))
 row:RN b0 W (.slice (some ⟨g,0,none⟩) l.length n) l
section
variable {b0 gb g n:Nat} {W W':World} {l:List Nat}
theorem Tb.keep(h:Tb b0 W gb g n l)(h1:W'.heap[gb]?=W.heap[gb]?)(h2:W'.heap[g]?=W.heap[g]?):Tb b0 W' gb g n l:=⟨h1.trans h.box,aP.same h.row h2⟩
theorem Tb.lt(h:Tb b0 W gb g n l):gb<W.heap.size/\g<W.heap.size/\gb≠g:=by
 obtain⟨⟨cs,hc⟩,-,-⟩:=aP.free h.row
 refine⟨(aga.1 h.box).1,(aga.1 hc).1,λe=>?_⟩
 subst e
 have:=h.box
 rw[hc]at this
 simp at this
theorem Tb.under{m:Nat}(h:Tb b0 W gb g n l)(hb:Below m W W')(h1:gb<m)(h2:g<m):Tb b0 W' gb g n l:=h.keep (hb.block _ h1) (hb.block _ h2)
theorem Tb.below(h:Tb b0 W gb g n l)(hb:Below W.heap.size W W'):Tb b0 W' gb g n l:=h.under hb h.lt.1 h.lt.2.1
theorem Tb.cell(h:Tb b0 W gb g n l):W.cell? ⟨gb,0,none⟩=some (.slice (some ⟨g,0,none⟩) l.length n)/\W.frozen? ⟨gb,0,none⟩=false:=by
 have:=h.box
 simp[World.cell?,World.frozen?,this]
theorem Tb.room(h:Tb b0 W gb g n l):l.length<=n/\n<=maxLen:=by
 rcases aP.shape h.row with⟨h,-⟩|⟨g',c,h,h1,h2⟩
 .cases h
 .cases h;exact⟨h1,h2⟩
theorem aW.b2{n0 B most:Nat}{E:List En}(hs:aW n0 W B most E)(h:Tb b0 W gb g n l)(hb:B2 gb g W W'):aW n0 W' B most E:=by
 obtain⟨lv,mb,k1,k2,k3,k4⟩:=hs;obtain⟨⟨cs,hc⟩,-,-⟩:=aP.free h.row;have hne:∀(k:Nat) (cs':Array Value) (t:TypeId) (fz:Nat×Nat),W.heap[k]?=some (.cells cs' t fz)->t≠22->t≠5->W'.heap[k]?=some (.cells cs' t fz):=λk cs' t fz hk h1 h2=>hb.obj (λe=>by subst e;rw[h.box]at hk;simp at hk;exact h1 hk.2.1.symm) (λe=>by subst e;rw[hc]at hk;simp at hk;exact h2 hk.2.1.symm) hk;refine⟨lv,mb,hne _ _ _ _ k1 (by decide) (by decide),aP.keep k2 (λk cs fz h=>hne _ _ _ _ h (by decide) (by decide)),?_,k4⟩;obtain⟨es,c,h5,h6⟩:=k3;refine⟨es,c,hb.obj (λe=>?_) (λe=>?_) h5,h6⟩
 .subst e;have:=h.box;rw[h5]at this;cases this
 .subst e;rw[h5]at hc;cases hc
theorem Tb.lX{t:TypeId}(h:Tb b0 W gb g n l)(hb:B2 gb g W W')(h1:t≠22)(h2:t≠5):jd t W W':=by
 obtain⟨⟨cs,hc⟩,-,-⟩:=aP.free h.row
 exact λk cs' fz hk=>hb.obj (λe=>by subst e;rw[h.box]at hk;simp at hk;exact h1 hk.2.1.symm) (λe=>by subst e;rw[hc]at hk;simp at hk;exact h2 hk.2.1.symm) hk
theorem Tb.told{l':List Nat}(h:W.heap[gb]?=some (.cells #[.slice (some ⟨g,0,none⟩) l.length n] 22 (0,0)))(hg:gb≠g)(hr:RN b0 W (.slice (some ⟨g,0,none⟩) l'.length n) l'):Tb b0 (W.setCell ⟨gb,0,none⟩ (.slice (some ⟨g,0,none⟩) l'.length n)) gb g n l':=
 ⟨aC _ h,aP.same hr (agU _ _ _ _ (λe=>hg e.symm))⟩
end
theorem I4{b0 g n:Nat}{w:World}{l l2:List Nat}(h:RN b0 w (.slice (some ⟨g,0,none⟩) l.length n) l){a:Addr}{c:Nat}(hc:∀(j x:Nat),l2[j]?=some x->w.cell? (a.add j)=some (.int .u8 x))(hr:l.length+l2.length<=n)(ty:TypeId):
    ∃w',(Builtin.append_ #[22,22] ty #[.slice (some ⟨g,0,none⟩) l.length n,.slice (some a) l2.length c]).run Tryz.prog w=.ok (.slice (some ⟨g,0,none⟩) (l.length+l2.length) n) w'/\RN b0 w' (.slice (some ⟨g,0,none⟩) (l++l2).length n) (l++l2)/\w.grownBy w' (some g):=by
 obtain⟨ht,i,z,hi,hz,hsz,hby,hzs,h0,hb0⟩:=Xx
 obtain⟨w',hrun,hown,hg⟩:=akH (P:=Tryz.prog) w b0 22 ty 5 i 1 ht hi hsz g l.length n (l.flatMap yS) h a l2.length c (l2.flatMap yS) (bf lI l2) (by
  intro j u hu
  have hjl:j<l2.length:=by have:=(agA.1 hu).1;rwa [bf lI,ag3]at this
  have h1:=nQ lI l2 j 0 hjl (by omega)
  rw[ag3,ahC,hu]at h1
  have h2:=hc j l2[j] (agt hjl)
  rw[h2,h1];rfl) (by
  intro u hu
  obtain⟨y,-,hy⟩:=ah4.1 hu
  exact IZ y u hy) hr
 refine⟨w',hrun,?_,hg⟩
 have:=aP.append (l2:=l2) hown rfl rfl rfl
 rwa [af8]
abbrev M8(B:Nat)(W:World)(v:Value)(L:List Cp):Prop:=aP B W 264 2 MZ v L
theorem FT:Elem Tryz.prog 265 264 2 16:=gP Tryz.underlying265 (z:=.agg #[.int .i64 0,.int .i64 0]) (by kernel_rfl) rfl (by decide) (by decide)
def Cg(W:World)(E:List En)(b0 gb g n:Nat)(tot:List Nat)(k:Nat)(tv:Value)(wr:World):Prop:=
 ∃(L:List Cp) (acc:List Nat),Ab E L=k/\M8 W.heap.size wr tv L/\Tb b0 wr gb g n acc/\(∀s∈L,Xw E s)/\DK (1+3*E.length) L/\acc++qR E L=tot/\B2 gb g W wr
theorem OM{n0 B most:Nat}{W:World}{E:List En}(hs:aW n0 W B most E)(hwf:Wf E)(hE:E.length<=1048576){b0 gb g n id:Nat}{l:List Nat}(hT:Tb b0 W gb g n l)(acO:0<id)(hid:id<=E.length)(hr:l.length+(txt E id).length<=n):
    Calls Tryz.prog 120 #[.pointer (some ⟨B,0,none⟩),.int .i64 id,.pointer (some ⟨gb,0,none⟩)] W λe w'=>e=.returned .nilIface/\Tb b0 w' gb g n (l++txt E id)/\B2 gb g W w':=by
 have HF:∀f,Fence.wide.fn f:=λ_=>trivial;have gW:=ak hwf;have JZ:=ak hs;have HT0:=ak hT;obtain⟨tot,htot⟩:=ay (l++txt E id);have KZ:aA (tot.length<=n):=ak (by rw[<-htot,af8];exact hr);rw[htot];obtain⟨W1,hW1⟩:=ay (W.alloc (.cells #[.int .i64 id,.int .i64 1] 264));have l1:M8 W.heap.size W1 (.slice (some ⟨W.heap.size,0,none⟩) 1 1) [⟨id,1⟩]:=by rw[<-hW1];exact aP.lit (l:=[⟨id,1⟩]) dO rfl (by simp;unfold maxLen;omega)
 have b1:Below W.heap.size W W1:=by rw[<-hW1];exact(af6 _ _).alloc (af7 _) _
 have HP:aA (Cg W E b0 gb g n tot (Ab E [⟨id,1⟩]) (.slice (some ⟨W.heap.size,0,none⟩) 1 1) W1):=ak ⟨[⟨id,1⟩],l,rfl,l1,hT.below b1,by
  intro s hs;simp only[agl]at hs;subst hs;exact⟨acO,hid,by dsimp only;omega,by dsimp only;omega⟩,by
  intro k s hs;cases k with
  |zero=>simp at hs;subst hs;dsimp only;omega
  |succ k=>simp at hs,by rw[Cc];unfold Cb;rw[iB];exact htot,(B2.refl gb g W).below b1 (af7 _)⟩
 clear hwf hs hT htot l1 b1 hr acO hid;go_enter Tryz.func120,Tryz.ntmps120;go_wp2_with fail
 clear hW1;go_loopg [7] (Ab E [⟨id,1⟩]) (λk tv wr=>Cg W E b0 gb g n tot k tv wr)
 case atStart=>exact HP.o
 clear HP;obtain⟨L,acc,hk,hS,hT,RO,hBd,Ac,hB⟩:=hrel;rcases agR L with rfl|⟨L',s,rfl⟩
 .obtain⟨ta,tc,rfl⟩:=hS.len;have hD:acc=tot:=by rw[<-Ac];simp[qR]
  have HT:=ak hT;have HB:=ak hB;rw[hD]at HT;clear hk hS hT RO hBd Ac hB hD;go_wp2_with fail
  go_ret;exact⟨rfl,HT.o,HB.o⟩
 rw[agO]at hk hS RO hBd Ac;obtain⟨ta,tc,rfl⟩:=hS.len;rw[af8,agk]at hS⊢;obtain⟨j,hj⟩:=ay (L'.length);rw[hj]at hS⊢;have hjb:j<=4000000:=by have:=hBd.len;rw[af8,agk]at this;omega
 have hsh:=hS.shape;rw[af8,agk,hj]at hsh;obtain⟨gs,rfl,hjc⟩:∃g,ta=some ⟨g,0,none⟩/\j+1<=tc:=by
  rcases hsh with⟨-,h⟩|⟨g,cap,h,h1,h2⟩
  .simp at h
  simp only[agn]at h;obtain⟨rfl,-,rfl⟩:=h;exact⟨g,rfl,h1⟩
 have hjn:j<(L'++[s]).length:=by simp[hj]
 have hsj:(L'++[s])[j]=s:=by simp[<-hj]
 have q0:=aP.cell dO hS hjn (j:=0) (by omega);have q1:=aP.cell dO hS hjn (j:=1) (by omega);rw[hsj]at q0 q1;replace q0:wr.cell? ⟨gs,j*2,none⟩=some (.int .i64 s.id):=q0;replace q1:wr.cell? ⟨gs,j*2+1,none⟩=some (.int .i64 s.times):=q1;obtain⟨⟨cg,hcg⟩,hgs,hfr⟩:=aP.free hS;have f1:=hfr (j*2+1);have hos:=RO s (by simp);obtain⟨o1,o2,o3,o4⟩:=hos;obtain⟨w1,hw1⟩:=ay (wr.setCell ⟨gs,j*2+1,none⟩ (.int .i64 ((s.times-1:Nat):Int)));have hS1:M8 W.heap.size w1 (.slice (some ⟨gs,0,none⟩) (j+1) tc) (L'++[⟨s.id,s.times-1⟩]):=by
  rw[<-hw1,<-hj];rw[<-hj]at hS;exact aP.put dO (b:=⟨s.id,s.times-1⟩) hS (j:=1) (by omega) rfl
 have x1:=aP.cell dO hS1 (i:=j) (by simp[hj]) (j:=1) (by omega);rw[show(L'++[(⟨s.id,s.times-1⟩:Cp)])[j]'(by simp[hj])=⟨s.id,s.times-1⟩ by simp[<-hj]]at x1;replace x1:w1.cell? ⟨gs,j*2+1,none⟩=some (.int .i64 ((s.times-1:Nat):Int)):=x1;have b1:Below W.heap.size wr w1:=by rw[<-hw1];exact(af6 _ _).setCell (p:=⟨gs,j*2+1,none⟩) hgs _
 have HT1:=ak (hT.under b1 HT0.o.lt.1 HT0.o.lt.2.1);have HB1:=ak (hB.below b1 (af7 _));have hdw:IntKind.i64.wrap ((s.times:Int)-1)=((s.times-1:Nat):Int):=by rw[agd];omega
 have P7:aA (Xw E s):=ak ⟨o1,o2,o3,o4⟩;have mF:=ak RO;have I5:=ak hBd;have HJ:=ak hj;have j_:=ak hS1;have HST:=ak (K7 gW.o P7.o);have Xy:=ak (gW.o.rule s.id o1 o2).cases;have Z0:=ak (RH (L:=L') P7.o);have FU:=ak hk;have FV:=ak ((agC (acc++ ·) (OH (L:=L') P7.o)).trans Ac);have pX:aA (∀w,Below w1.heap.size w1 w->Calls Tryz.prog 19 #[.pointer (some ⟨B,0,none⟩),.int .i64 s.id] w λe w'=>e=.returned (.tuple #[qN (aF E s.id).ru,.nilIface])/\Below w.heap.size w w'):=ak (λw hw'=>iK ((JZ.o.b2 HT0.o HB1.o).below hw') P7.o.1 P7.o.2.1 hE);obtain⟨r,hr⟩:=ay ((aF E s.id).ru);rw[hr]at pX HST Xy;unfold qN at pX;have P8:aA (acc.length+(txt E s.id).length<=n):=ak (by
  have h1:=agC List.length FV.o;simp only[af8]at h1;have:=KZ.o;omega)
 have hj1:(j:Int)<((j+1:Nat):Int):=by omega
 have hj2:(j:Int)<=(tc:Int):=by omega
 have hj3:j<=tc:=by omega
 have hj4:IntKind.i64.wrap (((j+1:Nat):Int)-1)=(j:Int):=by rw[agd];omega
 have hj5:wrap64 (j:Int)=(j:Int):=by unfold wrap64;omega
 have kH:aA (∀tv' w',M8 W.heap.size w' tv' (fD L' s++kids r)->Tb b0 w' gb g n (acc++emit r)->B2 gb g W w'->Cg W E b0 gb g n tot (Ab E (fD L' s++kids r)) tv' w'):=ak (λtv' w' h1 h2 h3=>⟨_,_,rfl,h1,h2,by
  intro x hx;rcases ags.1 hx with h|h
  .exact RI mF.o x h
  .exact(HST.o.2.2.1 x h).1,I5.o.push (λx hx=>(HST.o.2.2.1 x hx).2) HST.o.2.2.2,by
  have h:=FV.o
  try dsimp only at h
  rw[rU,agf,<-agf (emit r),HST.o.1];exact h,h3⟩)
 have HM:aA (Ab E (fD L' s++kids r)<Ab E (L'++[s])):=ak (by have h1:=Z0.o;have h2:=HST.o.2.1;rw[vo];omega);obtain⟨tm,htm⟩:=ay (s.times-1);rw[htm]at hw1 x1 hdw;have HTM:=ak htm;clear hk hS hT RO hBd Ac hB hsh hjn hsj hj b1 hS1 hcg hfr o1 o2 o3 o4 hr htm hjc;have jX:aA ((fD L' s).length<=4000000):=ak (by have h1:=Ew L' s;have h2:=HJ.o;have h3:=I5.o.drop.len;omega);clear hjb;by_cases ht1:tm=0
 case' _=>
  have HSD:aA (M8 W.heap.size w1 (.slice (some ⟨gs,0,none⟩) j tc) (fD L' s)):=ak (by unfold fD;rw[af5 (by have:=P7.o.2.2.1;have:=HTM.o;omega)];exact aP.pop dO j_.o HJ.o);have htb:((tm:Int)==0)=true:=by simp[ht1]
  clear ht1 j_;go_wp2_with fail
  generalize hsv:Value.slice (some ⟨gs,0,none⟩) j tc=sv at HSD⊢;obtain⟨jl,rfl⟩:∃q,sv=.slice (some ⟨gs,0,none⟩) q tc:=⟨_,hsv.symm⟩;clear hsv
 rotate_left
 case' _=>
  have HSD:aA (M8 W.heap.size w1 (.slice (some ⟨gs,0,none⟩) (j+1) tc) (fD L' s)):=ak (by unfold fD;rw[af4 (by have:=P7.o.2.2.1;have:=HTM.o;omega)];exact j_.o);have htb:((tm:Int)==0)=false:=by simp[ht1]
  clear ht1 j_;go_wp2_with fail
  generalize hsv:Value.slice (some ⟨gs,0,none⟩) (j+1) tc=sv at HSD⊢;obtain⟨jl,rfl⟩:∃q,sv=.slice (some ⟨gs,0,none⟩) q tc:=⟨_,hsv.symm⟩;clear hsv
 all_goals
  refine(pX.o w1 (af6 _ _)).mono ?_;rintro e w3 ⟨rfl,b3⟩;obtain⟨wz,w4,hz,hs,kr,br,⟨p0,p1,p2,p3,p4⟩,e0,e1,e2,e3,e4⟩:=pF w3 r;obtain⟨gr,hgr⟩:=ay (w3.heap.size);rw[hgr]at hs kr p0 p1 p2 p3 p4 e0 e1 e2 e3 e4;obtain⟨y0,y1,y2,y3,y4⟩:=kr.cells;have b4:=Below.after b3 br;have qG:=ak (HT1.o.below b4);have cB:=ak (HB1.o.below b4 HB1.o.size);have lU:=ak (HSD.o.below b4);have KR:=ak kr;clear b3 br b4 kr HT1 HB1 HSD;rcases Xy.o with⟨hk,-⟩|⟨hk,-⟩|⟨hk,-⟩
  .have hkb:((r.kind:Int)==1)=true:=by simp[hk]
   have ui:aA (kids r=[]/\emit r=[r.letter]):=ak (by unfold kids emit;rw[af5 hk,af5 hk];exact⟨rfl,rfl⟩);have HRM:aA (acc.length+1<=n):=ak (by
    have h1:=agC List.length HST.o.1;rw[ui.o.1,ui.o.2]at h1;simp[qR]at h1;have:=P8.o;omega)
   clear hk;go_wp2_with fail
   clear hz hs p0 p1 p2 p3 p4 e0 e1 e2 e3 e4 y0 y1 y2 y3 y4 hgr q0 q1 x1 f1 hw1;obtain⟨wd,hwd⟩:=ay (w4.drew);have SD:Below w4.heap.size w4 wd:=by rw[<-hwd];exact(af6 _ _).drew
   refine aU (λw:World=>w.cell? ⟨gb,0,none⟩=some (.slice (some ⟨g,0,none⟩) acc.length n)/\w.cell? ⟨gr,1,none⟩=some (.int .u8 r.letter)) ?_;rw[hwd];clear hwd;have mb:∀w:World,(w.cell? ⟨gb,0,none⟩=some (.slice (some ⟨g,0,none⟩) acc.length n)/\w.cell? ⟨gr,1,none⟩=some (.int .u8 r.letter))->w.cell? ⟨gb,0,none⟩=some (.slice (some ⟨g,0,none⟩) acc.length n):=λ_ h=>h.1;have ml:∀w:World,(w.cell? ⟨gb,0,none⟩=some (.slice (some ⟨g,0,none⟩) acc.length n)/\w.cell? ⟨gr,1,none⟩=some (.int .u8 r.letter))->w.cell? ⟨gr,1,none⟩=some (.int .u8 r.letter):=λ_ h=>h.2;have HTd:=ak (qG.o.below SD);have HBd:=ak (cB.o.below SD cB.o.size);have HSd:=ak (lU.o.below SD);have KRd:=ak (show eP wd gr r from au SD KR.o);have S0:wd.cell? ⟨gb,0,none⟩=some (.slice (some ⟨g,0,none⟩) acc.length n)/\wd.cell? ⟨gr,1,none⟩=some (.int .u8 r.letter):=⟨HTd.o.cell.1,KRd.o.cells.2.1⟩;clear SD qG cB lU KR;refine bJ 0 1 2 3 4 5 ?_;refine aT 6 λK hK=>?_;go_simp;obtain⟨w6,dH⟩:=ay (wd.alloc (.cells #[.int .u8 r.letter] 5));have b6:Below wd.heap.size wd w6:=by rw[<-dH];exact(af6 _ _).alloc (af7 _) _
   have hn6:w6.heap[wd.heap.size]?=some (.cells #[.int .u8 r.letter] 5 (0,0)):=by rw[<-dH];exact aD _ _
   rw[dH];clear dH;have K_:=ak (HTd.o.below b6);have zH:=ak (HBd.o.below b6 HBd.o.size);have xX:=ak (HSd.o.below b6);have KR6:=ak (show eP w6 gr r from au b6 KRd.o);have S6:w6.cell? ⟨gb,0,none⟩=some (.slice (some ⟨g,0,none⟩) acc.length n)/\w6.cell? ⟨gr,1,none⟩=some (.int .u8 r.letter):=⟨K_.o.cell.1,KR6.o.cells.2.1⟩;refine hK _ _ S6 ?_;clear hK K b6;obtain⟨w7,hrun,hr7,Ad⟩:=I4 (l2:=[r.letter]) K_.o.row (a:=⟨wd.heap.size,0,none⟩) (c:=1) (by
    intro j x hx;cases j with
    |zero=>simp at hx;subst hx;simp[World.cell?,hn6,Addr.add]
    |succ j=>simp at hx) HRM.o 22
   replace hrun:(Builtin.append_ #[22,22] 22 #[.slice (some ⟨g,0,none⟩) acc.length n,.slice (some ⟨wd.heap.size,0,none⟩) 1 1]).run Tryz.prog w6=.ok (.slice (some ⟨g,0,none⟩) (acc.length+1) n) w7:=hrun;have oI:w7.heap[gb]?=some (.cells #[.slice (some ⟨g,0,none⟩) acc.length n] 22 (0,0)):=(Ad.block gb K_.o.lt.1 (λe=>K_.o.lt.2.2 (agQ e))).trans K_.o.box;obtain⟨⟨J2,hc6⟩,-,-⟩:=aP.free K_.o.row;have KR7:eP w7 gr r:=by
    have h:=KR6.o;unfold eP at h⊢;rw[Ad.block gr (aga.1 h).1 (λe=>by cases e;rw[hc6]at h;simp at h)];exact h
   have S7:w7.cell? ⟨gb,0,none⟩=some (.slice (some ⟨g,0,none⟩) acc.length n)/\w7.cell? ⟨gr,1,none⟩=some (.int .u8 r.letter):=⟨by simp[World.cell?,oI],KR7.cells.2.1⟩;have DN:aA (M8 W.heap.size w7 (.slice (some ⟨gs,0,none⟩) jl tc) (fD L' s)):=ak (by
    obtain⟨⟨cs,hc⟩,-,-⟩:=aP.free xX.o;exact aP.same xX.o (Ad.block _ (aga.1 hc).1 (λe=>by cases e;rw[hc6]at hc;simp at hc)))
   have Vu:=ak (zH.o.grown Ad (.inr rfl));have hf7:w7.frozen? ⟨gb,0,none⟩=false:=by simp[World.frozen?,oI]
   have yQ:aA (Tb b0 (w7.setCell ⟨gb,0,none⟩ (.slice (some ⟨g,0,none⟩) (acc.length+1) n)) gb g n (acc++[r.letter])):=ak (by
    have:=Tb.told (l':=acc++[r.letter]) oI K_.o.lt.2.2 hr7;rwa [af8,agk]at this)
   have tN:=ak (Vu.o.set (p:=⟨gb,0,none⟩) (.inr (.inl rfl)) (.slice (some ⟨g,0,none⟩) (acc.length+1) n));have IQ:aA (M8 W.heap.size (w7.setCell ⟨gb,0,none⟩ (.slice (some ⟨g,0,none⟩) (acc.length+1) n)) (.slice (some ⟨gs,0,none⟩) jl tc) (fD L' s)):=ak (aP.setCell DN.o (a:=⟨gb,0,none⟩) _ oI (by decide));refine aT 7 λK hK=>?_;simp[execOp,resolve,invoke,builtin,hrun,Result.andThen,Act.eval,Oper.uponIn];refine hK _ _ S7 ?_;clear hK K hrun hr7 Ad KR7 mb ml S0 S6 hc6;refine aJ.cK 8 (by kernel_rfl) ?_;simp only[agr,agj];have c7:=S7.1;clear S7 oI hn6;gi_wp2_with fail
   go_roundg (Ab E (fD L' s++kids r))
   case measure=>have h1:=HM.o;have h2:=FU.o;omega
   case rel=>exact kH.o _ _ (by rw[ui.o.1,agi];exact IQ.o) (by rw[ui.o.2];exact yQ.o) tN.o
  .have hkb:((r.kind:Int)==1)=false:=by simp[hk]
   have hkc:((r.kind:Int)==2)=true:=by simp[hk]
   have ui:aA (kids r=[⟨r.right,1⟩,⟨r.left,1⟩]/\emit r=[]):=ak (by unfold kids emit;rw[af4 (by omega),af5 hk,af4 (by omega)];exact⟨rfl,rfl⟩);obtain⟨Wc,hWc⟩:=ay (w4.alloc (.cells #[.int .i64 r.right,.int .i64 1,.int .i64 r.left,.int .i64 1] 264));have lc:M8 w4.heap.size Wc (.slice (some ⟨w4.heap.size,0,none⟩) 2 2) [⟨r.right,1⟩,⟨r.left,1⟩]:=by rw[<-hWc];exact aP.lit (l:=[⟨r.right,1⟩,⟨r.left,1⟩]) dO rfl (by simp;unfold maxLen;omega)
   have bc:Below w4.heap.size w4 Wc:=by rw[<-hWc];exact(af6 _ _).alloc (af7 _) _
   have IY:=ak lc;have Dt:=ak (lU.o.below bc);have Z4:=ak (qG.o.below bc);have um:=ak (cB.o.below bc cB.o.size);clear lc bc hk qG cB lU;go_wp2_with (
    at_builtin;refine mo (l2:=[⟨r.right,1⟩,⟨r.left,1⟩]) FT dO tQ rfl _ _ rfl rfl Dt.o rfl rfl IY.o (by have:=jX.o;simp;omega) um.o.size ?_;intro v5 w5 hS5 hg5 hb5;have yQ:=ak hS5;have tN:=ak (Z4.o.under hb5 HT0.o.lt.1 HT0.o.lt.2.1);have IQ:=ak (um.o.below hb5 (af7 _));clear hS5 hg5 hb5)
   clear hz hs p0 p1 p2 p3 p4 e0 e1 e2 e3 e4 y0 y1 y2 y3 y4 hgr q0 q1 x1 f1 hw1 hWc;go_roundg (Ab E (fD L' s++kids r))
   case measure=>have h1:=HM.o;have h2:=FU.o;omega
   case rel=>exact kH.o _ _ (by rw[ui.o.1];exact yQ.o) (by rw[ui.o.2,agi];exact tN.o) IQ.o
  have hkb:((r.kind:Int)==1)=false:=by simp[hk]
  have hkc:((r.kind:Int)==2)=false:=by simp[hk]
  have ui:aA (kids r=[⟨r.left,r.times⟩]/\emit r=[]):=ak (by unfold kids emit;rw[af4 (by omega),af4 (by omega),af4 (by omega)];exact⟨rfl,rfl⟩);obtain⟨Wc,hWc⟩:=ay (w4.alloc (.cells #[.int .i64 r.left,.int .i64 r.times] 264));have lc:M8 w4.heap.size Wc (.slice (some ⟨w4.heap.size,0,none⟩) 1 1) [⟨r.left,r.times⟩]:=by rw[<-hWc];exact aP.lit (l:=[⟨r.left,r.times⟩]) dO rfl (by simp;unfold maxLen;omega)
  have bc:Below w4.heap.size w4 Wc:=by rw[<-hWc];exact(af6 _ _).alloc (af7 _) _
  have IY:=ak lc;have Dt:=ak (lU.o.below bc);have Z4:=ak (qG.o.below bc);have um:=ak (cB.o.below bc cB.o.size);clear lc bc hk qG cB lU;go_wp2_with (
   at_builtin;refine mo (l2:=[⟨r.left,r.times⟩]) FT dO tQ rfl _ _ rfl rfl Dt.o rfl rfl IY.o (by have:=jX.o;simp;omega) um.o.size ?_;intro v5 w5 hS5 hg5 hb5;have yQ:=ak hS5;have tN:=ak (Z4.o.under hb5 HT0.o.lt.1 HT0.o.lt.2.1);have IQ:=ak (um.o.below hb5 (af7 _));clear hS5 hg5 hb5)
  clear hz hs p0 p1 p2 p3 p4 e0 e1 e2 e3 e4 y0 y1 y2 y3 y4 hgr q0 q1 x1 f1 hw1 hWc;go_roundg (Ab E (fD L' s++kids r))
  case measure=>have h1:=HM.o;have h2:=FU.o;omega
  case rel=>exact kH.o _ _ (by rw[ui.o.1];exact yQ.o) (by rw[ui.o.2,agi];exact tN.o) IQ.o
end M
theorem bS.then{ts:List TypeId}{W A C:World}(h:bS ts W A)(hb:Below W.heap.size A C):bS ts W C:=
 ⟨hb.os.trans h.os,hb.tape.trans h.tape,hb.output.trans h.output,af9 h.size hb.size,λk o e hn=>by rw[hb.block k (aga.1 e).1];exact h.block k o e hn⟩
theorem bS.lX{ts:List TypeId}{A C:World}(h:bS ts A C){t:TypeId}(ht:t∉ts):jd t A C:=λ_ _ _ e=>h.cells e ht
namespace M
variable{E:List En}{T:List Nat}{rows:List Rw}{B g i n0 x:Nat}{W w:World}
theorem aW.OG{ts:List TypeId}{most:Nat}{A C:World}(hs:aW n0 A B most E)(h:bS ts A C)(h1:140∉ts)(h2:136∉ts):aW n0 C B most E:=by
 obtain⟨lv,mb,k1,k2,k3,k4⟩:=hs
 refine⟨lv,mb,h.cells k1 h1,aP.keep k2 (h.lX h2),?_,k4⟩
 obtain⟨es,c,h5,h6⟩:=k3
 exact⟨es,c,h.block _ _ h5 (λcs t fz e=>by cases e),h6⟩
theorem ZY(h:Wf E):∀i,0<i->i<=E.length->aQ (sym E i)<=246*i:=by
 intro i
 induction i using Nat.strongRecOn with
 |_ i ih=>
  intro h0 hi
  rcases fI h h0 hi with⟨b,-,s1,-⟩|⟨l,r,-,s1,l1,l2,l3,l4⟩|⟨x,k,-,s1,l1,l2,-,-⟩
  .rw[s1];exact agb _
  .rw[s1]
   have a1:=ih l l2 l1 (by omega)
   have a2:=ih r l4 l3 (by omega)
   have:=(mV (jP (sym E l)) (jP (sym E r)) (max (aQ (sym E l)) (aQ (sym E r)))).2.1
   show after _ _ _<=_
   omega
  .rw[s1]
   have a1:=ih x l2 l1 (by omega)
   show aQ (sym E x)+1<=_
   omega
theorem MX(h:Wf E)(hE:E.length<=1048576)(h0:0<i)(hi:i<=E.length): -1<=mY (sym E i)/\mY (sym E i)<=1099511627775:=by
 have:=ZY h i h0 hi
 unfold mY
 split<;>omega
def gU(E:List En)(rows:List Rw):Prop:=∀i r,rows[i]?=some r->r=mH\/(0<i/\i<=E.length/\r=rowOf (sym E i))
theorem gU.ext{A B:List En}(h:gU A rows)(hx:Ext A B):gU B rows:=λi r h1=>by
 rcases h i r h1 with h|⟨a,b,c⟩
 .exact .inl h
 .exact .inr ⟨a,af9 b hx.le,by rw[hx.sym a b];exact c⟩
theorem gU.zeros(h:gU E rows)(k:Nat):gU E (rows++List.replicate k mH):=λi r h1=>by
 by_cases hi:i<rows.length
 .rw[agV hi]at h1
  exact h i r h1
 .rw[agN (by omega),ajm]at h1
  split at h1
  .injection h1 with h1
   exact .inl h1.symm
  .cases h1
theorem gU.put(h:gU E rows)(h0:0<x)(hx:x<=E.length):gU E (rows.set x (rowOf (sym E x))):=λi r h1=>by
 by_cases e:x=i
 .subst e
  rw[List.getElem?_set_self']at h1
  cases hq:rows[x]? with
  |none=>rw[hq]at h1;cases h1
  |some z=>
   rw[hq]at h1
   injection h1 with h1
   exact .inr ⟨h0,hx,h1.symm⟩
 .rw[aiZ e]at h1
  exact h i r h1
theorem gU.known{E:List En}{rows:List Rw}(h:gU E rows){i:Nat}{r:Rw}(hi:rows[i]?=some r)(hk:r.known=true):0<i/\i<=E.length/\r=rowOf (sym E i):=by
 rcases h i r hi with rfl|h
 .cases hk
 .exact h
theorem gU.unknown(h:gU E rows){r:Rw}(hi:rows[i]?=some r)(hk:r.known=false):r=mH:=by
 rcases h i r hi with h|⟨-,-,rfl⟩
 .exact h
 .cases hk
theorem gU.bnd(h:gU E rows)(hwf:Wf E)(hE:E.length<=1048576){r:Rw}(hi:rows[i]?=some r):r.key<2305843009213693952/\ -1<=r.aQ/\r.aQ<=1099511627775:=by
 rcases h i r hi with rfl|⟨a,b,rfl⟩
 .exact⟨by show 0<_;omega,by show(-1:Int)<=0;omega,by show(0:Int)<=_;omega⟩
 .exact⟨jP _,(MX hwf hE a b).1,(MX hwf hE a b).2⟩
structure xk(E:List En)(rows:List Rw)(T:List Nat):Prop where
 el:∀i x,T[i]?=some x->0<x/\x+i<=E.length/\rows[x]?=some mH
 dec:T.Pairwise (λa b=>b<a)
theorem xk.push{c:Nat}(h:xk E rows (T++[x]))(h0:0<c)(hc:c<x)(hr:rows[c]?=some mH):xk E rows (T++[x]++[c]):=by
 have hx:=h.el T.length x (by simp)
 refine⟨λi y hi=>?_,?_⟩
 .by_cases hl:i<(T++[x]).length
  .rw[agV hl]at hi
   exact h.el i y hi
  .rw[agN (by omega)]at hi
   have hi2:=(agA.1 hi).1
   simp only[af8,agk]at hi2 hl
   have e:i=T.length+1:=by omega
   subst e
   simp at hi
   subst hi
   exact⟨h0,by omega,hr⟩
 .rw[air]
  refine⟨h.dec,by simp,λa ha b hb=>?_⟩
  rw[agl.1 hb]
  rcases ags.1 ha with ha|ha
  .have:=(air.1 h.dec).2.2 a ha x (by simp)
   omega
  .rw[agl.1 ha];exact hc
theorem xk.pop(h:xk E rows (T++[x]))(r:Rw):xk E (rows.set x r) T:=by
 obtain⟨d1,-,d3⟩:=air.1 h.dec
 refine⟨λi y hi=>?_,d1⟩
 have hlt:=(agA.1 hi).1
 obtain⟨a,b,c⟩:=h.el i y (by rw[agV hlt];exact hi)
 have:=d3 y (agE hi) x (by simp)
 exact⟨a,b,by rw[aiZ (by omega)];exact c⟩
theorem xk.len(h:xk E rows T):T.length<=E.length:=by
 rcases agR T with rfl|⟨T',x,rfl⟩
 .simp
 .rw[agO]at h⊢
  have:=h.el T'.length x (by simp)
  rw[af8,agk];omega
def gL(rows:List Rw):Nat:=(rows.filter λr=> !r.known).length
theorem xq:∀{rows:List Rw} {x:Nat} {r s:Rw},rows[x]?=some r->r.known=false->s.known=true->gL (rows.set x s)+1=gL rows
 | [],x,r,s,h,_,_=>by simp at h
 |a::rows,0,r,s,h,h1,h2=>by
  simp at h
  subst h
  show((s::rows).filter _).length+1=((a::rows).filter _).length
  rw[ajR (by simp[h2]),ajS (by simp[h1])]
  rfl
 |a::rows,x+1,r,s,h,h1,h2=>by
  have ih:=xq (rows:=rows) (x:=x) (r:=r) (s:=s) (by simpa using h) h1 h2
  show((a::rows.set x s).filter _).length+1=((a::rows).filter _).length
  unfold gL at ih
  by_cases ha:a.known=true
  .rw[ajR (by simp[ha]),ajR (by simp[ha])];exact ih
  .rw[ajS (by simp[ha]),ajS (by simp[ha]),agc,agc];omega
theorem Tab.below{n:Nat}(h:Tab W)(hb:Below n W w)(hg:0<n):Tab w:=λj hj=>by
 rw[hb.cell hg];exact h j hj
theorem Tab.lt(h:Tab W):0<W.heap.size:=by
 have:=h 0 (by omega)
 cases hq:W.heap[0]? with
 |none=>simp[World.cell?,hq]at this
 |some o=>exact(aga.1 hq).1
structure jV(n0:Nat)(W:World)(g B:Nat)(E:List En):Prop where
 tb:∃v rows,n_ W g B v/\KO n0 W v rows/\rows.length<=E.length+1/\gU E rows
 lo:n0<=g
 tab:Tab W
 g0:0<n0
theorem jV.below{n0 g B:Nat}{W w:World}{E:List En}(h:jV n0 W g B E)(hb:Below W.heap.size W w):jV n0 w g B E:=by
 obtain⟨v,rows,h1,h2,h3,h4⟩:=h.tb
 exact⟨⟨v,rows,au hb h1,h2.below hb,h3,h4⟩,h.lo,h.tab.below hb h.tab.lt,h.g0⟩
theorem jV.ext{n0 g B:Nat}{W:World}{A E:List En}(h:jV n0 W g B A)(hx:Ext A E):jV n0 W g B E:=by
 obtain⟨v,rows,h1,h2,h3,h4⟩:=h.tb
 exact⟨⟨v,rows,h1,h2,by have:=hx.le;omega,h4.ext hx⟩,h.lo,h.tab,h.g0⟩
theorem jV.kt{b9:Nat}(h:jV n0 W g B E)(hk:Kt b9 W w)(hb:Below n0 W w):jV n0 w g B E:=by
 obtain⟨v,rows,h1,h2,h3,h4⟩:=h.tb
 exact⟨⟨v,rows,hk.cells _ (by decide) (by decide) _ _ _ h1,h2.keep (hk.lX (by decide) (by decide)),h3,h4⟩,h.lo,h.tab.below hb h.g0,h.g0⟩
theorem jV.Vs{ts:List TypeId}(h:jV n0 W g B E)(hk:bS ts W w)(hb:Below n0 W w)(h1:127∉ts)(h2:142∉ts):jV n0 w g B E:=by
 obtain⟨v,rows,k1,k2,k3,k4⟩:=h.tb
 exact⟨⟨v,rows,hk.cells k1 h1,k2.keep (hk.lX h2),k3,k4⟩,h.lo,h.tab.below hb h.g0,h.g0⟩
theorem jV.lt(h:jV n0 W g B E):n0<=W.heap.size:=by
 obtain⟨v,rows,h1,-⟩:=h.tb
 exact af9 h.lo (aiP (aga.1 h1).1)
theorem KO.put{gr N cap:Nat}(h:KO n0 W (.slice (some ⟨gr,0,none⟩) N cap) rows)(hx:x<rows.length)(r:Rw):
    KO n0 (((W.setCell ⟨gr,x*3,none⟩ (.int .u64 r.key)).setCell ⟨gr,x*3+1,none⟩ (.int .i64 r.aQ)).setCell ⟨gr,x*3+2,none⟩ (.bool r.known)) (.slice (some ⟨gr,0,none⟩) N cap) (rows.set x r)/\(∃cs,W.heap[gr]?=some (.cells cs 142 (0,0)))/\n0<=gr/\∀i,W.frozen? ⟨gr,i,none⟩=false:=by
 have hN:N=rows.length:=by
  rcases h.shape with⟨e,-⟩|⟨g,c,e,-⟩
  .cases e
  .simp only[agn]at e;exact e.2.1
 subst hN
 have h0:W.ownsRow n0 142 3 (.slice (some ⟨gr,0,none⟩) rows.length cap) rows.length (rows.flatMap uG):=h
 have h1:=(h0.stored (x*3) (.int .u64 r.key)).1
 have h2:=(h1.stored (x*3+1) (.int .i64 r.aQ)).1
 have h3:=(h2.stored (x*3+2) (.bool r.known)).1
 have e:∀(l:List Rw) (x:Nat) (hx:x<l.length),(((l.flatMap uG).set (x*3) (.int .u64 r.key)).set (x*3+1) (.int .i64 r.aQ)).set (x*3+2) (.bool r.known)=(l.set x r).flatMap uG:=by
  intro l
  induction l with
  |nil=>intro x hx;simp at hx
  |cons a l ih=>
   intro x hx
   cases x with
   |zero=>simp[uG]
   |succ x=>
    have:=ih x (by simpa using hx)
    rw[show(x+1)*3=x*3+3 by omega]
    simp only[agW,uG,agZ,agH,agv,agu]at this⊢
    rw[<-this]
 refine⟨?_,?_,?_,h0.frozenAt⟩
 .show World.ownsRow _ n0 142 3 (.slice (some ⟨gr,0,none⟩) rows.length cap) (rows.set x r).length ((rows.set x r).flatMap uG)
  rw[agL,<-e rows x hx]
  exact h3
 .rcases h.2 with⟨e,-⟩|⟨g,c,cur,e,hb,hg,-⟩
  .cases e
  .simp only[agn,agG,ahp]at e
   obtain⟨⟨rfl,-⟩,-⟩:=e
   exact⟨cur,hg⟩
 .rcases h.2 with⟨e,-⟩|⟨g,c,cur,e,hb,hg,-⟩
  .cases e
  .simp only[agn,agG,ahp]at e
   obtain⟨⟨rfl,-⟩,-⟩:=e
   exact hb
theorem Vt(hwf:Wf E)(hnd:(E.map En.ru).Nodup)(hok:gU E rows)(h0:0<x)(hx:x<=E.length)(hl:x<rows.length){r:Ru}(hr:(aF E x).ru=r)(hE:E.length<=1048576):
    (r.ok/\r.left<x/\r.right<x/\(r.kind=1\/r.kind=2\/r.kind=3)/\r.letter<256)/\
    ((r.left≠0/\rows[r.left]?=some mH)\/(r.left≠0/\r.right≠0/\rows[r.right]?=some mH/\∃a,rows[r.left]?=some a/\a.known=true)\/
     ∃a b,rows[r.left]?=some a/\rows[r.right]?=some b/\oF r a b=rowOf (sym E x)/\((r.left=0/\r.right=0)\/(r.left≠0/\a.known=true/\r.right=0)\/(r.left≠0/\a.known=true/\r.right≠0/\b.known=true))):=by
 have hget:∀i,i<x->∃a,rows[i]?=some a:=λi hi=>⟨rows[i]'(by omega),agt (by omega)⟩
 have hdec:∀i,0<i->i<x->rows[i]?=some mH\/(rows[i]?=some (rowOf (sym E i))/\(rowOf (sym E i)).known=true):=λi i0 hi=>by
  obtain⟨a,ha⟩:=hget i hi
  rcases hok i a ha with rfl|⟨-,-,rfl⟩
  .exact .inl ha
  .exact .inr ⟨ha,rfl⟩
 rcases fI hwf h0 hx with⟨b,r1,s1,hb⟩|⟨l,q,r1,s1,l1,l2,l3,l4⟩|⟨y,k,r1,s1,l1,l2,l3,l4⟩
 .rw[r1]at hr
  subst hr
  refine⟨⟨⟨by show 1<=_;omega,by show b<=255;omega,agb _,agb _,agb _⟩,h0,h0,.inl rfl,hb⟩,.inr (.inr ?_)⟩
  obtain⟨a,ha⟩:=hget 0 h0
  exact⟨a,a,ha,ha,by rw[s1];exact KP b a a,.inl ⟨rfl,rfl⟩⟩
 .rw[r1]at hr
  subst hr
  refine⟨⟨⟨by show 2<=_;omega,agb _,by show l<=_;omega,by show q<=_;omega,agb _⟩,l2,l4,.inr (.inl rfl),by show 0<256;omega⟩,?_⟩
  rcases hdec l l1 l2 with hl'|⟨hl',kl⟩
  .exact .inl ⟨by show l≠0;omega,hl'⟩
  .rcases hdec q l3 l4 with hq'|⟨hq',kq⟩
   .exact .inr (.inl ⟨by show l≠0;omega,by show q≠0;omega,hq',_,hl',kl⟩)
   .refine .inr (.inr ⟨_,_,hl',hq',?_,.inr (.inr ⟨by show l≠0;omega,kl,by show q≠0;omega,kq⟩)⟩)
    rw[s1]
    exact Ro ⟨λe=>by rw[e],λe=>FE hwf hnd _ _ l1 (by omega) l3 (by omega) e⟩
 .rw[r1]at hr
  subst hr
  refine⟨⟨⟨by show 3<=_;omega,agb _,by show y<=_;omega,agb _,by show k<=_;omega⟩,l2,h0,.inr (.inr rfl),by show 0<256;omega⟩,?_⟩
  rcases hdec y l1 l2 with hl'|⟨hl',kl⟩
  .exact .inl ⟨by show y≠0;omega,hl'⟩
  .obtain⟨a,ha⟩:=hget 0 h0
   refine .inr (.inr ⟨_,_,hl',ha,?_,.inr (.inl ⟨by show y≠0;omega,kl,rfl⟩)⟩)
   rw[s1]
   exact Ox l3 a
end M
end
end Go.Proofs.YtgbhohfabhilgaaGreatDoor
