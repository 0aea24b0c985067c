import Derived.Test.YtgbhohfabhilgaaGreatDoorBase24
set_option maxRecDepth 100000
set_option maxHeartbeats 8000000
set_option linter.unusedVariables false
set_option linter.unusedSimpArgs false
namespace Go.Proofs.YtgbhohfabhilgaaGreatDoor
section
open Go.RowKit Go.Lib
namespace M
attribute [local go_sem] Oper.semAt_some
variable{E:List En}{lo sb:Nat}{vL vM vR:Value}{W:World}{s:iD}
theorem SV{pa:Nat}{cs:Array Value}(hS:bQ W E lo sb pa s cs vL vR vM){z:Sy}(hz:j5 s=some z):z∈syms E:=by
 unfold j5 at hz;split at hz
 .obtain⟨q2,hq2,e2⟩:=ahx.1 hz;rw[<-e2];exact(hS.right.sym q2.1 q2.2 hq2).1
 next i l hm=>injection hz with hz;rw[<-hz];exact(hS.mem i (by rw[hm];simp)).1
theorem SX{pa:Nat}{cs:Array Value}(hS:bQ W E lo sb pa s cs vL vR vM){z:Sy}(hz:jT s=some z):z∈syms E:=by
 unfold jT at hz;split at hz
 .obtain⟨q2,hq2,e2⟩:=ahx.1 hz;rw[<-e2];exact(hS.left.sym q2.1 q2.2 hq2).1
 next i hm=>injection hz with hz;rw[<-hz];exact(hS.mem i (ah1 hm)).1
theorem V3(n:Nat)(s:iD):(fC n s).R=s.R/\(fC n s).mid.length<=s.mid.length+1:=by
 unfold fC;split
 .exact⟨rfl,aiT _⟩
 split
 .exact⟨rfl,af7 _⟩
 exact⟨rfl,aiT _⟩
theorem Cy{n0 B most g:Nat}{F:List Sy}(h:gV n0 B most g F E W){pa n:Nat}{cs:Array Value}(hlo:n0<=lo)(hp:iW W pa B g)(hpa:pa<lo)(hS:bQ W E lo sb pa s cs vL vR vM)(hBL:Qf s.L)(hBR:Qf s.R)(kM:s.mid.length<=900000)(hn:n<=100000)(hod:(n+1)%2=1):
    Calls Tryz.prog 179 #[.pointer (some ⟨sb,0,none⟩),.int .i64 ((n+1:Nat):Int)] W λe w'=>e=.returned (.tuple #[])/\kC n0 B most g F E W lo sb pa (iN n (fC n s)) E w':=by
 have HF:∀f,Fence.wide.fn f:=λ_=>trivial;have HS:=ak hS;have HP:=ak h;have fV:=ak hp;have eG:=ak (And.intro hlo hpa);have I5:=ak hBL;have XG:=ak hBR;have pY:=ak kM;have HOD:=ak hod;have jZ:=ak (za hS (by omega));obtain⟨nf,hnf⟩:=ay (VY E (j5 s));obtain⟨kf,hkf⟩:=ay (SL (j5 s));rw[hnf,hkf]at jZ;have HNF:=ak hnf;go_enter Tryz.func179,Tryz.ntmps179;go_wp2_with fail
 refine jZ.o.mono ?_;rintro r w1 ⟨rfl,hb1⟩;have HB1:=ak hb1;have c40:=(HS.o.below HB1.o).cL.1;go_upto_if 22 with(fail);go_cut [] from 6 (λw=>kC n0 B most g F E W lo sb pa (fC n s) E w)
 case first=>
  cases hL:s.L with
  |none=>
   have he:fC n s=s:=by unfold fC;rw[hL]
   have c4:=(HS.o.below HB1.o).cL.1;rw[hL]at c4;replace c4:w1.cell? ⟨sb,4,none⟩=some (.int .i64 0):=c4;have HR:aA (kC n0 B most g F E W lo sb pa (fC n s) E w1):=by rw[he];exact ak ⟨_,_,_,_,HS.o.below HB1.o,Gw.of HP.o HB1.o⟩
   go_wp2_with fail
   go_meet
   case rel=>exact HR.o
  |some q0=>
   obtain⟨p,x⟩:=q0;have hB:=I5.o;rw[hL]at hB;have hx:=HS.o.left.sym p x hL;have DX:J6 W E 251 lo sb 1 pa false (some (p,x)) cs vL:=by rw[<-hL];exact HS.o.left
   have hr:iq W E 251 lo sb 1 pa false p (num E x) (key x) cs vL:=DX.r;obtain⟨d1,d2,d3,d4⟩:=su hB;obtain⟨ix,hix⟩:=ay (num E x);obtain⟨kx,hkx⟩:=ay (key x);have c4:=(HS.o.below HB1.o).cL.1;rw[hL]at c4;replace c4:w1.cell? ⟨sb,4,none⟩=some (.int .i64 ix):=by rw[<-hix];exact c4
   have hi0:¬(ix:Int)=0:=by have:=(aS hx.1).1;omega
   have Gf:((ix:Int)==0)=false:=agh.2 hi0;have adB:((ix:Int) !=0)=true:=by simpa using hi0
   have hpl:=(hB p x rfl).2.2;have hpw:∀y h' q,p=(y,h')::q->aQ y=n+1->∃a t,y=.pw a t:=λy h' q _ hl=>yK hl HOD.o;have SY:=ak (Nq (hr.below HB1.o) (n:=n+1) hpl hpw);obtain⟨⟨t,ct⟩,htk⟩:∃q,kD (n+1) p=q:=⟨_,rfl⟩;rw[htk]at SY;dsimp only at SY;have Gg:aA (t<=1152921504606846976):=ak (by
    have e1:t=(kD (n+1) p).1:=(by rw[htk]);cases p with
    |nil=>rw[e1];show 1<=_;omega
    |cons f q=>
     obtain⟨y,h'⟩:=f;have:=(d1 (y,h') (by simp)).2.2;rw[e1];show(if aQ y=n+1 then(h',decide (h'<(aZ y).length))else(1,false)).1<=_;split
     .exact this
     show 1<=_;omega)
   have V4:aA (∀y h' q,p=(y,h')::q->t<=h'):=ak (by
    intro y h' q e;have e1:t=(kD (n+1) p).1:=(by rw[htk]);have h1:=d2 y h' q e;rw[e1,e];show(if aQ y=n+1 then(h',decide (h'<(aZ y).length))else(1,false)).1<=_;split
    .exact af7 _
    exact h1)
   have HX:=ak (And.intro hix (And.intro hkx hx));have HL:=ak hL;have HD:=ak (And.intro d1 (And.intro d2 (And.intro d3 d4)));have heq:(j5 s=some x)↔nf=ix:=by
    rw[<-HNF.o];cases hz:j5 s with
    |none=>
     constructor
     .intro q;cases q
     intro q;have q':0=ix:=q;omega
    |some z=>
     have Lj:z∈syms E:=SV HS.o hz;constructor
     .intro q;injection q with q;rw[q];exact hix
     intro q;have q':num E z=ix:=q;rw[<-(aS Lj).2.2,q',<-hix,(aS hx.1).2.2]
   by_cases hgo:ct=true\/j5 s=some x
   .have SN:aA (fC n s=⟨bE false n t p,⟨x,none,t⟩::s.mid,s.R⟩):=ak (by
     unfold fC;rw[hL];dsimp only;rw[htk];exact af5 hgo)
    have hcc:ct=true\/(ct=false/\nf=ix):=by
     cases hct:ct with
     |true=>exact .inl rfl
     |false=>
      rcases hgo with q|q
      .rw[hct]at q;cases q
      exact .inr ⟨rfl,heq.1 q⟩
    rcases hcc with rfl|⟨rfl,hnf⟩;rotate_left
    case' _=>
     have aaC:(ix:Int)=(nf:Int):=(by omega);have aaD:((ix:Int)==(nf:Int))=true:=by rw[aaC];exact ai4 _
    rotate_left
    all_goals
     go_wp2_with fail
     refine SY.o.mono ?_;rintro r w2 ⟨rfl,hb2⟩;have HB:aA (Below W.heap.size W w2):=ak (Below.after HB1.o hb2)
    case' _=>
     go_wp2_with fail
    rotate_left
    case' _=>
     have c42:w2.cell? ⟨sb,4,none⟩=some (.int .i64 ix):=by
      have:=(HS.o.below HB.o).cL.1;rw[HL.o]at this;rw[<-HX.o.1];exact this
     have aaE:=hnf.symm;subst aaE;go_wp2_with fail
    all_goals
     have e11:∀w,iC sb cs w->w.cell? ⟨sb,11,none⟩=some vM:=λw hw=>hw.at HS.o.c11;have e4:∀w,iC sb cs w->w.cell? ⟨sb,4,none⟩=some (.int .i64 ix):=λw hw=>hw.at (by have:=HS.o.left.r.c3;rw[HL.o]at this;rw[<-HX.o.1];exact this);have e5:∀w,iC sb cs w->w.cell? ⟨sb,5,none⟩=some (.int .u64 kx):=λw hw=>hw.at (by have:=HS.o.left.r.c4;rw[HL.o]at this;rw[<-HX.o.2.1];exact this);refine aU (iC sb cs) ?_;obtain⟨we,bU⟩:=ay (w2.drew);have hbe:Below w2.heap.size w2 we:=(by rw[<-bU];exact(af6 _ _).drew);rw[bU];have kV:aA (Below W.heap.size W we):=ak (Below.after HB.o hbe);have S0:iC sb cs we:=(HS.o.below kV.o).blk;refine bJ 0 1 2 3 4 5 ?_;refine bJ 6 7 8 9 10 11 ?_;refine zD 12 13 14 15 16 ?_;refine aT 17 λK hK=>?_;go_simp;obtain⟨wa,Ah⟩:=ay (we.alloc (.cells #[.int .i64 ix,.int .i64 0,.int .u64 kx,.int .i64 t] 254));obtain⟨vb,hvb⟩:=ay (we.heap.size);have hba:Below we.heap.size we wa:=(by rw[<-Ah];exact(af6 _ _).alloc (af7 _) _);have qI:iC sb cs wa:=au hba S0;have HA:aA (Below W.heap.size W wa/\wa.heap[vb]?=some (.cells (jK E ⟨x,none,t⟩).toArray 254 (0,0))/\vM.ownBlock≠some vb):=ak ⟨Below.after kV.o hba,by
      rw[<-Ah,<-hvb,aD];show _=some (Obj.cells #[vI (num E x),vI 0,vK (key x),vI t] _ _);rw[HX.o.1,HX.o.2.1];rfl,λq=>by
      have:=(HS.o.sj q).2.2.2.2;have:=kV.o.size;omega⟩
     rw[Ah,hvb];refine hK _ _ qI ?_;refine aT 18 λK hK=>?_;go_simp
     try with_reducible refine⟨rfl,?_⟩
     refine agq.2 ((AU (bG E) (eF E) (lo:=lo) (by have:=HA.o.1.size;have:=HS.o.lt;have:=HS.o.low;omega) (HS.o.mid.below HA.o.1) (by have:=pY.o;omega) HA.o.2.1 HA.o.2.2).mono ?_);rintro r w7 hI;obtain⟨a7,m7,c7,rfl,fB,gM,fE⟩:=jy HS.o HP.o eG.o.1 HA.o.1 hI (λi hi=>by
      rcases agm.1 hi with rfl|hi
      .exact⟨HX.o.2.2.1,λy e=>(by cases e),Gg.o⟩
      exact HS.o.mem i hi)
     refine hK _ _ fB ?_;refine tk2 19 20 ?_;refine aJ.cK 21 (by kernel_rfl) ?_;simp only[agr,agj];have c11:w7.cell? ⟨sb,11,none⟩=some vM:=fB.at HS.o.c11;have f11:w7.frozen? ⟨sb,11,none⟩=false:=by
      unfold iC at fB;simp[World.frozen?,fB]
     obtain⟨w8,hw8⟩:=ay (w7.setCell ⟨sb,11,none⟩ (.slice a7 m7 c7));rw[hw8]at gM fE;have dF:=gM.left;dsimp only at dF;rw[HL.o]at dF;have HDR:=ak (gZ (t:=t) (n:=n) fE.st (fO eG.o.1 HS.o.low) (fV.o.kp fE.kp (by have:=eG.o.2;omega)) dF HD.o.1 V4.o HD.o.2.2.1 HD.o.2.2.2);have Cw:=ak gM;have mJ:=ak fE;gi_wp2_with fail
     go_wp2_with fail
     refine HDR.o.mono ?_;rintro r w9 ⟨rfl,hE⟩;obtain⟨SS,v9,sw,sD⟩:=Cw.o.opL mJ.o.st.wf.wf hE;have Cx:aA (kC n0 B most g F E W lo sb pa (fC n s) E w9):=ak (by rw[SN.o];exact⟨_,_,_,_,sw,mJ.o.trans sD⟩);go_wp2_with fail
     go_meet
     case rel=>exact Cx.o
   have he:fC n s=s:=by
    unfold fC;rw[hL];dsimp only;rw[htk];exact af4 hgo
   have hct:ct=false:=by cases hq:ct with|true=>exact absurd (.inl hq) hgo|false=>rfl
   have hnf:¬(ix:Int)=(nf:Int):=λq=>hgo (.inr (heq.2 (by omega)));have aaD:((ix:Int)==(nf:Int))=false:=agh.2 hnf;subst hct;have HRR:aA (∀w,Below W.heap.size W w->kC n0 B most g F E W lo sb pa (fC n s) E w):=ak λw HBx=>by rw[he];exact⟨_,_,_,_,HS.o.below HBx,Gw.of HP.o HBx⟩
   go_wp2_with fail
   refine SY.o.mono ?_;rintro r w2 ⟨rfl,hb2⟩;have HB:aA (Below W.heap.size W w2):=ak (Below.after HB1.o hb2);have HR:=ak (HRR.o w2 HB.o);have c42:w2.cell? ⟨sb,4,none⟩=some (.int .i64 ix):=by
    have:=(HS.o.below HB.o).cL.1;rw[HL.o]at this;rw[<-HX.o.1];exact this
   go_wp2_with fail
   go_meet
   case rel=>exact HR.o
 obtain⟨cs1,vL1,vR1,vM1,hS1,hG1⟩:=hcut;have h1:=V3 n s;have V5:aA ((fC n s).mid.length<=900001):=ak (by have:=pY.o;omega);have aaF:aA (Qf (fC n s).R):=ak (by rw[h1.1];exact XG.o);obtain⟨s1,hs1⟩:=ay (fC n s);rw[hs1]at hS1 V5 aaF;have V6:=ak hs1;have HS:=ak hS1;have I5:=aaF;have HGW:=ak hG1;have adE:aA (iW wc pa B g):=ak (fV.o.kp hG1.kp (by have:=eG.o.2;omega));have HP1:aA (gV n0 B most g F E wc):=ak hG1.st;have fV:=adE;have HP:=HP1;have HLI:=ak (Cu HS.o (by have:=V5.o;omega));have pY:aA (s1.mid.length<=900001):=V5;obtain⟨s,hs⟩:=ay (s1);subst hs;obtain⟨nf,hnf⟩:=ay (VY E (jT s1));obtain⟨kf,hkf⟩:=ay (SL (jT s1));rw[hnf,hkf]at HLI;have HNF:=ak hnf;go_wp2_with fail
 refine HLI.o.mono ?_;rintro r w1 ⟨rfl,hb1⟩;have HB1:=ak hb1;cases hL:s1.R with
 |none=>
  have he:iN n s1=s1:=by unfold iN;rw[hL]
  have c4:=(HS.o.below HB1.o).cR.1;rw[hL]at c4;replace c4:w1.cell? ⟨sb,9,none⟩=some (.int .i64 0):=c4;have HR:aA (kC n0 B most g F E W lo sb pa (iN n s1) E w1):=by rw[he];exact ak ⟨_,_,_,_,HS.o.below HB1.o,HGW.o.trans (Gw.of HP.o HB1.o)⟩
  go_wp2_with fail
  go_end0;exact⟨rfl,by rw[V6.o];exact HR.o⟩
 |some q0=>
  obtain⟨p,x⟩:=q0;have hB:=I5.o;rw[hL]at hB;have hx:=HS.o.right.sym p x hL;have DX:J6 wc E 251 lo sb 6 pa true (some (p,x)) cs1 vR1:=by rw[<-hL];exact HS.o.right
  have hr:iq wc E 251 lo sb 6 pa true p (num E x) (key x) cs1 vR1:=DX.r;obtain⟨d1,d2,d3,d4⟩:=su hB;obtain⟨ix,hix⟩:=ay (num E x);obtain⟨kx,hkx⟩:=ay (key x);have c4:=(HS.o.below HB1.o).cR.1;rw[hL]at c4;replace c4:w1.cell? ⟨sb,9,none⟩=some (.int .i64 ix):=by rw[<-hix];exact c4
  have hi0:¬(ix:Int)=0:=by have:=(aS hx.1).1;omega
  have Gf:((ix:Int)==0)=false:=agh.2 hi0;have adB:((ix:Int) !=0)=true:=by simpa using hi0
  have hpl:=(hB p x rfl).2.2;have hpw:∀y h' q,p=(y,h')::q->aQ y=n+1->∃a t,y=.pw a t:=λy h' q _ hl=>yK hl HOD.o;have SY:=ak (Nq (hr.below HB1.o) (n:=n+1) hpl hpw);obtain⟨⟨t,ct⟩,htk⟩:∃q,kD (n+1) p=q:=⟨_,rfl⟩;rw[htk]at SY;dsimp only at SY;have Gg:aA (t<=1152921504606846976):=ak (by
   have e1:t=(kD (n+1) p).1:=by rw[htk]
   cases p with
   |nil=>rw[e1];show 1<=_;omega
   |cons f q=>
    obtain⟨y,h'⟩:=f;have:=(d1 (y,h') (by simp)).2.2;rw[e1];show(if aQ y=n+1 then(h',decide (h'<(aZ y).length))else(1,false)).1<=_;split
    .exact this
    show 1<=_;omega)
  have V4:aA (∀y h' q,p=(y,h')::q->t<=h'):=ak (by
   intro y h' q e;have e1:t=(kD (n+1) p).1:=by rw[htk]
   have h1:=d2 y h' q e;rw[e1,e];show(if aQ y=n+1 then(h',decide (h'<(aZ y).length))else(1,false)).1<=_;split
   .exact af7 _
   exact h1)
  have HX:=ak (And.intro hix (And.intro hkx hx));have HL:=ak hL;have HD:=ak (And.intro d1 (And.intro d2 (And.intro d3 d4)));have heq:(jT s1=some x)↔nf=ix:=by
   rw[<-HNF.o];cases hz:jT s1 with
   |none=>
    constructor
    .intro q;cases q
    intro q;have q':0=ix:=q;omega
   |some z=>
    have Lj:z∈syms E:=SX HS.o hz;constructor
    .intro q;injection q with q;rw[q];exact hix
    intro q;have q':num E z=ix:=q;rw[<-(aS Lj).2.2,q',<-hix,(aS hx.1).2.2]
  by_cases hgo:ct=true\/jT s1=some x
  .have SN:aA (iN n s1=⟨s1.L,s1.mid++[⟨x,none,t⟩],bE true n t p⟩):=ak (by
    unfold iN;rw[hL];dsimp only;rw[htk];exact af5 hgo)
   have hcc:ct=true\/(ct=false/\nf=ix):=by
    cases hct:ct with
    |true=>exact .inl rfl
    |false=>
     rcases hgo with q|q
     .rw[hct]at q;cases q
     exact .inr ⟨rfl,heq.1 q⟩
   rcases hcc with rfl|⟨rfl,hnf⟩;rotate_left
   case' _=>
    have aaC:(ix:Int)=(nf:Int):=(by omega);have aaD:((ix:Int)==(nf:Int))=true:=by rw[aaC];exact ai4 _
   rotate_left
   all_goals
    go_wp2_with fail
    refine SY.o.mono ?_;rintro r w2 ⟨rfl,hb2⟩;have HB:aA (Below wc.heap.size wc w2):=ak (Below.after HB1.o hb2)
   case' _=>
    go_wp2_with fail
   rotate_left
   case' _=>
    have c42:w2.cell? ⟨sb,9,none⟩=some (.int .i64 ix):=by
     have:=(HS.o.below HB.o).cR.1;rw[HL.o]at this;rw[<-HX.o.1];exact this
    have aaE:=hnf.symm;subst aaE;go_wp2_with fail
   all_goals
    have e11:∀w,iC sb cs1 w->w.cell? ⟨sb,11,none⟩=some vM1:=λw hw=>hw.at HS.o.c11;have e4:∀w,iC sb cs1 w->w.cell? ⟨sb,9,none⟩=some (.int .i64 ix):=λw hw=>hw.at (by have:=HS.o.right.r.c3;rw[HL.o]at this;rw[<-HX.o.1];exact this);have e5:∀w,iC sb cs1 w->w.cell? ⟨sb,10,none⟩=some (.int .u64 kx):=λw hw=>hw.at (by have:=HS.o.right.r.c4;rw[HL.o]at this;rw[<-HX.o.2.1];exact this);refine aU (iC sb cs1) ?_;obtain⟨we,bU⟩:=ay (w2.drew);have hbe:Below w2.heap.size w2 we:=(by rw[<-bU];exact(af6 _ _).drew);rw[bU];have kV:aA (Below wc.heap.size wc we):=ak (Below.after HB.o hbe);have S0:iC sb cs1 we:=(HS.o.below kV.o).blk;refine bJ 0 1 2 3 4 5 ?_;refine bJ 6 7 8 9 10 11 ?_;refine zD 12 13 14 15 16 ?_;refine aT 17 λK hK=>?_;go_simp;have qI:iC sb cs1 (we.alloc (.cells #[.int .i64 ix,.int .i64 0,.int .u64 kx,.int .i64 t] 254)):=au ((af6 _ _).alloc (af7 _) _) S0;refine hK _ _ qI ?_;obtain⟨v7,w7,hrun,hs7,hgr,oI,EI⟩:=eB m_ (bG E) 249 (HS.o.mid.below kV.o) (⟨x,none,t⟩:It) 1 (cs:=#[.int .i64 ix,.int .i64 0,.int .u64 kx,.int .i64 t]) (by
     show _=[vI (num E x),vI 0,vK (key x),vI t];rw[HX.o.1,HX.o.2.1];rfl) (eF E _) (by have:=pY.o;omega) (by have:=kV.o.size;have:=HS.o.lt;have:=HS.o.low;omega)
    obtain⟨a7,m7,c7,rfl⟩:∃a m c,v7=.slice a m c:=(by obtain⟨a,c,h⟩:=hs7.len;exact⟨_,_,_,h⟩);have hI:vD lo (jK E) we (s1.mid++[⟨x,none,t⟩]) (.returned (.slice a7 m7 c7)) w7:=⟨_,rfl,hs7,bS.own (HS.o.mid.below kV.o) (af6 _ _) (aM (ahG we _ _) hgr) (agl.2 rfl),oI⟩;obtain⟨a8,m8,c8,e8,fB,gM,fE⟩:=jy HS.o HP.o eG.o.1 kV.o hI (HS.o.mem.app (λi hi=>by
     rw[agl.1 hi];exact⟨HX.o.2.2.1,λy e=>(by cases e),Gg.o⟩))
    simp only[aib,agn]at e8;obtain⟨rfl,rfl,rfl⟩:=e8;have vE:=ak gM;have vF:=ak fE;have lW:=ak fB;refine aT 18 λK hK=>?_;simp[execOp,resolve,invoke,builtin,hrun,Result.andThen,Act.eval,Oper.uponIn];have hS:=lW.o;refine hK _ _ hS ?_;refine tk2 19 20 ?_;refine aJ.cK 21 (by kernel_rfl) ?_;simp only[agr,agj];have fB:=lW.o;have gM:=vE.o;have fE:=vF.o;have c11:w7.cell? ⟨sb,11,none⟩=some vM1:=fB.at HS.o.c11;have f11:w7.frozen? ⟨sb,11,none⟩=false:=by
     unfold iC at fB;simp[World.frozen?,fB]
    obtain⟨w8,hw8⟩:=ay (w7.setCell ⟨sb,11,none⟩ (.slice a7 m7 c7));rw[hw8]at gM fE;have dF:=gM.right;dsimp only at dF;rw[HL.o]at dF;have HDR:=ak (gZ (t:=t) (n:=n) fE.st (fO eG.o.1 HS.o.low) (fV.o.kp fE.kp (by have:=eG.o.2;omega)) dF HD.o.1 V4.o HD.o.2.2.1 HD.o.2.2.2);have Cw:=ak gM;have mJ:=ak fE;gi_wp2_with fail
    go_wp2_with fail
    refine HDR.o.mono ?_;rintro r w9 ⟨rfl,hE⟩;obtain⟨SS,v9,sw,sD⟩:=Cw.o.UC mJ.o.st.wf.wf hE;have Cx:aA (kC n0 B most g F E W lo sb pa (iN n s1) E w9):=ak (by rw[SN.o];exact⟨_,_,_,_,sw,HGW.o.trans (mJ.o.trans sD)⟩);go_wp2_with fail
    go_end0;exact⟨rfl,by rw[V6.o];exact Cx.o⟩
  have he:iN n s1=s1:=by
   unfold iN;rw[hL];dsimp only;rw[htk];exact af4 hgo
  have hct:ct=false:=by cases hq:ct with|true=>exact absurd (.inl hq) hgo|false=>rfl
  have hnf:¬(ix:Int)=(nf:Int):=λq=>hgo (.inr (heq.2 (by omega)));have aaD:((ix:Int)==(nf:Int))=false:=agh.2 hnf;subst hct;have HRR:aA (∀w,Below wc.heap.size wc w->kC n0 B most g F E W lo sb pa (iN n s1) E w):=ak λw HBx=>by rw[he];exact⟨_,_,_,_,HS.o.below HBx,HGW.o.trans (Gw.of HP.o HBx)⟩
  go_wp2_with fail
  refine SY.o.mono ?_;rintro r w2 ⟨rfl,hb2⟩;have HB:aA (Below wc.heap.size wc w2):=ak (Below.after HB1.o hb2);have HR:=ak (HRR.o w2 HB.o);have c42:w2.cell? ⟨sb,9,none⟩=some (.int .i64 ix):=by
   have:=(HS.o.below HB.o).cR.1;rw[HL.o]at this;rw[<-HX.o.1];exact this
  go_wp2_with fail
  go_end0;exact⟨rfl,by rw[V6.o];exact HR.o⟩
end M
end
end Go.Proofs.YtgbhohfabhilgaaGreatDoor
