import Derived.Test.YtgbhohfabhilgaaGreatDoorBase23
set_option maxRecDepth 100000
set_option maxHeartbeats 8000000
set_option linter.unusedVariables false
set_option linter.unusedSimpArgs false
namespace Go.Proofs.YtgbhohfabhilgaaGreatDoor
section
open Go.RowKit Go.Lib
namespace M
attribute [local go_sem] Oper.semAt_some
def SL:Option Sy->Nat
 |none=>0
 |some x=>key x
theorem AV(E:List En)(e:Ed):Uw E e=VY E (e.map (·.2))/\O7 e=SL (e.map (·.2)):=by
 cases e with
 |none=>exact⟨rfl,rfl⟩
 |some q=>exact⟨rfl,rfl⟩
section
variable {W:World} {E:List En} {lo sb pa:Nat} {s:iD} {cs:Array Value} {vL vR vM:Value}
theorem bQ.cL(h:bQ W E lo sb pa s cs vL vR vM):W.cell? ⟨sb,4,none⟩=some (vI (Uw E s.L))/\W.cell? ⟨sb,5,none⟩=some (vK (O7 s.L)):=⟨h.left.r.cells.2.2.2.1,h.left.r.cells.2.2.2.2.1⟩
theorem bQ.cR(h:bQ W E lo sb pa s cs vL vR vM):W.cell? ⟨sb,9,none⟩=some (vI (Uw E s.R))/\W.cell? ⟨sb,10,none⟩=some (vK (O7 s.R)):=⟨h.right.r.cells.2.2.2.1,h.right.r.cells.2.2.2.2.1⟩
theorem bQ.Gc(h:bQ W E lo sb pa s cs vL vR vM)(hm:s.mid=[]):∃a cap,vM=.slice a 0 cap:=by
 obtain⟨a,c,e⟩:=h.mid.len
 rw[hm]at e
 exact⟨a,c,e⟩
theorem bQ.xI(h:bQ W E lo sb pa s cs vL vR vM)(hm:s.mid≠[]):∃g cap,vM=.slice (some ⟨g,0,none⟩) s.mid.length cap/\s.mid.length<=cap/\∀(W':World),Below W.heap.size W W'->∀(j:Nat) (i:It),s.mid[j]?=some i->W'.cell? ⟨g,j*4,none⟩=some (vI (num E i.x))/\W'.cell? ⟨g,j*4+1,none⟩=some (vI (VY E i.nx))/\W'.cell? ⟨g,j*4+2,none⟩=some (vK (key i.x))/\W'.cell? ⟨g,j*4+3,none⟩=some (vI i.times):=by
 have hmid:=h.mid
 rcases hmid.shape with⟨-,e⟩|⟨g,cap,rfl,h1,h2⟩
 .exact absurd e hm
 .refine⟨g,cap,rfl,h1,λW' hb j i hj=>?_⟩
  obtain⟨hlt,he⟩:=agA.1 hj
  have hs:=hmid.below hb
  have c0:=aP.cell (bG E) hs hlt (j:=0) (by omega)
  have c1:=aP.cell (bG E) hs hlt (j:=1) (by omega)
  have c2:=aP.cell (bG E) hs hlt (j:=2) (by omega)
  have c3:=aP.cell (bG E) hs hlt (j:=3) (by omega)
  rw[he]at c0 c1 c2 c3
  exact⟨c0,c1,c2,c3⟩
theorem za(h:bQ W E lo sb pa s cs vL vR vM)(hl:s.mid.length<=1000000):
    Calls Tryz.prog 207 #[.pointer (some ⟨sb,0,none⟩)] W λe w'=>e=.returned (.tuple #[vI (VY E (j5 s)),vK (SL (j5 s))])/\Below W.heap.size W w':=by
 have HF:∀f,Fence.wide.fn f:=λ_=>trivial
 cases hm:s.mid with
 |nil=>
  obtain⟨a,cap,rfl⟩:=h.Gc hm
  have hf:j5 s=s.R.map (·.2):=by unfold j5;rw[hm]
  rw[hf,<-(AV E s.R).1,<-(AV E s.R).2]
  obtain⟨i,hi⟩:=ay (Uw E s.R)
  obtain⟨k,hk⟩:=ay (O7 s.R)
  rw[hi,hk]
  have c11:=h.jD
  have e9:∀w,Below W.heap.size W w->w.cell? ⟨sb,9,none⟩=some (.int .i64 i):=λw hw=>by rw[<-hi];exact(h.below hw).cR.1
  have e10:∀w,Below W.heap.size W w->w.cell? ⟨sb,10,none⟩=some (.int .u64 k):=λw hw=>by rw[<-hk];exact(h.below hw).cR.2
  clear h hm hl hf hi hk
  go_enter Tryz.func207,Tryz.ntmps207
  go_wp2_with fail
  refine aU (Below W.heap.size W) ?_
  have S0:Below W.heap.size W W.drew:=(af6 _ _).drew
  obtain⟨we,bU⟩:=ay (W.drew)
  rw[bU]at S0⊢
  refine bJ 0 1 2 3 4 5 ?_
  refine bJ 6 7 8 9 10 11 ?_
  refine aO ?_
  go_wp2_with fail
  exact af_ (v:=.tuple #[.int .i64 i,.int .u64 k]) (by simp[results,Tryz.results207,go_sem]) rfl ⟨rfl,S0⟩
 |cons it l=>
  obtain⟨g,cap,rfl,hc,hat⟩:=h.xI (by rw[hm];simp)
  have hf:j5 s=some it.x:=by unfold j5;rw[hm]
  rw[hf]
  show Calls _ _ _ _ λe w'=>e=.returned (.tuple #[vI (num E it.x),vK (key it.x)])/\_
  obtain⟨i,hi⟩:=ay (num E it.x)
  obtain⟨k,hk⟩:=ay (key it.x)
  rw[hi,hk]
  have c11:=h.jD
  have e9:∀w,Below W.heap.size W w->w.cell? ⟨g,0,none⟩=some (.int .i64 i):=λw hw=>by
   have:=(hat w hw 0 it (by rw[hm];rfl)).1
   rw[<-hi];exact this
  have e10:∀w,Below W.heap.size W w->w.cell? ⟨g,2,none⟩=some (.int .u64 k):=λw hw=>by
   have:=(hat w hw 0 it (by rw[hm];rfl)).2.2.1
   rw[<-hk];exact this
  have e11:∀w,Below W.heap.size W w->w.cell? ⟨sb,11,none⟩=some (.slice (some ⟨g,0,none⟩) s.mid.length cap):=λw hw=>(h.below hw).jD
  obtain⟨n,hn⟩:=ay (s.mid.length)
  rw[hn]at c11 e11 hl
  have hn1:(n:Int)>0:=by rw[hm]at hn;simp at hn;omega
  have hn2:0<n:=by omega
  clear h hm hf hi hk hat hc hn
  go_enter Tryz.func207,Tryz.ntmps207
  go_wp2_with fail
  refine aU (Below W.heap.size W) ?_
  have S0:Below W.heap.size W W.drew:=(af6 _ _).drew
  obtain⟨we,bU⟩:=ay (W.drew)
  rw[bU]at S0⊢
  refine bJ 0 1 2 3 4 5 ?_
  refine bJ 6 7 8 9 10 11 ?_
  refine tk4 12 13 14 15 ?_
  refine aO ?_
  go_wp2_with fail
  exact af_ (v:=.tuple #[.int .i64 i,.int .u64 k]) (by simp[results,Tryz.results207,go_sem]) rfl ⟨rfl,S0⟩
theorem Cu(h:bQ W E lo sb pa s cs vL vR vM)(hl:s.mid.length<=1000000):
    Calls Tryz.prog 211 #[.pointer (some ⟨sb,0,none⟩)] W λe w'=>e=.returned (.tuple #[vI (VY E (jT s)),vK (SL (jT s))])/\Below W.heap.size W w':=by
 have HF:∀f,Fence.wide.fn f:=λ_=>trivial
 rcases agR s.mid with hm|⟨l,it,hm⟩
 case' _=>
  obtain⟨a,cap,rfl⟩:=h.Gc hm
  have hf:jT s=s.L.map (·.2):=by unfold jT;rw[hm];rfl
  rw[hf,<-(AV E s.L).1,<-(AV E s.L).2]
  obtain⟨i,hi⟩:=ay (Uw E s.L)
  obtain⟨k,hk⟩:=ay (O7 s.L)
  rw[hi,hk]
  have c11:=h.jD
  have e9:∀w,Below W.heap.size W w->w.cell? ⟨sb,4,none⟩=some (.int .i64 i):=λw hw=>by rw[<-hi];exact(h.below hw).cL.1
  have e10:∀w,Below W.heap.size W w->w.cell? ⟨sb,5,none⟩=some (.int .u64 k):=λw hw=>by rw[<-hk];exact(h.below hw).cL.2
  clear h hm hl hf hi hk
 rotate_left
 case' _=>
  rw[agO]at hm
  obtain⟨g,cap,rfl,hc,hat⟩:=h.xI (by rw[hm];simp)
  have hf:jT s=some it.x:=by unfold jT;rw[hm,ahy]
  rw[hf]
  show Calls _ _ _ _ λe w'=>e=.returned (.tuple #[vI (num E it.x),vK (key it.x)])/\_
  obtain⟨i,hi⟩:=ay (num E it.x)
  obtain⟨k,hk⟩:=ay (key it.x)
  rw[hi,hk]
  obtain⟨m,hlm⟩:=ay (l.length)
  have hn:s.mid.length=m+1:=by rw[hm,af8,hlm];rfl
  have c11:=h.jD
  have hg:s.mid[m]?=some it:=by rw[hm,agN (by omega),hlm];simp
  have e9:∀w,Below W.heap.size W w->w.cell? ⟨g,m*4,none⟩=some (.int .i64 i):=λw hw=>by
   rw[<-hi];exact(hat w hw m it hg).1
  have e10:∀w,Below W.heap.size W w->w.cell? ⟨g,m*4+2,none⟩=some (.int .u64 k):=λw hw=>by
   rw[<-hk];exact(hat w hw m it hg).2.2.1
  have e11:∀w,Below W.heap.size W w->w.cell? ⟨sb,11,none⟩=some (.slice (some ⟨g,0,none⟩) (m+1) cap):=λw hw=>by rw[<-hn];exact(h.below hw).jD
  rw[hn]at c11 hl
  have hm1:m<=1000000:=by omega
  have l1:IntKind.i64.wrap (m:Int)=(m:Int):=by rw[agd];omega
  have l0:(0:Int)<=(m:Int):=by omega
  have l2:(m:Int)<(m:Int)+1:=by omega
  clear h hm hf hi hk hat hc hn hg hlm hl
 rotate_left
 all_goals
  go_enter Tryz.func211,Tryz.ntmps211
  go_wp2_with fail
  refine aU (Below W.heap.size W) ?_
  have S0:Below W.heap.size W W.drew:=(af6 _ _).drew
  obtain⟨we,bU⟩:=ay (W.drew)
  rw[bU]at S0⊢
  refine bJ 0 1 2 3 4 5 ?_
  refine bJ 6 7 8 9 10 11 ?_
 rotate_left
 case' _=>
  refine bJ 12 13 14 15 16 17 ?_
  refine tk2 18 19 ?_
 all_goals
  refine aO ?_
  go_wp2_with fail
  exact af_ (v:=.tuple #[.int .i64 i,.int .u64 k]) (by simp[results,Tryz.results211,go_sem]) rfl ⟨rfl,S0⟩
end
variable{E:List En}{F:List Sy}{B g lo most n n0 sb:Nat}{vL vM vR:Value}{W:World}{s:iD}
theorem mK(W:World)(x y n:Nat)(hx:x<18446744073709551616)(hy:y<18446744073709551616)(hn:n<=9223372036854775807):
    Calls Tryz.prog 212 #[.int .u64 x,.int .u64 y,.int .i64 n] W λe w'=>e=.returned (.bool (fits n x y))/\w'=W:=by
 have A1:=ak (Qw W x y n hx hy hn)
 clear hx hy hn
 go_enter Tryz.func212,Tryz.ntmps212
 go_wp2_with fail
 refine A1.o.mono ?_
 rintro e w ⟨rfl,rfl⟩
 go_wp2_with fail
 exact af_ (v:=.bool (fits n x y)) (by simp[results,Tryz.results212,go_sem]) rfl ⟨rfl,rfl⟩
theorem zP(W:World)(n:Nat)(hn:n<=9223372036854775807):
    Calls Tryz.prog 180 #[.int .i64 n] W λe w'=>e=.returned (.tuple #[.int .i64 (Au n).1,.int .u64 (Au n).2.1,.bool (Au n).2.2])/\w'=W:=by
 have A1:=ak (uR W n hn)
 clear hn
 go_enter Tryz.func180,Tryz.ntmps180
 go_wp2_with fail
 refine A1.o.mono ?_
 rintro e w ⟨rfl,rfl⟩
 go_wp2_with fail
 exact af_ (v:=.tuple #[.int .i64 (Au n).1,.int .u64 (Au n).2.1,.bool (Au n).2.2]) (by simp[results,Tryz.results180,go_sem]) rfl ⟨rfl,rfl⟩
theorem Nr(h:n%2=0)(h2:2<=n):(Au n).2.2=f_ n:=by
 have e:xV n=((n/2-1)%123,true):=by unfold xV;rw[af4 (by omega)]
 unfold Au f_
 rw[e]
 dsimp only
 by_cases q:(n/2-1)%123=122
 .rw[af4 (by simp),af5 q]
  exact(agw ⟨h,h2,q⟩).symm
 .rw[af4 (by simp),af4 q]
  exact(agD (λe=>q e.2.2)).symm
def iC(sb:Nat)(cs:Array Value)(w:World):Prop:=w.heap[sb]?=some (.cells cs 251 (0,0))
def Qf(e:Ed):Prop:=∀p x,e=some (p,x)->EK p/\(∀f∈p,aQ f.1+p.length<=1000000)/\p.length<=1000000
theorem iC.at{cs:Array Value}{w:World}(h:iC sb cs w){j:Nat}{v:Value}(hj:cs[j]?=some v):w.cell? ⟨sb,j,none⟩=some v:=by
 simp only[World.cell?,show w.heap[sb]?=_ from h];simpa using hj
theorem kU(n:Nat)(p:gI):(gD n p=0/\∀y h q,p=(y,h)::q->aQ y≠n)\/(∃y h q,p=(y,h)::q/\aQ y=n/\gD n p=h):=by
 cases p with
 |nil=>exact .inl ⟨rfl,λy h q e=>by cases e⟩
 |cons f q=>
  obtain⟨y,h⟩:=f;by_cases hl:aQ y=n
  .exact .inr ⟨y,h,q,rfl,hl,by rw[tu,af5 hl]⟩
  exact .inl ⟨by rw[tu,af4 hl],λy' h' q' e=>by injection e with e1 _;injection e1 with e3 _;rw[<-e3];exact hl⟩
theorem su{p:gI}{x:Sy}(h:Qf (some (p,x))):EK p/\(∀y h q,p=(y,h)::q->1<=h)/\(∀y h q,p=(y,h)::q->p.length+aQ y<=1000000)/\∀f∈p,aQ f.1+p.length<=1000000:=by
 obtain⟨a,b,c⟩:=h p x rfl;exact⟨a,λy h q e=>(a (y,h) (by rw[e];simp)).1,λy h q e=>by
  have h1:aQ y+p.length<=1000000:=b (y,h) (by rw[e];simp);omega,b⟩
theorem jy{w1:World}{pa:Nat}{cs:Array Value}(hS:bQ W E lo sb pa s cs vL vR vM)(hP:gV n0 B most g F E W)(hlo:n0<=lo)(hb:Below W.heap.size W w1){l:List It}{e:Ending}{w2:World}(hI:vD lo (jK E) w1 l e w2)(hm:r_ E l):
    ∃a m c,e=.returned (.slice a m c)/\iC sb cs w2/\bQ (w2.setCell ⟨sb,11,none⟩ (.slice a m c)) E lo sb pa ⟨s.L,l,s.R⟩ (cs.setIfInBounds 11 (.slice a m c)) vL vR (.slice a m c)/\Gw n0 B most g F (λq=>lo<=q) E E W (w2.setCell ⟨sb,11,none⟩ (.slice a m c)):=by
 obtain⟨v',rfl,hs,ho,hbl⟩:=hI;obtain⟨a,c,e⟩:=hs.len;have hS1:=hS.below hb;have h:=hS1.SK (hP.below hb) hlo ho hbl hs hm;subst e;exact⟨a,l.length,c,rfl,h.2.2,h.1,(Gw.of hP hb).trans h.2.1⟩
theorem Cv(h:gV n0 B most g F E W){pa:Nat}{cs:Array Value}(hlo:n0<=lo)(hp:iW W pa B g)(hpa:pa<lo)(hS:bQ W E lo sb pa s cs vL vR vM)(hB:Qf s.L)(kM:s.mid.length<=900000)(hn:n<=100000):
    Calls Tryz.prog 181 #[.pointer (some ⟨sb,0,none⟩),.int .i64 ((n+1:Nat):Int)] W λe w'=>e=.returned (.tuple #[])/\kC n0 B most g F E W lo sb pa (bI n s) E w':=by
 have HF:∀f,Fence.wide.fn f:=λ_=>trivial;have jW:aA (∀w',Below W.heap.size W w'->bI n s=s->kC n0 B most g F E W lo sb pa (bI n s) E w'):=ak λw' hb e=>by rw[e];exact⟨_,_,_,_,hS.below hb,Gw.of h hb⟩
 cases hL:s.L with
 |none=>
  have c4:=hS.cL.1;rw[hL]at c4;replace c4:W.cell? ⟨sb,4,none⟩=some (.int .i64 0):=c4;have he:bI n s=s:=by unfold bI;rw[hL]
  have HR:=ak (jW.o W (af6 _ _) he);go_enter Tryz.func181,Tryz.ntmps181;go_wp2_with fail
  exact af_ (v:=.tuple #[]) (by simp[results,Tryz.results181,go_sem]) rfl ⟨rfl,HR.o⟩
 |some q0=>
  obtain⟨p,x⟩:=q0;rw[hL]at hB;have hx:=hS.left.sym p x hL;have DX:J6 W E 251 lo sb 1 pa false (some (p,x)) cs vL:=by rw[<-hL];exact hS.left
  have hr:iq W E 251 lo sb 1 pa false p (num E x) (key x) cs vL:=DX.r;obtain⟨d1,d2,d3,d4⟩:=su hB;obtain⟨ix,hix⟩:=ay (num E x);obtain⟨kx,hkx⟩:=ay (key x);have c4:=hS.cL.1;have c5:=hS.cL.2;rw[hL]at c4 c5;replace c4:W.cell? ⟨sb,4,none⟩=some (.int .i64 ix):=by rw[<-hix];exact c4
  replace c5:W.cell? ⟨sb,5,none⟩=some (.int .u64 kx):=by rw[<-hkx];exact c5
  have hi0:¬(ix:Int)=0:=by have:=(aS hx.1).1;omega
  have Gf:((ix:Int)==0)=false:=agh.2 hi0;have hkl:kx<18446744073709551616:=by have:=lT x;omega
  have hpl:=(hB p x rfl).2.2;have HS:=ak hS;have HP:=ak h;have fV:=ak hp;have eG:=ak (And.intro hlo hpa);have HX:=ak (And.intro hix (And.intro hkx hx));have HL:=ak hL;have HD:=ak (And.intro d1 (And.intro d2 (And.intro d3 d4)));have XM:=ak (hr.pa (fO hlo hS.low) hp);by_cases hgo:gD (n+1) p=2\/(gD (n+1) p=0/\¬(∃z,j5 s=some z/\fits (n+1) (key x) (key z)=true))
  .have he:bI n s=s:=by
    unfold bI;rw[hL];dsimp only;rcases hgo with q|q
    .rw[af5 q]
    by_cases q2:gD (n+1) p=2
    .rw[af5 q2]
    rw[af4 q2,af5 q]
   have HR:aA (∀w',Below W.heap.size W w'->kC n0 B most g F E W lo sb pa (bI n s) E w'):=ak λw' hb=>jW.o w' hb he;rcases kU (n+1) p with⟨h0,hno⟩|⟨y,h',q,hpq,pK,hh⟩
   .have hfs:¬(∃z,j5 s=some z/\fits (n+1) (key x) (key z)=true):=by
     rcases hgo with q|q
     .omega
     exact q.2
    have jg:=ak (d9 hr hpl hno);have jZ:=ak (za hS (by omega));cases hz:j5 s with
    |none=>
     rw[hz]at jZ;replace jZ:aA (Calls Tryz.prog 207 #[.pointer (some ⟨sb,0,none⟩)] W λe w'=>e=.returned (.tuple #[.int .i64 0,.int .u64 0])/\Below W.heap.size W w'):=jZ;go_enter Tryz.func181,Tryz.ntmps181;go_wp2_with fail
     refine jg.o.mono ?_;rintro r w1 ⟨rfl,rfl⟩;go_wp2_with fail
     refine jZ.o.mono ?_;rintro r w2 ⟨rfl,hb⟩;have HB:=ak hb;go_wp2_with fail
     exact af_ (v:=.tuple #[]) (by simp[results,Tryz.results181,go_sem]) rfl ⟨rfl,HR.o _ HB.o⟩
    |some z=>
     have pW:fits (n+1) (key x) (key z)=false:=by
      cases hq:fits (n+1) (key x) (key z)with
      |false=>rfl
      |true=>exact absurd ⟨z,hz,hq⟩ hfs
     have Lj:z∈syms E:=by
      unfold j5 at hz;split at hz
      .obtain⟨q2,hq2,e2⟩:=ahx.1 hz;rw[<-e2];exact(hS.right.sym q2.1 q2.2 hq2).1
      next i l hm=>injection hz with hz;rw[<-hz];exact(hS.mem i (by rw[hm];simp)).1
     obtain⟨iz,hiz⟩:=ay (num E z);obtain⟨kz,hkz⟩:=ay (key z);have hz0:¬(iz:Int)=0:=(by have:=(aS Lj).1;omega);have hz0':((iz:Int)==0)=false:=agh.2 hz0;rw[hz]at jZ;replace jZ:aA (Calls Tryz.prog 207 #[.pointer (some ⟨sb,0,none⟩)] W λe w'=>e=.returned (.tuple #[.int .i64 iz,.int .u64 kz])/\Below W.heap.size W w'):=ak (by rw[<-hiz,<-hkz];exact jZ.o);have Jk:=ak (λw=>mK w kx kz (n+1) hkl (by have:=lT z;omega) (by omega));rw[<-hkx,<-hkz,pW,hkx,hkz]at Jk;go_enter Tryz.func181,Tryz.ntmps181;go_wp2_with fail
     refine jg.o.mono ?_;rintro r w1 ⟨rfl,rfl⟩;go_wp2_with fail
     refine jZ.o.mono ?_;rintro r w2 ⟨rfl,hb⟩;have c52:w2.cell? ⟨sb,5,none⟩=some (.int .u64 kx):=by
      have:=(HS.o.below hb).cL.2;rw[HL.o]at this;rw[<-HX.o.2.1];exact this
     have HB:=ak hb;go_wp2_with fail
     refine(Jk.o _).mono ?_;rintro r w3 ⟨rfl,rfl⟩;go_wp2_with fail
     exact af_ (v:=.tuple #[]) (by simp[results,Tryz.results181,go_sem]) rfl ⟨rfl,HR.o _ HB.o⟩
   subst hpq;obtain⟨gb,cap,rfl,-,-,-,-⟩:=hr.top;have KX:h'=2:=by
    have:=(d1 (y,h') (by simp)).1;rcases hgo with q1|q1
    .omega
    have h3:1<=h':=this;omega
   subst KX;have jg:=ak (dw hr (by simpa using hpl) pK);have e7:=hr.jo.2.2.2.2.2.2.2.1;obtain⟨m,hm⟩:=ay (q.length);rw[hm]at jg e7;replace e7:W.cell? ⟨gb,m*8+7,none⟩=some (.int .i64 2):=e7;have HR':=ak (HR.o W (af6 _ _));go_enter Tryz.func181,Tryz.ntmps181;go_wp2_with fail
   refine jg.o.mono ?_;rintro r w1 ⟨rfl,rfl⟩;go_wp2_with fail
   exact af_ (v:=.tuple #[]) (by simp[results,Tryz.results181,go_sem]) rfl ⟨rfl,HR'.o⟩
  have h2:gD (n+1) p≠2:=λq=>hgo (.inl q);have he:bI n s=⟨bE false n 1 p,⟨x,none,1⟩::s.mid,s.R⟩:=by
   unfold bI;rw[hL];dsimp only;rw[af4 h2,af4 (λq=>hgo (.inr q))]
  have SN:=ak he;have pY:=ak kM;have SQ:=ak hr;rcases kU (n+1) p with⟨h0,hno⟩|⟨y,h',q,hpq,pK,hh⟩
  case' _=>
   have hfs:∃z,j5 s=some z/\fits (n+1) (key x) (key z)=true:=ahk λq=>hgo (.inr ⟨h0,q⟩);obtain⟨z,hz,pW⟩:=hfs;have jg:=ak (d9 hr hpl hno);have jZ:=ak (za hS (by omega));have Lj:z∈syms E:=by
    have hz':=hz;unfold j5 at hz';split at hz'
    .obtain⟨q2,hq2,e2⟩:=ahx.1 hz';rw[<-e2];exact(hS.right.sym q2.1 q2.2 hq2).1
    next i l hm=>injection hz' with hz';rw[<-hz'];exact(hS.mem i (by rw[hm];simp)).1
   obtain⟨iz,hiz⟩:=ay (num E z);obtain⟨kz,hkz⟩:=ay (key z);have hz0:¬(iz:Int)=0:=by have:=(aS Lj).1;omega
   have hz0':((iz:Int)==0)=false:=agh.2 hz0;rw[hz]at jZ;replace jZ:aA (Calls Tryz.prog 207 #[.pointer (some ⟨sb,0,none⟩)] W λe w'=>e=.returned (.tuple #[.int .i64 iz,.int .u64 kz])/\Below W.heap.size W w'):=ak (by rw[<-hiz,<-hkz];exact jZ.o);have Jk:=ak (λw=>mK w kx kz (n+1) hkl (by have:=lT z;omega) (by omega));rw[<-hkx,<-hkz,pW,hkx,hkz]at Jk;go_enter Tryz.func181,Tryz.ntmps181;go_wp2_with fail
   refine jg.o.mono ?_;rintro r w1 ⟨rfl,hw1⟩;obtain rfl:W=w1:=hw1.symm;go_wp2_with fail
   refine jZ.o.mono ?_;rintro r wc ⟨rfl,hb⟩;have c52:wc.cell? ⟨sb,5,none⟩=some (.int .u64 kx):=by
    have:=(HS.o.below hb).cL.2;rw[HL.o]at this;rw[<-HX.o.2.1];exact this
   have HB:=ak hb;go_wp2_with fail
   refine(Jk.o _).mono ?_;rintro r w3 ⟨rfl,hw3⟩;obtain rfl:wc=w3:=hw3.symm;go_wp2_with fail
   have HSc:=ak (HS.o.below HB.o);have e11:∀w,iC sb cs w->w.cell? ⟨sb,11,none⟩=some vM:=λw hw=>hw.at HS.o.c11;have e4:∀w,iC sb cs w->w.cell? ⟨sb,4,none⟩=some (.int .i64 ix):=λw hw=>hw.at (by have:=HS.o.left.r.c3;rw[HL.o]at this;rw[<-HX.o.1];exact this);have e5:∀w,iC sb cs w->w.cell? ⟨sb,5,none⟩=some (.int .u64 kx):=λw hw=>hw.at (by have:=HS.o.left.r.c4;rw[HL.o]at this;rw[<-HX.o.2.1];exact this);refine aU (iC sb cs) ?_;obtain⟨we,bU⟩:=ay (wc.drew);have hbe:Below wc.heap.size wc we:=by rw[<-bU];exact(af6 _ _).drew
  rotate_left
  case' _=>
   subst hpq;obtain⟨gb,cap,hvL,-,-,-,-⟩:=hr.top;have hr0:=hr;rw[hvL]at hr;have jg:=ak (dw hr (by simpa using hpl) pK);have e7:=hr.jo.2.2.2.2.2.2.2.1;obtain⟨m,hm⟩:=ay (q.length);rw[hm]at jg e7;replace e7:W.cell? ⟨gb,m*8+7,none⟩=some (.int .i64 h'):=e7;have KX:¬(h':Int)=2:=by omega
   have hh3:((h':Int)==2)=false:=agh.2 KX;have HB:aA (Below W.heap.size W W):=ak (af6 _ _);go_enter Tryz.func181,Tryz.ntmps181;go_wp2_with fail
   refine jg.o.mono ?_;rintro r w1 ⟨rfl,hw1⟩;obtain rfl:W=w1:=hw1.symm;go_wp2_with fail
   have HSc:=ak (HS.o.below HB.o);have e11:∀w,iC sb cs w->w.cell? ⟨sb,11,none⟩=some vM:=λw hw=>hw.at HS.o.c11;have e4:∀w,iC sb cs w->w.cell? ⟨sb,4,none⟩=some (.int .i64 ix):=λw hw=>hw.at (by have:=HS.o.left.r.c3;rw[HL.o]at this;rw[<-HX.o.1];exact this);have e5:∀w,iC sb cs w->w.cell? ⟨sb,5,none⟩=some (.int .u64 kx):=λw hw=>hw.at (by have:=HS.o.left.r.c4;rw[HL.o]at this;rw[<-HX.o.2.1];exact this);refine aU (iC sb cs) ?_;obtain⟨we,bU⟩:=ay (W.drew);have hbe:Below W.heap.size W we:=by rw[<-bU];exact(af6 _ _).drew
  all_goals
   rw[bU];have S0:iC sb cs we:=(HSc.o.below hbe).blk;have kV:=ak (Below.after HB.o hbe);refine bJ 0 1 2 3 4 5 ?_;refine bJ 6 7 8 9 10 11 ?_;refine tk4 12 13 14 15 ?_;refine aT 16 λK hK=>?_;go_simp;obtain⟨wa,Ah⟩:=ay (we.alloc (.cells #[.int .i64 ix,.int .i64 0,.int .u64 kx,.int .i64 1] 254));obtain⟨vb,hvb⟩:=ay (we.heap.size);have hba:Below we.heap.size we wa:=by rw[<-Ah];exact(af6 _ _).alloc (af7 _) _
   have qI:iC sb cs wa:=au hba S0;have HA:aA (Below W.heap.size W wa/\wa.heap[vb]?=some (.cells (jK E ⟨x,none,1⟩).toArray 254 (0,0))/\vM.ownBlock≠some vb):=ak ⟨Below.after kV.o hba,by
    rw[<-Ah,<-hvb,aD];show _=some (Obj.cells #[vI (num E x),vI 0,vK (key x),vI 1] _ _);rw[HX.o.1,HX.o.2.1];rfl,λq=>by
    have:=(HS.o.sj q).2.2.2.2;have:=kV.o.size;omega⟩
   rw[Ah,hvb];refine hK _ _ qI ?_;refine aT 17 λK hK=>?_;go_simp
   try with_reducible refine⟨rfl,?_⟩
   refine agq.2 ((AU (bG E) (eF E) (lo:=lo) (by have:=HA.o.1.size;have:=HS.o.lt;have:=HS.o.low;omega) (HS.o.mid.below HA.o.1) (by have:=pY.o;omega) HA.o.2.1 HA.o.2.2).mono ?_);rintro r w7 hI;obtain⟨a7,m7,c7,rfl,fB,gM,fE⟩:=jy HS.o HP.o eG.o.1 HA.o.1 hI (λi hi=>by
    rcases agm.1 hi with rfl|hi
    .exact⟨HX.o.2.2.1,λy e=>(by cases e),by show 1<=_;omega⟩
    exact HS.o.mem i hi)
   refine hK _ _ fB ?_;refine tk2 18 19 ?_;refine aJ.cK 20 (by kernel_rfl) ?_;simp only[agr,agj];have c11:w7.cell? ⟨sb,11,none⟩=some vM:=fB.at HS.o.c11;have f11:w7.frozen? ⟨sb,11,none⟩=false:=by
    unfold iC at fB;simp[World.frozen?,fB]
   obtain⟨w8,hw8⟩:=ay (w7.setCell ⟨sb,11,none⟩ (.slice a7 m7 c7));rw[hw8]at gM fE;have dF:=gM.left;dsimp only at dF;rw[HL.o]at dF;have HDR:=ak (gZ (t:=1) (n:=n) fE.st (fO eG.o.1 HS.o.low) (fV.o.kp fE.kp (by have:=eG.o.2;omega)) dF HD.o.1 HD.o.2.1 HD.o.2.2.1 HD.o.2.2.2);have Cw:=ak gM;have mJ:=ak fE;gi_wp2_with fail
   go_wp2_with fail
   refine HDR.o.mono ?_;rintro r w9 ⟨rfl,hE⟩;obtain⟨SS,v9,sw,sD⟩:=Cw.o.opL mJ.o.st.wf.wf hE;have Cx:aA (kC n0 B most g F E W lo sb pa (bI n s) E w9):=ak (by rw[SN.o];exact⟨_,_,_,_,sw,mJ.o.trans sD⟩);go_wp2_with fail
   go_end0;exact⟨rfl,Cx.o⟩
theorem Aj(h:gV n0 B most g F E W){pa:Nat}{cs:Array Value}(hlo:n0<=lo)(hp:iW W pa B g)(hpa:pa<lo)(hS:bQ W E lo sb pa s cs vL vR vM)(hB:Qf s.R)(kM:s.mid.length<=900000)(hn:n<=100000):
    Calls Tryz.prog 183 #[.pointer (some ⟨sb,0,none⟩),.int .i64 ((n+1:Nat):Int)] W λe w'=>e=.returned (.tuple #[])/\kC n0 B most g F E W lo sb pa (dU n s) E w':=by
 have HF:∀f,Fence.wide.fn f:=λ_=>trivial;have jW:aA (∀w',Below W.heap.size W w'->dU n s=s->kC n0 B most g F E W lo sb pa (dU n s) E w'):=ak λw' hb e=>by rw[e];exact⟨_,_,_,_,hS.below hb,Gw.of h hb⟩
 cases hL:s.R with
 |none=>
  have c4:=hS.cR.1;rw[hL]at c4;replace c4:W.cell? ⟨sb,9,none⟩=some (.int .i64 0):=c4;have he:dU n s=s:=by unfold dU;rw[hL]
  have HR:=ak (jW.o W (af6 _ _) he);go_enter Tryz.func183,Tryz.ntmps183;go_wp2_with fail
  exact af_ (v:=.tuple #[]) (by simp[results,Tryz.results183,go_sem]) rfl ⟨rfl,HR.o⟩
 |some q0=>
  obtain⟨p,x⟩:=q0;rw[hL]at hB;have hx:=hS.right.sym p x hL;have DX:J6 W E 251 lo sb 6 pa true (some (p,x)) cs vR:=by rw[<-hL];exact hS.right
  have hr:iq W E 251 lo sb 6 pa true p (num E x) (key x) cs vR:=DX.r;obtain⟨d1,d2,d3,d4⟩:=su hB;obtain⟨ix,hix⟩:=ay (num E x);obtain⟨kx,hkx⟩:=ay (key x);have c4:=hS.cR.1;have c5:=hS.cR.2;rw[hL]at c4 c5;replace c4:W.cell? ⟨sb,9,none⟩=some (.int .i64 ix):=by rw[<-hix];exact c4
  replace c5:W.cell? ⟨sb,10,none⟩=some (.int .u64 kx):=by rw[<-hkx];exact c5
  have hi0:¬(ix:Int)=0:=by have:=(aS hx.1).1;omega
  have Gf:((ix:Int)==0)=false:=agh.2 hi0;have hkl:kx<18446744073709551616:=by have:=lT x;omega
  have hpl:=(hB p x rfl).2.2;have HS:=ak hS;have HP:=ak h;have fV:=ak hp;have eG:=ak (And.intro hlo hpa);have HX:=ak (And.intro hix (And.intro hkx hx));have HL:=ak hL;have HD:=ak (And.intro d1 (And.intro d2 (And.intro d3 d4)));have XM:=ak (hr.pa (fO hlo hS.low) hp);by_cases hgo:gD (n+1) p=2\/(gD (n+1) p=0/\¬(∃z,jT s=some z/\fits (n+1) (key z) (key x)=true))
  .have he:dU n s=s:=by
    unfold dU;rw[hL];dsimp only;rcases hgo with q|q
    .rw[af5 q]
    by_cases q2:gD (n+1) p=2
    .rw[af5 q2]
    rw[af4 q2,af5 q]
   have HR:aA (∀w',Below W.heap.size W w'->kC n0 B most g F E W lo sb pa (dU n s) E w'):=ak λw' hb=>jW.o w' hb he;rcases kU (n+1) p with⟨h0,hno⟩|⟨y,h',q,hpq,pK,hh⟩
   .have hfs:¬(∃z,jT s=some z/\fits (n+1) (key z) (key x)=true):=by
     rcases hgo with q|q
     .omega
     exact q.2
    have jg:=ak (d9 hr hpl hno);have jZ:=ak (Cu hS (by omega));cases hz:jT s with
    |none=>
     rw[hz]at jZ;replace jZ:aA (Calls Tryz.prog 211 #[.pointer (some ⟨sb,0,none⟩)] W λe w'=>e=.returned (.tuple #[.int .i64 0,.int .u64 0])/\Below W.heap.size W w'):=jZ;go_enter Tryz.func183,Tryz.ntmps183;go_wp2_with fail
     refine jg.o.mono ?_;rintro r w1 ⟨rfl,rfl⟩;go_wp2_with fail
     refine jZ.o.mono ?_;rintro r w2 ⟨rfl,hb⟩;have HB:=ak hb;go_wp2_with fail
     exact af_ (v:=.tuple #[]) (by simp[results,Tryz.results183,go_sem]) rfl ⟨rfl,HR.o _ HB.o⟩
    |some z=>
     have pW:fits (n+1) (key z) (key x)=false:=by
      cases hq:fits (n+1) (key z) (key x)with
      |false=>rfl
      |true=>exact absurd ⟨z,hz,hq⟩ hfs
     have Lj:z∈syms E:=by
      unfold jT at hz;split at hz
      .obtain⟨q2,hq2,e2⟩:=ahx.1 hz;rw[<-e2];exact(hS.left.sym q2.1 q2.2 hq2).1
      next i hm=>injection hz with hz;rw[<-hz];exact(hS.mem i (ah1 hm)).1
     obtain⟨iz,hiz⟩:=ay (num E z);obtain⟨kz,hkz⟩:=ay (key z);have hz0:¬(iz:Int)=0:=(by have:=(aS Lj).1;omega);have hz0':((iz:Int)==0)=false:=agh.2 hz0;rw[hz]at jZ;replace jZ:aA (Calls Tryz.prog 211 #[.pointer (some ⟨sb,0,none⟩)] W λe w'=>e=.returned (.tuple #[.int .i64 iz,.int .u64 kz])/\Below W.heap.size W w'):=ak (by rw[<-hiz,<-hkz];exact jZ.o);have Jk:=ak (λw=>mK w kz kx (n+1) (by have:=lT z;omega) hkl (by omega));rw[<-hkx,<-hkz,pW,hkx,hkz]at Jk;go_enter Tryz.func183,Tryz.ntmps183;go_wp2_with fail
     refine jg.o.mono ?_;rintro r w1 ⟨rfl,rfl⟩;go_wp2_with fail
     refine jZ.o.mono ?_;rintro r w2 ⟨rfl,hb⟩;have c52:w2.cell? ⟨sb,10,none⟩=some (.int .u64 kx):=by
      have:=(HS.o.below hb).cR.2;rw[HL.o]at this;rw[<-HX.o.2.1];exact this
     have HB:=ak hb;go_wp2_with fail
     refine(Jk.o _).mono ?_;rintro r w3 ⟨rfl,rfl⟩;go_wp2_with fail
     exact af_ (v:=.tuple #[]) (by simp[results,Tryz.results183,go_sem]) rfl ⟨rfl,HR.o _ HB.o⟩
   subst hpq;obtain⟨gb,cap,rfl,-,-,-,-⟩:=hr.top;have KX:h'=2:=by
    have:=(d1 (y,h') (by simp)).1;rcases hgo with q1|q1
    .omega
    have h3:1<=h':=this;omega
   subst KX;have jg:=ak (dw hr (by simpa using hpl) pK);have e7:=hr.jo.2.2.2.2.2.2.2.1;obtain⟨m,hm⟩:=ay (q.length);rw[hm]at jg e7;replace e7:W.cell? ⟨gb,m*8+7,none⟩=some (.int .i64 2):=e7;have HR':=ak (HR.o W (af6 _ _));go_enter Tryz.func183,Tryz.ntmps183;go_wp2_with fail
   refine jg.o.mono ?_;rintro r w1 ⟨rfl,rfl⟩;go_wp2_with fail
   exact af_ (v:=.tuple #[]) (by simp[results,Tryz.results183,go_sem]) rfl ⟨rfl,HR'.o⟩
  have h2:gD (n+1) p≠2:=λq=>hgo (.inl q);have he:dU n s=⟨s.L,s.mid++[⟨x,none,1⟩],bE true n 1 p⟩:=by
   unfold dU;rw[hL];dsimp only;rw[af4 h2,af4 (λq=>hgo (.inr q))]
  have SN:=ak he;have pY:=ak kM;have SQ:=ak hr;rcases kU (n+1) p with⟨h0,hno⟩|⟨y,h',q,hpq,pK,hh⟩
  case' _=>
   have hfs:∃z,jT s=some z/\fits (n+1) (key z) (key x)=true:=ahk λq=>hgo (.inr ⟨h0,q⟩);obtain⟨z,hz,pW⟩:=hfs;have jg:=ak (d9 hr hpl hno);have jZ:=ak (Cu hS (by omega));have Lj:z∈syms E:=by
    have hz':=hz;unfold jT at hz';split at hz'
    .obtain⟨q2,hq2,e2⟩:=ahx.1 hz';rw[<-e2];exact(hS.left.sym q2.1 q2.2 hq2).1
    next i hm=>injection hz' with hz';rw[<-hz'];exact(hS.mem i (ah1 hm)).1
   obtain⟨iz,hiz⟩:=ay (num E z);obtain⟨kz,hkz⟩:=ay (key z);have hz0:¬(iz:Int)=0:=by have:=(aS Lj).1;omega
   have hz0':((iz:Int)==0)=false:=agh.2 hz0;rw[hz]at jZ;replace jZ:aA (Calls Tryz.prog 211 #[.pointer (some ⟨sb,0,none⟩)] W λe w'=>e=.returned (.tuple #[.int .i64 iz,.int .u64 kz])/\Below W.heap.size W w'):=ak (by rw[<-hiz,<-hkz];exact jZ.o);have Jk:=ak (λw=>mK w kz kx (n+1) (by have:=lT z;omega) hkl (by omega));rw[<-hkx,<-hkz,pW,hkx,hkz]at Jk;go_enter Tryz.func183,Tryz.ntmps183;go_wp2_with fail
   refine jg.o.mono ?_;rintro r w1 ⟨rfl,hw1⟩;obtain rfl:W=w1:=hw1.symm;go_wp2_with fail
   refine jZ.o.mono ?_;rintro r wc ⟨rfl,hb⟩;have c52:wc.cell? ⟨sb,10,none⟩=some (.int .u64 kx):=by
    have:=(HS.o.below hb).cR.2;rw[HL.o]at this;rw[<-HX.o.2.1];exact this
   have HB:=ak hb;go_wp2_with fail
   refine(Jk.o _).mono ?_;rintro r w3 ⟨rfl,hw3⟩;obtain rfl:wc=w3:=hw3.symm;go_wp2_with fail
   have HSc:=ak (HS.o.below HB.o);have e11:∀w,iC sb cs w->w.cell? ⟨sb,11,none⟩=some vM:=λw hw=>hw.at HS.o.c11;have e4:∀w,iC sb cs w->w.cell? ⟨sb,9,none⟩=some (.int .i64 ix):=λw hw=>hw.at (by have:=HS.o.right.r.c3;rw[HL.o]at this;rw[<-HX.o.1];exact this);have e5:∀w,iC sb cs w->w.cell? ⟨sb,10,none⟩=some (.int .u64 kx):=λw hw=>hw.at (by have:=HS.o.right.r.c4;rw[HL.o]at this;rw[<-HX.o.2.1];exact this);refine aU (iC sb cs) ?_;obtain⟨we,bU⟩:=ay (wc.drew);have hbe:Below wc.heap.size wc we:=by rw[<-bU];exact(af6 _ _).drew
  rotate_left
  case' _=>
   subst hpq;obtain⟨gb,cap,Lp,-,-,-,-⟩:=hr.top;have hr0:=hr;rw[Lp]at hr;have jg:=ak (dw hr (by simpa using hpl) pK);have e7:=hr.jo.2.2.2.2.2.2.2.1;obtain⟨m,hm⟩:=ay (q.length);rw[hm]at jg e7;replace e7:W.cell? ⟨gb,m*8+7,none⟩=some (.int .i64 h'):=e7;have KX:¬(h':Int)=2:=by omega
   have hh3:((h':Int)==2)=false:=agh.2 KX;have HB:aA (Below W.heap.size W W):=ak (af6 _ _);go_enter Tryz.func183,Tryz.ntmps183;go_wp2_with fail
   refine jg.o.mono ?_;rintro r w1 ⟨rfl,hw1⟩;obtain rfl:W=w1:=hw1.symm;go_wp2_with fail
   have HSc:=ak (HS.o.below HB.o);have e11:∀w,iC sb cs w->w.cell? ⟨sb,11,none⟩=some vM:=λw hw=>hw.at HS.o.c11;have e4:∀w,iC sb cs w->w.cell? ⟨sb,9,none⟩=some (.int .i64 ix):=λw hw=>hw.at (by have:=HS.o.right.r.c3;rw[HL.o]at this;rw[<-HX.o.1];exact this);have e5:∀w,iC sb cs w->w.cell? ⟨sb,10,none⟩=some (.int .u64 kx):=λw hw=>hw.at (by have:=HS.o.right.r.c4;rw[HL.o]at this;rw[<-HX.o.2.1];exact this);refine aU (iC sb cs) ?_;obtain⟨we,bU⟩:=ay (W.drew);have hbe:Below W.heap.size W we:=by rw[<-bU];exact(af6 _ _).drew
  all_goals
   rw[bU];have S0:iC sb cs we:=(HSc.o.below hbe).blk;have kV:=ak (Below.after HB.o hbe);refine bJ 0 1 2 3 4 5 ?_;refine bJ 6 7 8 9 10 11 ?_;refine tk4 12 13 14 15 ?_;refine aT 16 λK hK=>?_;go_simp;have qI:iC sb cs (we.alloc (.cells #[.int .i64 ix,.int .i64 0,.int .u64 kx,.int .i64 1] 254)):=au ((af6 _ _).alloc (af7 _) _) S0;refine hK _ _ qI ?_;obtain⟨v7,w7,hrun,hs7,hgr,oI,EI⟩:=eB m_ (bG E) 249 (HS.o.mid.below kV.o) (⟨x,none,1⟩:It) 1 (cs:=#[.int .i64 ix,.int .i64 0,.int .u64 kx,.int .i64 1]) (by
    show _=[vI (num E x),vI 0,vK (key x),vI 1];rw[HX.o.1,HX.o.2.1];rfl) (eF E _) (by have:=pY.o;omega) (by have:=kV.o.size;have:=HS.o.lt;have:=HS.o.low;omega)
   obtain⟨a7,m7,c7,rfl⟩:∃a m c,v7=.slice a m c:=by obtain⟨a,c,h⟩:=hs7.len;exact⟨_,_,_,h⟩
   have hI:vD lo (jK E) we (s.mid++[⟨x,none,1⟩]) (.returned (.slice a7 m7 c7)) w7:=⟨_,rfl,hs7,bS.own (HS.o.mid.below kV.o) (af6 _ _) (aM (ahG we _ _) hgr) (agl.2 rfl),oI⟩;obtain⟨a8,m8,c8,e8,fB,gM,fE⟩:=jy HS.o HP.o eG.o.1 kV.o hI (HS.o.mem.app (λi hi=>by
    rw[agl.1 hi];exact⟨HX.o.2.2.1,λy e=>(by cases e),by show 1<=_;omega⟩))
   simp only[aib,agn]at e8;obtain⟨rfl,rfl,rfl⟩:=e8;have vE:=ak gM;have vF:=ak fE;have lW:=ak fB;refine aT 17 λK hK=>?_;simp[execOp,resolve,invoke,builtin,hrun,Result.andThen,Act.eval,Oper.uponIn];have hS:=lW.o;refine hK _ _ hS ?_;refine tk2 18 19 ?_;refine aJ.cK 20 (by kernel_rfl) ?_;simp only[agr,agj];have fB:=lW.o;have gM:=vE.o;have fE:=vF.o;have c11:w7.cell? ⟨sb,11,none⟩=some vM:=fB.at HS.o.c11;have f11:w7.frozen? ⟨sb,11,none⟩=false:=by
    unfold iC at fB;simp[World.frozen?,fB]
   obtain⟨w8,hw8⟩:=ay (w7.setCell ⟨sb,11,none⟩ (.slice a7 m7 c7));rw[hw8]at gM fE;have dF:=gM.right;dsimp only at dF;rw[HL.o]at dF;have HDR:=ak (gZ (t:=1) (n:=n) fE.st (fO eG.o.1 HS.o.low) (fV.o.kp fE.kp (by have:=eG.o.2;omega)) dF HD.o.1 HD.o.2.1 HD.o.2.2.1 HD.o.2.2.2);have Cw:=ak gM;have mJ:=ak fE;gi_wp2_with fail
   go_wp2_with fail
   refine HDR.o.mono ?_;rintro r w9 ⟨rfl,hE⟩;obtain⟨SS,v9,sw,sD⟩:=Cw.o.UC mJ.o.st.wf.wf hE;have Cx:aA (kC n0 B most g F E W lo sb pa (dU n s) E w9):=ak (by rw[SN.o];exact⟨_,_,_,_,sw,mJ.o.trans sD⟩);go_wp2_with fail
   go_end0;exact⟨rfl,Cx.o⟩
end M
end
end Go.Proofs.YtgbhohfabhilgaaGreatDoor
