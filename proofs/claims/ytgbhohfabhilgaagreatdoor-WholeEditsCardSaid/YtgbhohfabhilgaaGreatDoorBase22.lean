import Derived.Test.YtgbhohfabhilgaaGreatDoorBase21
set_option maxRecDepth 100000
set_option maxHeartbeats 8000000
set_option linter.unusedVariables false
set_option linter.unusedSimpArgs false
namespace Go.Proofs.YtgbhohfabhilgaaGreatDoor
section
open Go.RowKit Go.Lib
namespace M
attribute [local go_sem] Oper.semAt_some
theorem XK(w:World)(f:F8):∃wz w2,w.alloc (.cells #[.int .i64 0,.int .i64 0,.int .u8 0,.int .i64 0,.int .i64 0,.int .i64 0,.int .i64 0,.int .i64 0] 289)=wz/\yY wz w.heap.size f=w2/\uy w2 w.heap.size f/\Below w.heap.size w w2/\
    (wz.cell? ⟨w.heap.size,0,none⟩=some (.int .i64 0)/\wz.cell? ⟨w.heap.size,1,none⟩=some (.int .i64 0)/\wz.cell? ⟨w.heap.size,2,none⟩=some (.int .u8 0)/\wz.cell? ⟨w.heap.size,3,none⟩=some (.int .i64 0)/\wz.cell? ⟨w.heap.size,4,none⟩=some (.int .i64 0)/\wz.cell? ⟨w.heap.size,5,none⟩=some (.int .i64 0)/\wz.cell? ⟨w.heap.size,6,none⟩=some (.int .i64 0)/\wz.cell? ⟨w.heap.size,7,none⟩=some (.int .i64 0))/\
    (wz.frozen? ⟨w.heap.size,0,none⟩=false/\wz.frozen? ⟨w.heap.size,1,none⟩=false/\wz.frozen? ⟨w.heap.size,2,none⟩=false/\wz.frozen? ⟨w.heap.size,3,none⟩=false/\wz.frozen? ⟨w.heap.size,4,none⟩=false/\wz.frozen? ⟨w.heap.size,5,none⟩=false/\wz.frozen? ⟨w.heap.size,6,none⟩=false/\wz.frozen? ⟨w.heap.size,7,none⟩=false):=by
 have k0:uy (w.alloc (.cells #[.int .i64 0,.int .i64 0,.int .u8 0,.int .i64 0,.int .i64 0,.int .i64 0,.int .i64 0,.int .i64 0] 289)) w.heap.size ⟨0,0,0,0,0,0,0,0⟩:=aD _ _;have b0:Below w.heap.size w (w.alloc (.cells #[.int .i64 0,.int .i64 0,.int .u8 0,.int .i64 0,.int .i64 0,.int .i64 0,.int .i64 0,.int .i64 0] 289)):=(af6 _ _).alloc (af7 _) _;obtain⟨a0,a1,a2,a3,a4,a5,a6,a7,a8⟩:=k0.all;refine⟨_,_,rfl,rfl,k0.set f,b0.grown (mZ _ _ _) b0.size (λk e=>by cases e;exact af7 _),⟨a0,a1,a2,a3,a4,a5,a6,a7⟩,a8 0,a8 1,a8 2,a8 3,a8 4,a8 5,a8 6,a8 7⟩
structure Uy(n0 B most g:Nat)(F:List Sy)(E:List En)(W:World)(T:TypeId)(lo sb o pa n:Nat)(b:Bool)(cs:Array Value)(v:Value)(p:gI)(x:Sy)(p':gI)(x':Sy)(k':Nat)(cs':Array Value)(v':Value)(w:World):Prop where
 gw:Gw n0 B most g F (G_ sb v W.heap.size) E E W w
 ed:iq w E T lo sb o pa b p' (num E x') k' cs' v'
 but:lV o cs cs'
 own:pE W.heap.size v v'
 sym:x'∈syms E/\jF x'
 dst:bD b n p' x'=bD b n p x
 len:p'.length+aQ x'<=p.length+aQ x
section
variable {n0 B most g:Nat} {F:List Sy} {E:List En} {W:World} {T:TypeId} {lo sb o pa n:Nat} {b:Bool} {cs:Array Value} {v:Value} {p:gI} {x:Sy} {p':gI} {x':Sy} {k':Nat} {cs':Array Value} {v':Value} {w w':World}
theorem F7{n m:Nat}{a b:Value}(h:pE n a b){q:Nat}(hq:b.ownBlock=some q):G_ m a n q:=by
 rcases h with h|⟨r,h1,h2⟩
 .exact .inr (.inl (by rw[<-h];exact hq))
 rw[hq]at h1;cases h1;exact .inr (.inr h2)
theorem O8{sb n m:Nat}{v v':Value}(h:pE n v v')(hm:n<=m)(q:Nat)(hq:G_ sb v' m q):G_ sb v n q:=by
 rcases hq with q1|q1|q1
 .exact .inl q1
 .exact F7 h q1
 exact .inr (.inr (by omega))
theorem Uy.next(h:Uy n0 B most g F E W T lo sb o pa n b cs v p x p' x' k' cs' v' w)(hwf:Wf E)(hl:EdL n0 lo sb T)(hg:Gw n0 B most g F (λ_=>False) E E w w'):Uy n0 B most g F E W T lo sb o pa n b cs v p x p' x' k' cs' v' w':=
 ⟨h.gw.trans hg.free,h.ed.gw hg hwf hl.t1 (λq=>q) (λ_ _ q=>q),h.but,h.own,h.sym,h.dst,h.len⟩
theorem Uy.below(h:Uy n0 B most g F E W T lo sb o pa n b cs v p x p' x' k' cs' v' w)(hb:Below w.heap.size w w'):Uy n0 B most g F E W T lo sb o pa n b cs v p x p' x' k' cs' v' w':=
 ⟨h.gw.trans (Gw.of h.gw.st hb),h.ed.below hb,h.but,h.own,h.sym,h.dst,h.len⟩
end
variable{b:Bool}{E:List En}{F:List Sy}{B cap g gb h i k lo most n n0 o sb:Nat}{x y:Sy}{T:TypeId}{v:Value}{A C W w':World}{p q:gI}
theorem SB(hwf:Wf E)(hx:x∈syms E)(hok:jF x)(h:n<aQ x)(b:Bool):2<=(aZ x).length/\AA b x (aZ x).length∈syms E/\jF (AA b x (aZ x).length)/\aQ (AA b x (aZ x).length)<aQ x:=by
 have h2:=Ij hok h;have hg:=AB (b:=b) (y:=x) (h:=(aZ x).length) (by omega) (af7 _);have hm:AA b x (aZ x).length∈aZ x:=qp.1 (agE hg);exact⟨h2,pz hwf hx hm,wS hok hm,jQ hm⟩
theorem Gw.own{α:Type}{e:TypeId}{size:Nat}{enc:α->List Value}{l:List α}(h:gV n0 B most g F E A)(hs:aP lo A e size enc v l)(he:e∉Du)(hn:n0<=lo)(hg:A.grownBy C v.ownBlock):Gw n0 B most g F (λq=>v.ownBlock=some q\/A.heap.size<=q) E E A C:=by
 cases hv:v.ownBlock with
 |none=>
  rw[hv]at hg;exact Gw.of h (Kh hg)
 |some b=>
  rw[hv]at hg;obtain⟨hb,cur,hc⟩:=hs.blk hv;exact Gw.put h hg hc he (af9 hn hb) (.inl rfl)
theorem iZ{row:Option Nat}{o:Obj}(h:A.grownBy C row)(hk:A.heap[k]?=some o)(hne:row≠some k):C.heap[k]?=some o:=by
 rw[h.block k (aga.1 hk).1 (λe=>hne e.symm)];exact hk
theorem iq.push{pa:Nat}{p':gI}{cs:Array Value}{v':Value}(h:iq W E T lo sb o pa b p i k cs v)(hT:T≠289)(hg:W.grownBy w' v.ownBlock)(hp:G9 lo w' E v' p')(hm:∀f∈p',f.1∈syms E/\jF f.1):
    iq (w'.setCell ⟨sb,o+2,none⟩ v') E T lo sb o pa b p' i k (cs.setIfInBounds (o+2) v') v'/\w'.heap[sb]?=some (.cells cs T (0,0)):=by
 have hb:w'.heap[sb]?=some (.cells cs T (0,0)):=iZ hg h.blk (λq=>h.ne hT q rfl);exact⟨⟨aC _ hb,by rw[iP (by omega)];exact h.c0,by rw[iP (by omega)];exact h.c1,Cn h.c2,by rw[iP (by omega)];exact h.c3,by rw[iP (by omega)];exact h.c4,hp.setCell _ hb hT,hm⟩,hb⟩
def O9(sb:Nat)(T:TypeId)(cs:Array Value)(gf:Nat)(f:F8)(w:World):Prop:=w.heap[sb]?=some (.cells cs T (0,0))/\uy w gf f
def lvM(v:Value)(w:World):Nat:=match v with
 | .pointer (some a)=>match w.cell? ⟨a.block,6,none⟩with
  |some (.int _ z)=>z.toNat
  |_=>0
 |_=>0
theorem SE{w:World}{f:F8}(h:uy w g f):lvM (.pointer (some ⟨g,0,none⟩)) w=f.lv:=by
 unfold lvM;simp only[h.all.2.2.2.2.2.2.1];rfl
def Uz(n0 B most g:Nat)(F:List Sy)(E:List En)(A:World)(T:TypeId)(lo sb o pa:Nat)(b:Bool)(p:gI)(i:Nat)(v:Value)(w:World):Prop:=Gw n0 B most g F (λq=>q=sb) E E A w/\∃k cs,iq w E T lo sb o pa b p i k cs v
theorem Jf(h:gV n0 B most g F E W){pa:Nat}{cs:Array Value}(hl:EdL n0 lo sb T)(hp:iW W pa B g)(hr:iq W E T lo sb o pa b p (num E x) k cs v)(hx:x∈syms E)(hok:jF x)(hlen:p.length+aQ x<=1000000):
    Calls Tryz.prog 178 #[.pointer (some ⟨sb,o,none⟩),vI n] W λe w'=>e=.returned (.tuple #[])/\He n0 B most g F E W T lo sb o pa b cs v (some (bD b n p x)) w':=by
 have HF:∀f,Fence.wide.fn f:=λ_=>trivial;have HP:=ak h;have fV:=ak hp;have HL:=ak hl;have uT:=ak hlen;have gJ:=ak h.lt;have HX:=ak (hr.pa hl hp);have gW:=ak h.wf.wf;have HD:aA (Uy n0 B most g F E W T lo sb o pa n b cs v p x p x k cs v W):=ak ⟨Gw.of h (af6 _ _),hr,lV.refl _ _,vB _ _,⟨hx,hok⟩,rfl,af7 _⟩;have iF:=ak hr.lt;have HOP:=ak (Jd h hl.t1 hp hr hx hok);clear h hp hr hx hok hl hlen;go_enter Tryz.func178,Tryz.ntmps178;go_wp2_with fail
 refine HOP.o.mono ?_;rintro e w1 ⟨rfl,hg1⟩;obtain⟨wz,w2,hz,hs,k2,b2,⟨q0,q1,q2,q3,q4,q5,q6,q7⟩,r0,r1,r2,r3,r4,r5,r6,r7⟩:=XK w1 (frF E x (dK x));obtain⟨g4,hg4⟩:=ay (w1.heap.size);rw[hg4]at hs k2 q0 q1 q2 q3 q4 q5 q6 q7 r0 r1 r2 r3 r4 r5 r6 r7;have HD2:=ak ((HD.o.next gW.o HL.o hg1).below b2);have nY:=ak (show uy w2 g4 (frF E x (dK x))/\W.heap.size<=g4/\v.ownBlock≠some g4 from⟨k2,by rw[<-hg4];exact hg1.below.size,λq=>by
  have:=(HD.o.ed.Ux q).2;have:=hg1.below.size;omega⟩)
 clear hg1 k2 b2 HOP HD;simp only[yY]at hs;go_wp2_with fail
 clear hg4 hs hz q0 q1 q2 q3 q4 q5 q6 q7 r0 r1 r2 r3 r4 r5 r6 r7;go_loopw [4] (λbv wr=>∃(p':gI) (x':Sy) (k':Nat) (cs':Array Value) (v':Value) (gf:Nat),bv=.pointer (some ⟨gf,0,none⟩)/\Uy n0 B most g F E W T lo sb o pa n b cs v p x p' x' k' cs' v' wr/\uy wr gf (frF E x' (dK x'))/\W.heap.size<=gf/\v'.ownBlock≠some gf) (λbv wr=>lvM bv wr)
 case atStart=>
  exact⟨p,x,k,cs,v,_,rfl,HD2.o,nY.o.1,nY.o.2.1,nY.o.2.2⟩
 obtain⟨p',x',k',cs',v',gf,rfl,hD,hf,hgf,hnv⟩:=hrel;obtain⟨f,pW⟩:=ay (frF E x' (dK x'));have aat:f.lv=aQ x':=by rw[<-pW]
 rw[pW]at hf;have VR:=ak hD;have HFX:=ak hf;have HGF:=ak (And.intro hgf hnv);have lN:=ak pW;have HFL:=ak aat;have c6:=hf.all.2.2.2.2.2.2.1;by_cases hn:n<aQ x'
 .have l1:(f.lv:Int)>(n:Int):=by omega
  have l1':(n:Int)<(f.lv:Int):=by omega
  have e2:∀w,O9 sb T cs' gf f w->w.cell? ⟨sb,o+2,none⟩=some v':=λw hw=>by
   have:=hD.ed.c2;simp only[World.cell?,hw.1];simpa using this
  have g0:∀w,O9 sb T cs' gf f w->w.cell? ⟨gf,0,none⟩=some (.int .i64 f.i):=λw hw=>hw.2.all.1;have g1:∀w,O9 sb T cs' gf f w->w.cell? ⟨gf,1,none⟩=some (.int .i64 f.kd):=λw hw=>hw.2.all.2.1;have g2:∀w,O9 sb T cs' gf f w->w.cell? ⟨gf,2,none⟩=some (.int .u8 f.lt):=λw hw=>hw.2.all.2.2.1;have g3:∀w,O9 sb T cs' gf f w->w.cell? ⟨gf,3,none⟩=some (.int .i64 f.l):=λw hw=>hw.2.all.2.2.2.1;have g4:∀w,O9 sb T cs' gf f w->w.cell? ⟨gf,4,none⟩=some (.int .i64 f.r):=λw hw=>hw.2.all.2.2.2.2.1;have g5:∀w,O9 sb T cs' gf f w->w.cell? ⟨gf,5,none⟩=some (.int .i64 f.tm):=λw hw=>hw.2.all.2.2.2.2.2.1;have g6:∀w,O9 sb T cs' gf f w->w.cell? ⟨gf,6,none⟩=some (.int .i64 f.lv):=λw hw=>hw.2.all.2.2.2.2.2.2.1;have g7:∀w,O9 sb T cs' gf f w->w.cell? ⟨gf,7,none⟩=some (.int .i64 f.h):=λw hw=>hw.2.all.2.2.2.2.2.2.2.1;have HN:=ak hn;clear hD hf hgf hnv pW aat hn;go_wp2_with fail
  clear c6;refine bM (O9 sb T cs' gf f) (by kernel_rfl) ?_;obtain⟨we,bU⟩:=ay (wr.drew);have hbe:Below wr.heap.size wr we:=by rw[<-bU];exact(af6 _ _).drew
  rw[bU];clear bU;have yZ:=ak (VR.o.below hbe);have HFE:=ak (HFX.o.below hbe);have S0:O9 sb T cs' gf f we:=⟨yZ.o.ed.blk,HFE.o⟩;have Np:aA (lvM (.pointer (some ⟨gf,0,none⟩)) wr=aQ x'):=ak (by rw[SE HFX.o,<-HFL.o]);clear hbe HFX VR;refine bJ 0 1 2 3 4 5 ?_;refine aT 6 λK hK=>?_;go_simp;have qI:O9 sb T cs' gf f (we.alloc (.cells #[.int .i64 f.i,.int .i64 f.kd,.int .u8 f.lt,.int .i64 f.l,.int .i64 f.r,.int .i64 f.tm,.int .i64 f.lv,.int .i64 f.h] 289)):=⟨au ((af6 _ _).alloc (af7 _) _) yZ.o.ed.blk,HFE.o.below ((af6 _ _).alloc (af7 _) _)⟩;refine hK _ _ qI ?_;clear hK K qI;obtain⟨v2,w3,hrun,hS2,hgr,hb3,EI⟩:=eB aap (tY E) 245 yZ.o.ed.path (x',dK x') 1 (cs:=#[.int .i64 f.i,.int .i64 f.kd,.int .u8 f.lt,.int .i64 f.l,.int .i64 f.r,.int .i64 f.tm,.int .i64 f.lv,.int .i64 f.h]) (by rw[<-lN.o];rfl) (O5 E _) (by rw[ajw];have:=uT.o;have:=yZ.o.len;omega) (by have:=yZ.o.gw.below.size;have:=iF.o;have:=HL.o.l1;omega);obtain⟨a2,n2,cap2,rfl⟩:∃a m c,v2=.slice a m c:=by obtain⟨a,c,h⟩:=hS2.len;exact⟨_,_,_,h⟩
  have hG3:we.grownBy w3 v'.ownBlock:=aM (ahG we _ _) hgr;have Ey:O9 sb T cs' gf f w3:=⟨iZ hG3 yZ.o.ed.blk (λq=>yZ.o.ed.ne HL.o.t2 q rfl),iZ hG3 HFE.o HGF.o.2⟩;have HS2:=ak hS2;have qJ:=ak hG3;have HOO:=ak EI;have AO:=ak Ey;clear hS2 hgr hb3 EI hG3 Ey;refine aT 7 λK hK=>?_;simp[execOp,resolve,invoke,builtin,hrun,Result.andThen,Act.eval,Oper.uponIn];have aF:=AO.o;refine hK _ _ aF ?_;clear hK K hrun;refine tk2 8 9 ?_;refine aJ.cK 10 (by kernel_rfl) ?_;simp only[agr,agj];clear e2 g0 g1 g2 g3 g4 g5 g6 g7 S0;have hk2:=SB gW.o yZ.o.sym.1 yZ.o.sym.2 HN.o b;have hwk:=zN HN.o;have hpush:=yZ.o.ed.push HL.o.t2 qJ.o (v':=.slice a2 n2 cap2) (p':=(x',dK x')::p') (by show aP _ _ _ _ _ _ _;rw[ah3];exact HS2.o) (λq hq=>by
   rcases agm.1 hq with rfl|hq
   .exact yZ.o.sym
   exact yZ.o.ed.mem q hq)
  obtain⟨w4,hw4⟩:=ay (w3.setCell ⟨sb,o+2,none⟩ (.slice a2 n2 cap2));rw[hw4]at hpush;have c2:w3.cell? ⟨sb,o+2,none⟩=some v':=by
   have:=yZ.o.ed.c2;simp only[World.cell?,hpush.2];simpa using this
  have f2:w3.frozen? ⟨sb,o+2,none⟩=false:=by simp[World.frozen?,hpush.2]
  have hg4:w3.grownBy w4 (some sb):=by rw[<-hw4];exact aK _ _ _
  have hP4:=Gw.own yZ.o.gw.st yZ.o.ed.path (by decide) HL.o.l0 qJ.o;have hgw:Gw n0 B most g F (G_ sb v W.heap.size) E E W w4:=(yZ.o.gw.trans (hP4.mono λq _ hq=>by
   have:=yZ.o.gw.below.size;rcases hq with hq|hq
   .exact F7 yZ.o.own hq
   exact .inr (.inr (by omega)))).trans (Gw.put hP4.st hg4 hpush.2 HL.o.t1 (by have:=HL.o.l0;have:=HL.o.l1;omega) (.inl rfl))
  have VT:=ak hgw;have VU:=ak hpush.1;have HOW4:aA (pE W.heap.size v (.slice a2 n2 cap2)):=ak (zM yZ.o.own HOO.o yZ.o.gw.below.size);have HBU4:=ak (yZ.o.but.trans (lV.set (o:=o) (j:=o+2) (by omega) (by omega) (.slice a2 n2 cap2)));have SF:aA (uy w4 gf f):=ak (aI hg4 AO.o.2 (by
   rintro rfl;have e1:=HFE.o;have e2:=yZ.o.ed.blk;unfold uy at e1;rw[e1]at e2;injection e2 with e2;injection e2 with _ e2 _;exact HL.o.t2 e2.symm))
  obtain⟨c,hc⟩:=ay (AA b x' (aZ x').length);rw[hc]at hk2;have UA:=ak hc;have aav:=ak hk2;have HCH:aA (∀w,Calls Tryz.prog 177 #[.agg #[.int .i64 f.i,.int .i64 f.kd,.int .u8 f.lt,.int .i64 f.l,.int .i64 f.r,.int .i64 f.tm,.int .i64 f.lv,.int .i64 f.h],.bool b] w λe w'=>e=.returned (vI (num E c))/\Below w.heap.size w w'):=ak λw=>by
   have:=EH (W:=w) E (y:=x') (h:=dK x') b (by rw[hwk];omega) (by rw[hwk];exact af7 _);rw[hwk,hc,<-hwk]at this;rw[<-lN.o];exact this
  have HDT:aA (bD b n ((x',dK x')::p') c=bD b n p x/\((x',dK x')::p').length+aQ c<=p.length+aQ x):=ak (by
   have h1:=yZ.o.dst;have h2:=yZ.o.len;rw[uZ HN.o,hc,<-hwk]at h1;refine⟨h1,?_⟩;rw[agc];omega)
  clear hk2 hwk hpush hg4 hP4 hgw hc HS2 qJ HOO AO;gi_wp2_with fail
  refine NP.normal ?_;clear hw4 c2 f2;go_wp2_with fail
  refine aU (Below w4.heap.size w4) ?_;obtain⟨wf,hwf⟩:=ay (w4.drew);have S0:Below w4.heap.size w4 wf:=by rw[<-hwf];exact(af6 _ _).drew
  rw[hwf];clear hwf;have e1:∀w,Below w4.heap.size w4 w->w.cell? ⟨sb,o+1,none⟩=some (.bool b):=λw hw=>(VU.o.below hw).cells.2.1;have g0:∀w,Below w4.heap.size w4 w->w.cell? ⟨gf,0,none⟩=some (.int .i64 f.i):=λw hw=>(SF.o.below hw).all.1;have g1:∀w,Below w4.heap.size w4 w->w.cell? ⟨gf,1,none⟩=some (.int .i64 f.kd):=λw hw=>(SF.o.below hw).all.2.1;have g2:∀w,Below w4.heap.size w4 w->w.cell? ⟨gf,2,none⟩=some (.int .u8 f.lt):=λw hw=>(SF.o.below hw).all.2.2.1;have g3:∀w,Below w4.heap.size w4 w->w.cell? ⟨gf,3,none⟩=some (.int .i64 f.l):=λw hw=>(SF.o.below hw).all.2.2.2.1;have g4:∀w,Below w4.heap.size w4 w->w.cell? ⟨gf,4,none⟩=some (.int .i64 f.r):=λw hw=>(SF.o.below hw).all.2.2.2.2.1;have g5:∀w,Below w4.heap.size w4 w->w.cell? ⟨gf,5,none⟩=some (.int .i64 f.tm):=λw hw=>(SF.o.below hw).all.2.2.2.2.2.1;have g6:∀w,Below w4.heap.size w4 w->w.cell? ⟨gf,6,none⟩=some (.int .i64 f.lv):=λw hw=>(SF.o.below hw).all.2.2.2.2.2.2.1;have g7:∀w,Below w4.heap.size w4 w->w.cell? ⟨gf,7,none⟩=some (.int .i64 f.h):=λw hw=>(SF.o.below hw).all.2.2.2.2.2.2.2.1;refine bJ 0 1 2 3 4 5 ?_;refine aT 6 λK hK=>?_;go_simp
  try with_reducible refine⟨rfl,?_⟩
  refine agq.2 ((HCH.o _).mono ?_);rintro e w5 ⟨rfl,bn⟩;replace S0:=Below.after S0 bn;refine hK _ _ S0 ?_;clear hK K bn;refine tk2 7 8 ?_;refine aJ.cK 9 (by kernel_rfl) ?_;simp only[agr,agj];clear e1 g0 g1 g2 g3 g4 g5 g6 g7;have F9:=VU.o.below S0;obtain⟨-,-,-,c3,-,f6⟩:=F9.cells;have f3:=f6 (o+3);obtain⟨nc,hnc⟩:=ay (num E c);have Jg:=F9.id HL.o.t2 nc;obtain⟨w6,dH⟩:=ay (w5.setCell ⟨sb,o+3,none⟩ (vI nc));rw[dH]at Jg;have lu:w5.grownBy w6 (some sb):=by rw[<-dH];exact aK _ _ _
  have aaw:aA (Gw n0 B most g F (G_ sb v W.heap.size) E E W w6):=ak ((VT.o.trans (Gw.of VT.o.st S0)).trans (Gw.put (VT.o.st.below S0) lu F9.blk HL.o.t1 (by have:=HL.o.l0;have:=HL.o.l1;omega) (.inl rfl)));have HD6:aA (Uy n0 B most g F E W T lo sb o pa n b cs v p x ((x',dK x')::p') c k' ((cs'.setIfInBounds (o+2) (.slice a2 n2 cap2)).setIfInBounds (o+3) (vI nc)) (.slice a2 n2 cap2) w6):=ak ⟨aaw.o,by rw[hnc];exact Jg,HBU4.o.trans (lV.set (by omega) (by omega) _),HOW4.o,aav.o.2.1 |>λq=>⟨q,aav.o.2.2.1⟩,HDT.o.1,HDT.o.2⟩;have HF6:aA (uy w6 gf f):=ak (aI lu (SF.o.below S0) (by
   rintro rfl;have e1:=SF.o;have e2:=VU.o.blk;unfold uy at e1;rw[e1]at e2;injection e2 with e2;injection e2 with _ e2 _;exact HL.o.t2 e2.symm))
  rw[hnc];clear F9 Jg f6 lu hnc S0 VU SF VT;gi_wp2_with fail
  clear dH c3 f3;obtain⟨x0,x1,x2,x3,x4,x5,x6,x7,-⟩:=HF6.o.all;obtain⟨wz,w7,hz,hs,k7,b7,⟨q0,q1,q2,q3,q4,q5,q6,q7⟩,r0,r1,r2,r3,r4,r5,r6,r7⟩:=XK w6 f;obtain⟨g6,lu⟩:=ay (w6.heap.size);rw[lu]at hs k7 q0 q1 q2 q3 q4 q5 q6 q7 r0 r1 r2 r3 r4 r5 r6 r7;have HD7:=ak (HD6.o.below b7);have xH:=ak k7;have Qd:aA (W.heap.size<=g6/\(Value.slice a2 n2 cap2).ownBlock≠some g6/\g6≠sb):=ak ⟨by rw[<-lu];exact aaw.o.below.size,λq=>by
   have:=(HD6.o.ed.Ux q).2;omega,λq=>by have:=HD6.o.ed.lt;omega⟩
  have HOP:=ak (Jd HD7.o.gw.st HL.o.t1 (fV.o.kp HD7.o.gw.kp HX.o) HD7.o.ed HD7.o.sym.1 HD7.o.sym.2);simp only[yY]at hs;clear k7 b7 HD6 HF6 aaw;go_wp2_with fail
  clear lu hz hs x0 x1 x2 x3 x4 x5 x6 x7 q0 q1 q2 q3 q4 q5 q6 q7 r0 r1 r2 r3 r4 r5 r6 r7;refine HOP.o.mono ?_;rintro e w8 ⟨rfl,EJ⟩;have hk8:=xH.o.kp EJ.kp (λq=>q);obtain⟨x0,x1,x2,x3,x4,x5,x6,x7,x8⟩:=hk8.all;have f0:=x8 0;have f1:=x8 1;have f2:=x8 2;have f3:=x8 3;have f4:=x8 4;have f5:=x8 5;have f6:=x8 6;have f7:=x8 7;have J7:=HD7.o.next gW.o HL.o EJ;obtain⟨w9,dI⟩:=ay (yY w8 g6 (frF E c (dK c)));have DW:w8.grownBy w9 (some g6):=by rw[<-dI];exact mZ _ _ _
  have HF9:aA (uy w9 g6 (frF E c (dK c))):=ak (by rw[<-dI];exact hk8.set _);have HD9:aA (Uy n0 B most g F E W T lo sb o pa n b cs v p x ((x',dK x')::p') c k' ((cs'.setIfInBounds (o+2) (.slice a2 n2 cap2)).setIfInBounds (o+3) (vI nc)) (.slice a2 n2 cap2) w9):=ak ⟨J7.gw.trans (Gw.put J7.gw.st DW hk8 (by decide) (by have:=Qd.o.1;have:=gJ.o;omega) (.inr (.inr Qd.o.1))),⟨aI DW J7.ed.blk (λq=>Qd.o.2.2 q.symm),J7.ed.c0,J7.ed.c1,J7.ed.c2,J7.ed.c3,J7.ed.c4,J7.ed.path.grown DW (.inr Qd.o.2.1),J7.ed.mem⟩,J7.but,J7.own,J7.sym,J7.dst,J7.len⟩;simp only[yY]at dI;clear EJ hk8 x8 J7 DW xH HD7 HOP;go_wp2_with fail
  go_roundw
  case rel=>exact⟨_,c,k',_,_,g6,rfl,HD9.o,HF9.o,Qd.o.1,Qd.o.2.1⟩
  rw[Np.o,SE HF9.o];exact aav.o.2.2.2
 have l1:¬(f.lv:Int)>(n:Int):=by omega
 have hdn:(p',x')=bD b n p x:=by rw[<-hD.dst,yH (by omega)]
 have Qe:=ak hdn;obtain⟨ix,hix⟩:=ay (num E x');obtain⟨kx,hkx⟩:=ay (key x');have hde:=hD.ed;rw[hix]at hde;have e0:∀w,Uz n0 B most g F E wr T lo sb o pa b p' ix v' w->w.cell? ⟨sb,o,none⟩=some (ku pa):=λw hw=>by
  obtain⟨-,k2,c2,h2⟩:=hw;exact h2.cells.1
 have e3:∀w,Uz n0 B most g F E wr T lo sb o pa b p' ix v' w->w.cell? ⟨sb,o+3,none⟩=some (vI ix):=λw hw=>by
  obtain⟨-,k2,c2,h2⟩:=hw;exact h2.cells.2.2.2.1
 have yZ:=ak hde;have HIX:=ak (And.intro hix hkx);have HKE:aA (∀w,Gw n0 B most g F (λ_=>False) E E wr w->Calls Tryz.prog 171 #[.pointer (some ⟨g,0,none⟩),.int .i64 ix] w λr w'=>r=.returned (.tuple #[vK kx,.nilIface])/\Gw n0 B most g F (λ_=>False) E E w w'):=ak λw hw=>by
  have:=Ci hw.st VR.o.sym.1;rw[hix,hkx]at this;exact this
 clear hD hf hgf hnv pW aat hn hdn hde hix hkx;go_wp2_with fail
 clear c6;refine aU (Uz n0 B most g F E wr T lo sb o pa b p' ix v') ?_;obtain⟨we,bU⟩:=ay (wr.drew);have S0:Gw n0 B most g F (λ_=>False) E E wr we:=by rw[<-bU];exact Gw.of VR.o.gw.st (af6 _ _).drew
 have T0:Uz n0 B most g F E wr T lo sb o pa b p' ix v' we:=⟨S0.free,k',cs',yZ.o.gw S0 gW.o HL.o.t1 (λq=>q) (λ_ _ q=>q)⟩;rw[bU];clear bU;refine bJ 0 1 2 3 4 6 ?_;refine tk3 7 8 9 ?_;refine aT 5 λK hK=>?_;go_simp
 try with_reducible refine⟨rfl,?_⟩
 refine agq.2 ((kT ((fV.o.kp VR.o.gw.kp HX.o).kp S0.kp (λq=>q))).mono ?_);rintro e wn ⟨rfl,rfl⟩;refine hK _ _ T0 ?_;clear hK K;refine aT 10 λK hK=>?_;go_simp
 try with_reducible refine⟨rfl,?_⟩
 refine agq.2 ((HKE.o _ S0).mono ?_);rintro e w3 ⟨rfl,bn⟩;replace S0:=S0.trans bn;have h3:=yZ.o.gw S0 gW.o HL.o.t1 (λq=>q) (λ_ _ q=>q);have T3:Uz n0 B most g F E wr T lo sb o pa b p' ix v' w3:=⟨S0.free,k',cs',h3⟩;refine hK _ _ T3 ?_;have H3:=ak h3;clear hK K bn T0 h3;refine zD 11 12 13 14 15 ?_;refine aT 16 λK hK=>?_;go_simp;obtain⟨-,-,-,-,c4,f6⟩:=H3.o.cells;have f4:=f6 (o+4);obtain⟨w4,hw4⟩:=ay (w3.setCell ⟨sb,o+4,none⟩ (.int .u64 kx));have h4:=H3.o.key HL.o.t2 kx;have hg4:w3.grownBy w4 (some sb):=by rw[<-hw4];exact aK _ _ _
 have hG4:=Gw.put (F:=F) (X:=λq=>q=sb) S0.st hg4 H3.o.blk HL.o.t1 (by have:=HL.o.l0;have:=HL.o.l1;omega) rfl;have h4':iq w4 E T lo sb o pa b p' ix kx (cs'.setIfInBounds (o+4) (vK kx)) v':=by rw[<-hw4];exact h4
 go_simp;refine hK _ _ ⟨S0.free.trans hG4,_,_,h4'⟩ ?_;have H4:=ak h4';have xZ:=ak hG4;clear hK K f6 h4 h4' hg4 hG4 hw4 c4 f4;refine aO ?_;clear e0 e3;have HR:aA (He n0 B most g F E W T lo sb o pa b cs v (some (bD b n p x)) w4):=ak (by
  refine⟨_,v',⟨?_,λp2 x2 e=>?_⟩,VR.o.but.trans (lV.set (o:=o) (j:=o+4) (by omega) (by omega) (vK kx)),VR.o.own,(VR.o.gw.trans S0.free).trans (xZ.o.mono λq _ hq=> .inl hq)⟩
  .rw[<-Qe.o];show iq w4 E T lo sb o pa b p' (num E x') (key x') _ _;rw[HIX.o.1,HIX.o.2];exact H4.o
  rw[<-Qe.o]at e;injection e with e;injection e with e1 e2;rw[<-e2];exact VR.o.sym)
 clear S0 H3 H4 xZ T3;go_wp2_with fail
 go_end0;exact⟨rfl,HR.o⟩
theorem iq.top{pa:Nat}{cs:Array Value}(hr:iq W E T lo sb o pa b ((y,h)::q) i k cs v):∃gb cap,v=.slice (some ⟨gb,0,none⟩) (q.length+1) cap/\v.ownBlock=some gb/\q.length+1<=cap/\cap<=maxLen/\∀j,j<8->W.cell? ⟨gb,q.length*8+j,none⟩=(zL E (y,h))[j]?:=by
 have hp:=hr.path
 rcases hp.shape with⟨-,e⟩|⟨gb,cap,rfl,h1,h2⟩
 .simp at e
 .have hl:((y,h)::q).reverse.length=q.length+1:=by simp
  rw[hl]at h1
  refine⟨gb,cap,by rw[hl],rfl,h1,h2,λj hj=>?_⟩
  have hc:=aP.cell (tY E) hp (i:=q.length) (by rw[hl];omega) hj
  rw[hc]
  have e2:((y,h)::q).reverse[q.length]'(by rw[hl];omega)=(y,h):=by
   simp only[ah3]
   rw[ah_ (by simp)]
   simp
  rw[e2]
theorem iq.nil{pa:Nat}{cs:Array Value}(hr:iq W E T lo sb o pa b [] i k cs v):∃a cap,v=.slice a 0 cap:=by
 obtain⟨a,cap,h⟩:=hr.path.len
 exact⟨a,cap,h⟩
theorem d9{pa:Nat}{cs:Array Value}(hr:iq W E T lo sb o pa b p i k cs v)(hl:p.length<=1000000)(hn:∀y h q,p=(y,h)::q->aQ y≠n):
    Calls Tryz.prog 184 #[.pointer (some ⟨sb,o,none⟩),vI n] W λe w'=>e=.returned (.pointer none)/\w'=W:=by
 obtain⟨-,-,c2,-,-,-⟩:=hr.cells
 cases p with
 |nil=>
  obtain⟨a,cap,rfl⟩:=hr.nil
  clear hr hl hn
  go_enter Tryz.func184,Tryz.ntmps184
  go_wp2_with fail
  exact af_ (v:=.pointer none) (by simp[results,Tryz.results184,go_sem]) rfl ⟨rfl,rfl⟩
 |cons f q=>
  obtain⟨y,h⟩:=f
  obtain⟨gb,cap,rfl,-,h1,h2,hc⟩:=hr.top
  have c6:W.cell? ⟨gb,q.length*8+6,none⟩=some (vI (aQ y)):=hc 6 (by omega)
  have hne:=hn y h q rfl
  obtain⟨m,hm⟩:=ay (q.length)
  obtain⟨ly,pK⟩:=ay (aQ y)
  have hm1:m<=1000000:=by rw[agc]at hl;omega
  rw[hm]at c2 c6
  rw[pK]at c6 hne
  have l1:¬(ly:Int)=(n:Int):=by omega
  clear hr hl hn hc hne hm pK h1 h2
  go_enter Tryz.func184,Tryz.ntmps184
  go_wp2_with fail
  exact af_ (v:=.pointer none) (by simp[results,Tryz.results184,go_sem]) rfl ⟨rfl,rfl⟩
theorem dw{pa:Nat}{cs:Array Value}(hr:iq W E T lo sb o pa b ((y,h)::q) i k cs (.slice (some ⟨gb,0,none⟩) (q.length+1) cap))(hl:q.length+1<=1000000)(hn:aQ y=n):
    Calls Tryz.prog 184 #[.pointer (some ⟨sb,o,none⟩),vI n] W λe w'=>e=.returned (.pointer (some ⟨gb,q.length*8,none⟩))/\w'=W:=by
 obtain⟨-,-,c2,-,-,-⟩:=hr.cells
 obtain⟨gb',cap',e,-,h1,h2,hc⟩:=hr.top
 simp only[agn,agG,ahp,aht,ajf]at e
 obtain⟨rfl,rfl⟩:=e
 have c6:W.cell? ⟨gb,q.length*8+6,none⟩=some (vI (aQ y)):=hc 6 (by omega)
 obtain⟨m,hm⟩:=ay (q.length)
 have hm1:m<=1000000:=by omega
 rw[hm]at c2 c6⊢
 rw[hn]at c6
 have l1:(n:Int)=(n:Int):=rfl
 clear hr hl hc hm h1 h2 hn
 go_enter Tryz.func184,Tryz.ntmps184
 go_wp2_with fail
 exact af_ (v:=.pointer (some ⟨gb,m*8,none⟩)) (by simp[results,Tryz.results184,go_sem]) rfl ⟨rfl,rfl⟩
theorem iq.jo{pa:Nat}{cs:Array Value}(hr:iq W E T lo sb o pa b ((y,h)::q) i k cs (.slice (some ⟨gb,0,none⟩) (q.length+1) cap)):W.cell? ⟨gb,q.length*8,none⟩=some (vI (num E y))/\W.cell? ⟨gb,q.length*8+1,none⟩=some (.int .i64 (yP E y).kind)/\W.cell? ⟨gb,q.length*8+2,none⟩=some (.int .u8 (yP E y).letter)/\W.cell? ⟨gb,q.length*8+3,none⟩=some (.int .i64 (yP E y).left)/\W.cell? ⟨gb,q.length*8+4,none⟩=some (.int .i64 (yP E y).right)/\
    W.cell? ⟨gb,q.length*8+5,none⟩=some (.int .i64 (yP E y).times)/\W.cell? ⟨gb,q.length*8+6,none⟩=some (vI (aQ y))/\W.cell? ⟨gb,q.length*8+7,none⟩=some (vI h)/\∀j,W.frozen? ⟨gb,j,none⟩=false:=by
 obtain⟨gb',cap',e,e2,h1,h2,hc⟩:=hr.top
 simp only[agn,agG,ahp,aht,ajf]at e
 obtain⟨rfl,rfl⟩:=e
 obtain⟨-,cur,jN⟩:=hr.path.blk e2
 exact⟨hc 0 (by omega),hc 1 (by omega),hc 2 (by omega),hc 3 (by omega),hc 4 (by omega),hc 5 (by omega),hc 6 (by omega),hc 7 (by omega),λj=>by simp[World.frozen?,jN]⟩
theorem Nq{pa:Nat}{cs:Array Value}(hr:iq W E T lo sb o pa b p i k cs v)(hl:p.length<=1000000)(hy:∀y h q,p=(y,h)::q->aQ y=n->∃a t,y=.pw a t):
    Calls Tryz.prog 208 #[.pointer (some ⟨sb,o,none⟩),vI n] W λe w'=>e=.returned (.tuple #[vI (kD n p).1,.bool (kD n p).2])/\Below W.heap.size W w':=by
 have HF:∀f,Fence.wide.fn f:=λ_=>trivial
 by_cases hn:∀y h q,p=(y,h)::q->aQ y≠n
 .have jg:=ak (d9 hr hl hn)
  have ht:kD n p=(1,false):=by
   cases p with
   |nil=>rfl
   |cons f q=>
    obtain⟨y,h⟩:=f
    show(if aQ y=n then _ else _)=_
    rw[af4 (hn y h q rfl)]
  rw[ht]
  clear hr hl hn hy ht
  go_enter Tryz.func208,Tryz.ntmps208
  go_wp2_with fail
  refine jg.o.mono ?_
  rintro e w1 ⟨rfl,rfl⟩
  go_wp2_with fail
  exact af_ (v:=.tuple #[.int .i64 1,.bool false]) (by simp[results,Tryz.results208,go_sem]) rfl ⟨rfl,af6 _ _⟩
 .cases p with
  |nil=>exact absurd (λy h q e=>by cases e) hn
  |cons f q=>
   obtain⟨y,h⟩:=f
   have pK:aQ y=n:=by
    apply ahk
    intro hne
    exact hn λy' h' q' e=>by
     injection e with e1 _
     injection e1 with e3 _
     rw[<-e3];exact hne
   obtain⟨a,t,rfl⟩:=hy y h q rfl pK
   obtain⟨gb,cap,rfl,-,-,-,-⟩:=hr.top
   have hl2:q.length+1<=1000000:=by simpa using hl
   have jg:=ak (dw hr hl2 pK)
   have ht:kD n ((.pw a t,h)::q)=(h,decide (h<t)):=by
    show(if aQ (.pw a t)=n then(h,decide (h<(aZ (.pw a t)).length))else _)=_
    rw[af5 pK]
    show(h,decide (h<(List.replicate t a).length))=_
    rw[ahF]
   rw[ht]
   obtain⟨m,hm⟩:=ay (q.length)
   have e5:∀w,Below W.heap.size W w->w.cell? ⟨gb,m*8+5,none⟩=some (.int .i64 t):=λw hw=>by rw[<-hm];exact(hr.below hw).jo.2.2.2.2.2.1
   have e7:∀w,Below W.heap.size W w->w.cell? ⟨gb,m*8+7,none⟩=some (.int .i64 h):=λw hw=>by rw[<-hm];exact(hr.below hw).jo.2.2.2.2.2.2.2.1
   rw[hm]at jg hl2
   clear hr hl hn hy ht pK hm
   go_enter Tryz.func208,Tryz.ntmps208
   go_wp2_with fail
   refine jg.o.mono ?_
   rintro e w1 ⟨rfl,rfl⟩
   go_wp2_with fail
   refine aU (Below w1.heap.size w1) ?_
   have S0:Below w1.heap.size w1 w1.drew:=(af6 _ _).drew
   obtain⟨we,bU⟩:=ay (w1.drew)
   rw[bU]at S0⊢
   refine bJ 0 1 2 3 4 5 ?_
   refine bJ 6 7 8 9 10 11 ?_
   refine tk4 12 13 14 15 ?_
   refine aO ?_
   go_wp2_with fail
   exact af_ (v:=.tuple #[.int .i64 h,.bool (decide (h<t))]) (by simp[results,Tryz.results208,go_sem]) rfl ⟨rfl,S0⟩
theorem rZ(h:gV n0 B most g F E W){p:Nat}(hp:iW W p B g)(hi:i<=E.length):
    Calls Tryz.prog 57 #[ku p,vI i] W λe w'=>e=.returned (vI (aF E i).w.len)/\Below W.heap.size W w':=by
 have HW:=ak (dS h.st hi (by have:=h.room;omega))
 have HS:=ak (iQ hp)
 obtain⟨u,hu⟩:=ay ((aF E i).w)
 rw[hu]at HW⊢
 clear h hp hi hu
 go_enter Tryz.func57,Tryz.ntmps57
 go_wp2_with fail
 refine HS.o.mono ?_
 rintro e wn ⟨rfl,rfl⟩
 go_wp2_with fail
 refine HW.o.mono ?_
 rintro e w1 ⟨rfl,b1⟩
 obtain⟨wz,w2,hz,hs,k2,b2,⟨q0,q1,q2,q3,q4,q5⟩,r0,r1,r2,r3,r4,r5⟩:=kE w1 u
 have HB:=ak (Below.after b1 b2);have HK:=ak k2
 clear b1 b2 k2
 have x0:=HK.o.cells.1
 go_wp2_with fail
 exact af_ (v:=.int .i64 u.len) (by simp[results,Tryz.results57,go_sem]) rfl ⟨rfl,HB.o⟩
theorem He.same{pa:Nat}{cs:Array Value}{e:Ed}(h:gV n0 B most g F E W)(he:J6 W E T lo sb o pa b e cs v)(hb:Below W.heap.size W w'):He n0 B most g F E W T lo sb o pa b cs v e w':=
 ⟨cs,v,he.below hb,lV.refl _ _,vB _ _,Gw.of h hb⟩
theorem iq.pop{W:World}{E:List En}{T:TypeId}{lo sb o pa:Nat}{b:Bool}{y:Sy}{h:Nat}{q:gI}{i k:Nat}{cs:Array Value}{cap gb:Nat}(hr:iq W E T lo sb o pa b ((y,h)::q) i k cs (.slice (some ⟨gb,0,none⟩) (q.length+1) cap))(hT:T≠289):
    iq (W.setCell ⟨sb,o+2,none⟩ (.slice (some ⟨gb,0,none⟩) q.length cap)) E T lo sb o pa b q i k (cs.setIfInBounds (o+2) (.slice (some ⟨gb,0,none⟩) q.length cap)) (.slice (some ⟨gb,0,none⟩) q.length cap):=by
 have hp:=hr.path;unfold G9 at hp;rw[ah3]at hp;exact hr.slice hT (aP.pop (tY E) hp (by simp)) λf hf=>hr.mem f (agK _ hf)
theorem Lh(h:gV n0 B most g F E W){pa:Nat}{e:Ed}{cs:Array Value}(hl:EdL n0 lo sb T)(hp:iW W pa B g)(he:J6 W E T lo sb o pa b e cs v)(hn0:0<n)(hsz:(EF e).length<=1000000)(hk:∀y h q,EF e=(y,h)::q->h<=(aZ y).length):
    Calls Tryz.prog 146 #[.pointer (some ⟨sb,o,none⟩),vI n] W λr w'=>r=.returned (.tuple #[])/\He n0 B most g F E W T lo sb o pa b cs v (oD n e) w':=by
 have HF:∀f,Fence.wide.fn f:=λ_=>trivial;by_cases hn:∀y h q,EF e=(y,h)::q->aQ y≠n
 .have jg:=ak (d9 he.r hsz hn);have hu:oD n e=e:=by
   cases e with
   |none=>rfl
   |some s=>
    obtain⟨p,x⟩:=s;cases p with
    |nil=>rfl
    |cons f q=>
     obtain⟨y,h'⟩:=f;rw[jS,af4 (λq'=>hn y h' q rfl q'.1)]
  have HE:aA (∀w',Below W.heap.size W w'->He n0 B most g F E W T lo sb o pa b cs v (oD n e) w'):=ak λw' hb=>by rw[hu];exact He.same h he hb
  clear h hl hp he hsz hk hn hu;go_enter Tryz.func146,Tryz.ntmps146;go_wp2_with fail
  refine jg.o.mono ?_;rintro r w1 ⟨rfl,rfl⟩;go_wp2_with fail
  refine dD (S:=Below w1.heap.size w1) ((af6 _ _).drew) λwe S0=>?_;refine tk3 0 1 2 ?_;refine aJ.sk 3 ?_;refine aJ.sk 4 ?_;refine aJ.sk 5 ?_;refine aJ.sk 6 ?_;refine aJ.sk 7 ?_;refine aJ.sk 8 ?_;refine aJ.sk 9 ?_;refine aJ.sk 10 ?_;refine aJ.sk 11 ?_;refine aJ.sk 12 ?_;refine tk1 13 ?_;refine aO ?_;go_wp2_with fail
  exact af_ (v:=.tuple #[]) (by simp[results,Tryz.results146,go_sem]) rfl ⟨rfl,HE.o _ S0⟩
 cases e with
 |none=>exact absurd (λy h q e=>by cases e) hn
 |some s=>
  obtain⟨p,x⟩:=s;cases p with
  |nil=>exact absurd (λy h q e=>by cases e) hn
  |cons f q=>
   obtain⟨y,h'⟩:=f;have pK:aQ y=n:=by
    apply ahk;intro hne;exact hn λy' h'' q' e=>by
     have e:(y,h')::q=(y',h'')::q':=e;injection e with e1 _;injection e1 with e3 _;rw[<-e3];exact hne
   have hkk:=hk y h' q rfl;have hr:iq W E T lo sb o pa b ((y,h')::q) (num E x) (key x) cs v:=he.r;obtain⟨gb,cap,rfl,-,hc1,hc2,-⟩:=hr.top;have hl2:q.length+1<=1000000:=by
    have h9:((y,h')::q).length<=1000000:=hsz;rw[agc]at h9;exact h9
   have jg:=ak (dw hr hl2 pK);have hwk:=zN (y:=y) (n:=0) (by omega);obtain⟨r,mW⟩:=ay (yP E y);obtain⟨t,ht⟩:=ay (dK y);have HW:aA (∀w,Calls Tryz.prog 185 #[.agg #[.int .i64 r.kind,.int .u8 r.letter,.int .i64 r.left,.int .i64 r.right,.int .i64 r.times]] w λe w'=>e=.returned (vI t)/\Below w.heap.size w w'):=ak λw=>by rw[<-ht,<-mW];exact EG E y
   obtain⟨m,hm⟩:=ay (q.length);have e1:∀w,Below W.heap.size W w->w.cell? ⟨gb,m*8+1,none⟩=some (.int .i64 r.kind):=λw hw=>by rw[<-hm,<-mW];exact(hr.below hw).jo.2.1
   have e2:∀w,Below W.heap.size W w->w.cell? ⟨gb,m*8+2,none⟩=some (.int .u8 r.letter):=λw hw=>by rw[<-hm,<-mW];exact(hr.below hw).jo.2.2.1
   have e3:∀w,Below W.heap.size W w->w.cell? ⟨gb,m*8+3,none⟩=some (.int .i64 r.left):=λw hw=>by rw[<-hm,<-mW];exact(hr.below hw).jo.2.2.2.1
   have e4:∀w,Below W.heap.size W w->w.cell? ⟨gb,m*8+4,none⟩=some (.int .i64 r.right):=λw hw=>by rw[<-hm,<-mW];exact(hr.below hw).jo.2.2.2.2.1
   have e5:∀w,Below W.heap.size W w->w.cell? ⟨gb,m*8+5,none⟩=some (.int .i64 r.times):=λw hw=>by rw[<-hm,<-mW];exact(hr.below hw).jo.2.2.2.2.2.1
   have e7:∀w,Below W.heap.size W w->w.cell? ⟨gb,m*8+7,none⟩=some (.int .i64 h'):=λw hw=>by rw[<-hm];exact(hr.below hw).jo.2.2.2.2.2.2.2.1
   by_cases hw:h'<t
   case' _=>
    have hu:oD n (some ((y,h')::q,x))=some ((y,h')::q,x):=(by rw[jS,af4 (λq'=>by omega)]);have HE:aA (∀w',Below W.heap.size W w'->He n0 B most g F E W T lo sb o pa b cs (.slice (some ⟨gb,0,none⟩) (m+1) cap) (oD n (some ((y,h')::q,x))) w'):=ak λw' hb=>by rw[hu,<-hm];exact He.same h he hb
    have lw:(h':Int)<(t:Int):=(by omega);rw[hm]at jg⊢;clear h hl hp he hsz hk hn hu hr hkk hwk ht mW pK hm hl2 hw
   rotate_left
   case' _=>
    have lw:¬(h':Int)<(t:Int):=(by omega);have hht:h'=(aZ y).length:=(by omega);have hu:oD n (some ((y,h')::q,x))=some (q,y):=(by rw[jS,af5 ⟨pK,hht⟩]);obtain⟨iy,Ga⟩:=ay (num E y);obtain⟨ky,hky⟩:=ay (key y);have e0:∀w,Below W.heap.size W w->w.cell? ⟨gb,m*8,none⟩=some (.int .i64 iy):=λw hw=>by rw[<-hm,<-Ga];exact(hr.below hw).jo.1
    have hym:=hr.mem (y,h') (by simp);rw[hu];rw[hm]at jg hr⊢;have HR:=ak hr;have HP:=ak h;have fV:=ak hp;have HL:=ak hl;have HX:=ak (hr.pa hl hp);have HY:=ak (And.intro hym (And.intro Ga (And.intro hky hm)));have oG:=ak (show lo<=gb/\gb<W.heap.size from hr.Ux rfl);have HKE:aA (∀w,Gw n0 B most g F (λq=>q=sb) E E W w->Calls Tryz.prog 171 #[.pointer (some ⟨g,0,none⟩),.int .i64 iy] w λr w'=>r=.returned (.tuple #[vK ky,.nilIface])/\Gw n0 B most g F (λ_=>False) E E w w'):=ak λw hw=>by
     have:=Ci hw.st hym.1;rw[Ga,hky]at this;exact this
    have hmb:m<=1000000:=(by omega);have hmc:m+1<=cap:=(by omega);have hcm:cap<=9223372036854775807:=(by unfold maxLen at hc2;omega);clear h hl hp he hsz hk hn hu hr hkk hwk ht mW pK hm hw hym Ga hky hc1 hc2 hht
   rotate_left
   all_goals
    go_enter Tryz.func146,Tryz.ntmps146;go_wp2_with fail
    refine jg.o.mono ?_;rintro r' w1 ⟨rfl,rfl⟩;go_wp2_with fail
    refine dD (S:=Below w1.heap.size w1) ((af6 _ _).drew) λwe S0=>?_;refine bJ 0 1 2 3 4 5 ?_;refine zD 6 7 8 9 10 ?_;refine aT 11 λK hK=>?_;go_simp
    try with_reducible refine⟨rfl,?_⟩
    refine agq.2 ((HW.o _).mono ?_)
   case' _=>
    rintro e wn ⟨rfl,bn⟩
   rotate_left
   case' _=>
    rintro e w2 ⟨rfl,bn⟩
   rotate_left
   all_goals
    replace S0:=Below.after S0 bn;refine hK _ _ S0 ?_;clear hK K bn;refine tk2 12 13 ?_;refine aO ?_
   .go_wp2_with fail
    exact af_ (v:=.tuple #[]) (by simp[results,Tryz.results146,go_sem]) rfl ⟨rfl,HE.o _ S0⟩
   have c0:=e0 _ S0;have hr2:=HR.o.below S0;obtain⟨-,-,-,c3,-,f6⟩:=hr2.cells;have f3:=f6 (o+3);obtain⟨w3,hw3⟩:=ay (w2.setCell ⟨sb,o+3,none⟩ (.int .i64 iy));have hr3:=hr2.id HL.o.t2 iy;have hg3:w2.grownBy w3 (some sb):=by rw[<-hw3];exact aK _ _ _
   have adt:iq w3 E T lo sb o pa b ((y,h')::q) iy (key x) (cs.setIfInBounds (o+3) (vI iy)) (.slice (some ⟨gb,0,none⟩) (m+1) cap):=by rw[<-hw3];exact hr3
   have qJ:aA (Gw n0 B most g F (λq=>q=sb) E E w1 w3):=ak ((Gw.of HP.o S0).trans (Gw.put (HP.o.below S0) hg3 hr2.blk HL.o.t1 (by have:=HL.o.l0;have:=HL.o.l1;omega) rfl));have HR3:=ak adt;clear e0 e1 e2 e3 e4 e5 e7 hr2 f6 hr3 adt hg3 S0;go_wp2_with fail
   clear c0 c3 f3 hw3;have e0:∀w,Uz n0 B most g F E w3 T lo sb o pa b ((y,h')::q) iy (.slice (some ⟨gb,0,none⟩) (m+1) cap) w->w.cell? ⟨sb,o,none⟩=some (ku pa):=λw hw=>by
    obtain⟨-,k2,c2,h2⟩:=hw;exact h2.cells.1
   have e3:∀w,Uz n0 B most g F E w3 T lo sb o pa b ((y,h')::q) iy (.slice (some ⟨gb,0,none⟩) (m+1) cap) w->w.cell? ⟨sb,o+3,none⟩=some (vI iy):=λw hw=>by
    obtain⟨-,k2,c2,h2⟩:=hw;exact h2.cells.2.2.2.1
   refine aU (Uz n0 B most g F E w3 T lo sb o pa b ((y,h')::q) iy (.slice (some ⟨gb,0,none⟩) (m+1) cap)) ?_;obtain⟨we,bU⟩:=ay (w3.drew);have S0:Gw n0 B most g F (λ_=>False) E E w3 we:=by rw[<-bU];exact Gw.of qJ.o.st (af6 _ _).drew
   have T0:Uz n0 B most g F E w3 T lo sb o pa b ((y,h')::q) iy (.slice (some ⟨gb,0,none⟩) (m+1) cap) we:=⟨S0.free,_,_,HR3.o.gw S0 HP.o.wf.wf HL.o.t1 (λq=>q) (λ_ _ q=>q)⟩;rw[bU];clear bU;refine bJ 0 1 2 3 4 6 ?_;refine tk3 7 8 9 ?_;refine aT 5 λK hK=>?_;go_simp
   try with_reducible refine⟨rfl,?_⟩
   refine agq.2 ((kT ((fV.o.kp qJ.o.kp (λq=>HX.o (.inl q))).kp S0.kp (λq=>q))).mono ?_);rintro e wn ⟨rfl,rfl⟩;refine hK _ _ T0 ?_;clear hK K;refine aT 10 λK hK=>?_;go_simp
   try with_reducible refine⟨rfl,?_⟩
   refine agq.2 ((HKE.o _ (qJ.o.trans S0.free)).mono ?_);rintro e w4 ⟨rfl,bn⟩;replace S0:=S0.trans bn;have h3:=HR3.o.gw S0 HP.o.wf.wf HL.o.t1 (λq=>q) (λ_ _ q=>q);have T3:Uz n0 B most g F E w3 T lo sb o pa b ((y,h')::q) iy (.slice (some ⟨gb,0,none⟩) (m+1) cap) w4:=⟨S0.free,_,_,h3⟩;refine hK _ _ T3 ?_;have H3:=ak h3;clear hK K bn T0 h3;refine zD 11 12 13 14 15 ?_;refine aT 16 λK hK=>?_;go_simp;obtain⟨-,-,-,-,c4,f6⟩:=H3.o.cells;have f4:=f6 (o+4);obtain⟨w5,eH⟩:=ay (w4.setCell ⟨sb,o+4,none⟩ (.int .u64 ky));have h4:=H3.o.key HL.o.t2 ky;have hg4:w4.grownBy w5 (some sb):=by rw[<-eH];exact aK _ _ _
   have hG4:=Gw.put (F:=F) (X:=λq=>q=sb) S0.st hg4 H3.o.blk HL.o.t1 (by have:=HL.o.l0;have:=HL.o.l1;omega) rfl;have h4':iq w5 E T lo sb o pa b ((y,h')::q) iy ky ((cs.setIfInBounds (o+3) (vI iy)).setIfInBounds (o+4) (vK ky)) (.slice (some ⟨gb,0,none⟩) (m+1) cap):=by rw[<-eH];exact h4
   go_simp;refine hK _ _ ⟨S0.free.trans hG4,_,_,h4'⟩ ?_;have H4:=ak h4';have xZ:=ak ((qJ.o.trans S0.free).trans hG4);clear hK K f6 h4 h4' hg4 hG4 eH c4 f4;refine aO ?_;clear e0 e3 S0 T3 H3 qJ HR3;have e2:∀w,Below w5.heap.size w5 w->w.cell? ⟨sb,o+2,none⟩=some (.slice (some ⟨gb,0,none⟩) (m+1) cap):=λw hw=>(H4.o.below hw).cells.2.2.1;go_wp2_with fail
   refine aU (Below w5.heap.size w5) ?_;obtain⟨we,bU⟩:=ay (w5.drew);have S0:Below w5.heap.size w5 we:=by rw[<-bU];exact(af6 _ _).drew
   rw[bU];clear bU;have l0:(0:Int)<=(m:Int):=by omega
   have lc:(m:Int)<=(cap:Int):=by omega
   have lm:IntKind.i64.wrap (m:Int)=(m:Int):=by rw[agd];omega
   refine bJ 0 1 2 3 4 5 ?_;refine bJ 6 7 8 9 10 11 ?_;refine tk2 12 13 ?_;refine aJ.cK 14 (by kernel_rfl) ?_;simp only[agr,agj];have XL:iq we E T lo sb o pa b ((y,h')::q) iy ky ((cs.setIfInBounds (o+3) (vI iy)).setIfInBounds (o+4) (vK ky)) (.slice (some ⟨gb,0,none⟩) (q.length+1) cap):=by rw[HY.o.2.2.2];exact H4.o.below S0
   have hr6:=XL.pop HL.o.t2;rw[HY.o.2.2.2]at XL hr6;obtain⟨-,-,c2,-,-,f6⟩:=XL.cells;have f2:=f6 (o+2);obtain⟨w6,dH⟩:=ay (we.setCell ⟨sb,o+2,none⟩ (.slice (some ⟨gb,0,none⟩) m cap));rw[dH]at hr6;have lu:we.grownBy w6 (some sb):=by rw[<-dH];exact aK _ _ _
   have zY:aA (He n0 B most g F E w1 T lo sb o pa b cs (.slice (some ⟨gb,0,none⟩) (m+1) cap) (some (q,y)) w6):=ak (by
    refine⟨_,.slice (some ⟨gb,0,none⟩) m cap,⟨?_,λp2 x2 e=>?_⟩,((lV.set (cs:=cs) (o:=o) (j:=o+3) (by omega) (by omega) (vI iy)).trans (lV.set (o:=o) (j:=o+4) (by omega) (by omega) (vK ky))).trans (lV.set (o:=o) (j:=o+2) (by omega) (by omega) (.slice (some ⟨gb,0,none⟩) m cap)),.inl rfl,?_⟩
    .show iq w6 E T lo sb o pa b q (num E y) (key y) _ _;rw[HY.o.2.1,HY.o.2.2.1];exact hr6
    .injection e with e;injection e with e1 e2;rw[<-e2];exact HY.o.1
    exact((xZ.o.trans (Gw.of xZ.o.st S0)).trans (Gw.put (xZ.o.st.below S0) lu XL.blk HL.o.t1 (by have:=HL.o.l0;have:=HL.o.l1;omega) rfl)).mono λq' _ hq=> .inl hq)
   clear XL hr6 f6 lu S0 e2;gi_wp2_with fail
   clear dH c2 f2;go_wp2_with fail
   go_end0;exact⟨rfl,zY.o⟩
end M
end
end Go.Proofs.YtgbhohfabhilgaaGreatDoor
