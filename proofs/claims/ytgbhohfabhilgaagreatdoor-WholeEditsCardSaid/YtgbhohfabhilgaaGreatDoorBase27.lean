import Derived.Test.YtgbhohfabhilgaaGreatDoorBase26
set_option maxRecDepth 100000
set_option maxHeartbeats 8000000
set_option linter.unusedVariables false
set_option linter.unusedSimpArgs false
namespace Go.Proofs.YtgbhohfabhilgaaGreatDoor
section
open Go.RowKit Go.Lib
namespace M
attribute [local go_sem] Oper.semAt_some
variable{E:List En}{n1 t:Nat}{W:World}
theorem bQ.Tc{w':World}{lo sb pa:Nat}{s:iD}{cs:Array Value}{vL vR vM:Value}(h:bQ W E lo sb pa s cs vL vR vM)(ho:bS [254] W w')(hb:Below n1 W w')(hv:∀q,vM.ownBlock=some q->q<n1):bQ w' E lo sb pa s cs vL vR vM:=by
 have hblk:w'.heap[sb]?=some (.cells cs 251 (0,0)):=ho.cells h.blk (by decide)
 have hpk:∀{u:Value} {p:gI},G9 lo W E u p->G9 lo w' E u p:=λhp=>by
  refine⟨hp.1,?_⟩
  rcases hp.2 with hn|⟨g,cap,cur,rfl,hb,hg,rest⟩
  .exact .inl hn
  .exact .inr ⟨g,cap,cur,rfl,hb,ho.cells hg (by decide),rest⟩
 refine⟨⟨⟨hblk,h.left.r.c0,h.left.r.c1,h.left.r.c2,h.left.r.c3,h.left.r.c4,hpk h.left.r.path,h.left.r.mem⟩,h.left.sym⟩,⟨⟨hblk,h.right.r.c0,h.right.r.c1,h.right.r.c2,h.right.r.c3,h.right.r.c4,hpk h.right.r.path,h.right.r.mem⟩,h.right.sym⟩,h.c0,h.c11,?_,h.mem,h.VZ,h.low⟩
 refine⟨h.mid.1,?_⟩
 rcases h.mid.2 with hn|⟨g,cap,cur,e,hb',hg,rest⟩
 .exact .inl hn
 .refine .inr ⟨g,cap,cur,e,hb',?_,rest⟩
  rw[hb.block g (hv g (by rw[e];rfl))];exact hg
def PuP(n1:Nat)(E:List En)(W:World)(l:List It)(e:Ending)(w':World):Prop:=∃v',e=.returned v'/\Its n1 w' E v' l/\bS [254] W w'/\Below n1 W w'
def V_(lv v':Value)(w w':World):Prop:=(∀q,v'.ownBlock=some q->lv.ownBlock=some q\/w.heap.size<=q)/\∀q cs,w.heap[q]?=some (.cells cs 254 (0,0))->lv.ownBlock≠some q->w'.heap[q]?=some (.cells cs 254 (0,0))
def PuQ(n1:Nat)(E:List En)(W:World)(lv:Value)(l:List It)(e:Ending)(w':World):Prop:=PuP n1 E W l e w'/\∀v',e=.returned v'->V_ lv v' W w'
theorem ng.box(w:World)(a b k t:Nat):∃w1,w.alloc (.cells #[.int .i64 a,.int .i64 b,.int .u64 k,.int .i64 t] 254)=w1/\ng w1 w.heap.size a b k t/\Below w.heap.size w w1:=⟨_,rfl,aD _ _,(af6 _ _).alloc (af7 _) _⟩
theorem zh{lv:Value}{l:List It}(hl:Its n1 W E lv l)(hn1:n1<=W.heap.size)(hok:r_ E l){x:Sy}(hx:x∈syms E)(ht:t<=1152921504606846976)(hlen:l.length<=1000000)(hnx:∀i∈l,i.nx=none)(hsum:∀j,l.getLast?=some j->j.x=x->j.times+t<=1152921504606846976):
    Calls Tryz.prog 213 #[lv,.agg #[vI (num E x),.int .i64 0,vK (key x),vI t]] W (PuQ n1 E W lv (bO l ⟨x,none,t⟩)):=by
 have HF:∀f,Fence.wide.fn f:=λ_=>trivial
 obtain⟨ix,hix⟩:=ay (num E x)
 obtain⟨kx,hkx⟩:=ay (key x)
 rw[hix,hkx]
 obtain⟨W1,hW1,kb,bb⟩:=ng.box W ix 0 kx t
 replace hW1:W.alloc (.cells #[.int .i64 ix,.int .i64 0,.int .u64 kx,.int .i64 t] 254)=W1:=hW1
 obtain⟨x0,x1,x2,x3,x4⟩:=kb.all
 replace x1:W1.cell? ⟨W.heap.size,1,none⟩=some (.int .i64 0):=x1
 have HB:=ak bb;have P5:=ak kb;have HL:=ak hl;have HN:=ak (And.intro hn1 hlen);have HX:=ak (And.intro hix hkx)
 have jX:aA (Its n1 W1 E lv l):=ak (hl.below bb)
 have iF:aA (W.heap.size<W1.heap.size):=ak (aga.1 kb).1
 by_cases hgo:∃l' j,l=l'++[j]/\j.x=x
 .obtain⟨l',j,rfl,hjx⟩:=hgo
  have hj:j∈l'++[j]:=by simp
  have hjn:=hnx j hj
  have hjs:=hsum j (by rw[ahy]) hjx
  have zQ:bO (l'++[j]) ⟨x,none,t⟩=l'++[⟨j.x,none,j.times+t⟩]:=by
   unfold bO
   rw[ahy]
   dsimp only
   rw[af5 hjx,aic]
  obtain⟨m,hm⟩:=ay (l'.length)
  have hln:(l'++[j]).length=m+1:=by rw[af8,hm];rfl
  obtain⟨tj,htj⟩:=ay (j.times)
  obtain⟨g,cap,rfl,hc1,hc2⟩:∃g cap,lv=.slice (some ⟨g,0,none⟩) (m+1) cap/\m+1<=cap/\cap<=maxLen:=by
   rcases hl.shape with⟨-,e⟩|⟨g,cap,e,h1,h2⟩
   .simp at e
   .rw[hln]at e h1;exact⟨g,cap,e,h1,h2⟩
  have hgj:(l'++[j])[m]'(by rw[hln];omega)=j:=by
   rw[ah_ (by omega)];simp
  have hcell:∀w,Below W1.heap.size W1 w->w.cell? ⟨g,m*4,none⟩=some (.int .i64 ix)/\w.cell? ⟨g,m*4+3,none⟩=some (.int .i64 tj):=λw hw=>by
   have hs:=jX.o.below hw
   have c0:=aP.cell (bG E) hs (i:=m) (by rw[hln];omega) (j:=0) (by omega)
   have c3:=aP.cell (bG E) hs (i:=m) (by rw[hln];omega) (j:=3) (by omega)
   rw[hgj]at c0 c3
   refine⟨?_,by rw[<-htj];exact c3⟩
   rw[<-hix,<-hjx];exact c0
  have g0:∀w,Below W1.heap.size W1 w->w.cell? ⟨g,m*4,none⟩=some (.int .i64 ix):=λw hw=>(hcell w hw).1
  have g3:∀w,Below W1.heap.size W1 w->w.cell? ⟨g,m*4+3,none⟩=some (.int .i64 tj):=λw hw=>(hcell w hw).2
  have b0:∀w,Below W1.heap.size W1 w->w.cell? ⟨W.heap.size,0,none⟩=some (.int .i64 ix):=λw hw=>(P5.o.below hw).all.1
  have b3:∀w,Below W1.heap.size W1 w->w.cell? ⟨W.heap.size,3,none⟩=some (.int .i64 t):=λw hw=>(P5.o.below hw).all.2.2.2.1
  have hset:∀w,Below W1.heap.size W1 w->PuQ n1 E W (.slice (some ⟨g,0,none⟩) (m+1) cap) (bO (l'++[j]) ⟨x,none,t⟩) (.returned (.slice (some ⟨g,0,none⟩) (m+1) cap)) (w.setCell ⟨g,m*4+3,none⟩ (.int .i64 ((tj+t:Nat):Int)))/\w.cell? ⟨g,m*4+3,none⟩=some (.int .i64 tj)/\w.frozen? ⟨g,m*4+3,none⟩=false:=λw hw=>by
   have hs:=jX.o.below hw
   obtain⟨hgl,cur,jN⟩:=hs.blk (b:=g) rfl
   have hst:=aP.setAt (bG E) hs (i:=m) (j:=3) (by rw[hln];omega) (by omega) (x':=(⟨j.x,none,tj+t⟩:It)) (u:=.int .i64 ((tj+t:Nat):Int)) (by
    rw[hgj]
    show[vI (num E j.x),vI 0,vK (key j.x),vI (tj+t)]=[vI (num E j.x),vI (VY E j.nx),vK (key j.x),vI j.times].set 3 _
    rw[hjn];rfl)
   have e3:(l'++[j]).set m ⟨j.x,none,tj+t⟩=l'++[⟨j.x,none,j.times+t⟩]:=by
    rw[aiY _ _ (by omega),hm,aiz,htj];rfl
   rw[e3,<-zQ]at hst
   refine⟨⟨⟨_,rfl,hst,?_,?_⟩,?_⟩,(hcell w hw).2,by simp[World.frozen?,jN]⟩
   .exact(bS.of (Below.after HB.o hw)).trans (jJ (aK w ⟨g,m*4+3,none⟩ _) jN)
   .exact((Below.after HB.o hw).mono HN.o.1).trans (bL (aK w ⟨g,m*4+3,none⟩ _) hgl (by have:=HN.o.1;have:=HB.o.size;have:=hw.size;omega))
   .intro v' ev
    injection ev with ev
    rw[<-ev]
    refine⟨λq hq=> .inl hq,λq cs hq hne=>?_⟩
    refine(agU _ _ _ q (λe=>hne (by cases e;rfl))).trans ?_
    rw[(Below.after HB.o hw).block q (aga.1 hq).1];exact hq
  have Wd:=ak hset
  have hmb:m<=1000000:=by omega
  have htb:tj+t<=1152921504606846976:=by rw[<-htj];exact hjs
  have lm:IntKind.i64.wrap (m:Int)=(m:Int):=by rw[agd];omega
  have lm0:(0:Int)<=(m:Int):=by omega
  have lm1:(m:Int)<(m:Int)+1:=by omega
  have lt1:IntKind.i64.wrap ((tj:Int)+(t:Int))=((tj+t:Nat):Int):=by rw[agd];omega
  obtain⟨ts,hts⟩:=ay (tj+t)
  rw[hts]at lt1 Wd
  clear hl hok hlen hnx hsum hjx hj hjn hjs zQ hm hln htj hgj hcell hset hts hc1 hc2 hix hkx bb kb x4 jX HL htb ht hx hn1
  go_enter Tryz.func213,Tryz.ntmps213
  go_wp2_with fail
  clear hW1 x0 x1 x2 x3
  refine aU (Below W1.heap.size W1) ?_
  obtain⟨we,bU⟩:=ay (W1.drew)
  have S0:Below W1.heap.size W1 we:=by rw[<-bU];exact(af6 _ _).drew
  rw[bU]
  clear bU
  refine bJ 0 1 2 3 4 5 ?_
  refine bJ 6 7 8 9 10 11 ?_
  refine tk1 12 ?_
  refine aO ?_
  go_wp2_with fail
  refine aU (Below W1.heap.size W1) ?_
  obtain⟨wf,hwf⟩:=ay (we.drew)
  have S1:Below W1.heap.size W1 wf:=by rw[<-hwf];exact S0.drew
  rw[hwf]
  clear hwf S0
  refine bJ 0 1 2 3 4 5 ?_
  refine zD 6 7 8 9 10 ?_
  refine aJ.cK 11 (by kernel_rfl) ?_
  simp only[agr,agj]
  obtain⟨q1,q2,q3⟩:=Wd.o wf S1
  have HQ:=ak q1
  clear q1 S1 g0 g3 b0 b3
  gi_wp2_with fail
  go_wp2_with fail
  exact af_ (v:=.slice (some ⟨g,0,none⟩) (m+1) cap) (by simp[results,Tryz.results213,go_sem]) rfl HQ.o
 .have zQ:bO l ⟨x,none,t⟩=l++[⟨x,none,t⟩]:=by
   unfold bO
   rcases agR l with rfl|⟨l',j,rfl⟩
   .rfl
   .rw[agO,ahy]
    dsimp only
    rw[af4 (λe=>hgo ⟨l',j,by rw[agO],e⟩)]
  have Hl:=ak zQ
  have hrest:∀(w1:World),Below W1.heap.size W1 w1->∃v' w',(Builtin.append_ #[249,249] 249 #[lv,.slice (some ⟨w1.heap.size,0,none⟩) 1 1]).run Tryz.prog (w1.alloc (.cells #[.int .i64 ix,.int .i64 0,.int .u64 kx,.int .i64 t] 254))=.ok v' w'/\PuQ n1 E W lv (bO l ⟨x,none,t⟩) (.returned v') w':=λw1 hb1=>by
   obtain⟨v7,w7,hrun,hs7,hgr,oI,EI⟩:=eB m_ (bG E) 249 (jX.o.below hb1) (⟨x,none,t⟩:It) 1 (cs:=#[.int .i64 ix,.int .i64 0,.int .u64 kx,.int .i64 t]) (by
    show _=[vI (num E x),vI 0,vK (key x),vI t]
    rw[HX.o.1,HX.o.2];rfl) (eF E _) (by have:=HN.o;omega) (by have:=HN.o;have:=HB.o.size;have:=hb1.size;omega)
   refine⟨v7,w7,hrun,⟨v7,rfl,by rw[Hl.o];exact hs7,?_,?_⟩,?_⟩
   .exact(bS.of (Below.after HB.o hb1)).trans (bS.own (jX.o.below hb1) (af6 _ _) (aM (ahG w1 _ _) hgr) (agl.2 rfl))
   .exact((Below.after HB.o hb1).mono HN.o.1).trans oI
   .intro v' ev
    injection ev with ev
    rw[<-ev]
    have hz1:=HB.o.size
    have hz2:=hb1.size
    refine⟨λq hq=>?_,λq cs hq hne=>?_⟩
    .rcases EI with e|⟨r,e,hr⟩
     .exact .inl (by rw[<-e];exact hq)
     .rw[hq]at e
      cases e
      exact .inr (by omega)
    .have hlt:=(aga.1 hq).1
     have q1:w1.heap[q]?=some (.cells cs 254 (0,0)):=by
      rw[(Below.after HB.o hb1).block q hlt];exact hq
     exact iZ (aM (ahG w1 _ _) hgr) q1 hne
  have Ns:=ak hrest
  rcases agR l with rfl|⟨l',j,rfl⟩
  case' _=>
   obtain⟨a,cap,rfl⟩:∃a cap,lv=.slice a 0 cap:=by obtain⟨a,c,e⟩:=hl.len;exact⟨a,c,e⟩
   clear hl hok hlen hnx hsum hgo zQ hrest hix hkx bb kb x4 jX HL Hl ht hx hn1
  rotate_left
  case' _=>
   rw[agO]at *
   have hjx:j.x≠x:=λe=>hgo ⟨l',j,rfl,e⟩
   have hjm:j.x∈syms E:=(hok j (by simp)).1
   obtain⟨m,hm⟩:=ay (l'.length)
   have hln:(l'++[j]).length=m+1:=by rw[af8,hm];rfl
   obtain⟨g,cap,rfl,hc1,hc2⟩:∃g cap,lv=.slice (some ⟨g,0,none⟩) (m+1) cap/\m+1<=cap/\cap<=maxLen:=by
    rcases hl.shape with⟨-,e⟩|⟨g,cap,e,h1,h2⟩
    .simp at e
    .rw[hln]at e h1;exact⟨g,cap,e,h1,h2⟩
   have hgj:(l'++[j])[m]'(by rw[hln];omega)=j:=by
    rw[ah_ (by omega)];simp
   obtain⟨ij,hij⟩:=ay (num E j.x)
   have hne:¬(ij:Int)=(ix:Int):=λe=>hjx (by
    have e':num E j.x=num E x:=by rw[hij,hix];omega
    rw[<-(aS hjm).2.2,e',(aS hx).2.2])
   have hne':((ij:Int)==(ix:Int))=false:=agh.2 hne
   have g0:∀w,Below W1.heap.size W1 w->w.cell? ⟨g,m*4,none⟩=some (.int .i64 ij):=λw hw=>by
    have hs:=jX.o.below hw
    have c0:=aP.cell (bG E) hs (i:=m) (by rw[hln];omega) (j:=0) (by omega)
    rw[hgj]at c0
    rw[<-hij];exact c0
   have b0:∀w,Below W1.heap.size W1 w->w.cell? ⟨W.heap.size,0,none⟩=some (.int .i64 ix):=λw hw=>(P5.o.below hw).all.1
   have hmb:m<=1000000:=by omega
   have lm:IntKind.i64.wrap (m:Int)=(m:Int):=by rw[agd];omega
   have lm0:(0:Int)<=(m:Int):=by omega
   have lm1:(m:Int)<(m:Int)+1:=by omega
   clear hl hok hlen hnx hsum hgo zQ hrest hix hkx bb kb x4 jX HL Hl ht hx hn1 hjx hjm hm hln hc1 hc2 hgj hij
  rotate_left
  all_goals
   go_enter Tryz.func213,Tryz.ntmps213
   go_wp2_with fail
   clear hW1 x0 x1 x2 x3
   refine aU (Below W1.heap.size W1) ?_
   obtain⟨we,bU⟩:=ay (W1.drew)
   have S0:Below W1.heap.size W1 we:=by rw[<-bU];exact(af6 _ _).drew
   rw[bU]
   clear bU
  case' _=>
   refine tk3 0 1 2 ?_
   refine aJ.sk 3 ?_
   refine aJ.sk 4 ?_
   refine aJ.sk 5 ?_
   refine aJ.sk 6 ?_
   refine aJ.sk 7 ?_
   refine aJ.sk 8 ?_
   refine aJ.sk 9 ?_
   refine aJ.sk 10 ?_
   refine aJ.sk 11 ?_
  rotate_left
  case' _=>
   refine bJ 0 1 2 3 4 5 ?_
   refine bJ 6 7 8 9 10 11 ?_
  rotate_left
  all_goals
   refine tk1 12 ?_
   refine aO ?_
   obtain⟨x0,x1,x2,x3,-⟩:=(P5.o.below S0).all
   replace x1:we.cell? ⟨W.heap.size,1,none⟩=some (.int .i64 0):=x1
   obtain⟨v7,w7,hrun,hq⟩:=Ns.o we S0
   have HQ:=ak hq
  case' _=>
   clear hq S0 Ns
  rotate_left
  case' _=>
   clear hq S0 Ns g0 b0
  all_goals
   go_wp2_with (first
    | (at_builtin;refine uO rfl _ _ rfl rfl rfl hrun ?_))
   go_wp2_with fail
   exact af_ (v:=v7) (by simp[results,Tryz.results213,go_sem]) rfl HQ.o
theorem Jm{lv:Value}{l:List It}(hl:Its n1 W E lv l)(hn1:n1<=W.heap.size)(hok:r_ E l){x:Sy}(hx:x∈syms E)(ht:t<=1152921504606846976)(hlen:l.length<=1000000)(hnx:∀i∈l,i.nx=none)(hsum:∀j,l.getLast?=some j->j.x=x->j.times+t<=1152921504606846976):
    Calls Tryz.prog 213 #[lv,.agg #[vI (num E x),.int .i64 0,vK (key x),vI t]] W (PuP n1 E W (bO l ⟨x,none,t⟩)):=(zh hl hn1 hok hx ht hlen hnx hsum).mono λ_ _ h=>h.1
structure qW(n0 B most g:Nat)(F:List Sy)(E0:List En)(W0:World)(lo sb pa n1:Nat)(s:iD)(cs:Array Value)(vL vR vM:Value)(E:List En)(lv:Value)(l:List It)(w:World):Prop where
 gw:Gw n0 B most g F (λq=>n1<=q) E0 E W0 w
 sp:bQ w E lo sb pa s cs vL vR vM
 ls:Its n1 w E lv l
 ok:r_ E l
 nx:∀i∈l,i.nx=none
structure J8(n0 lo n1:Nat)(W0:World)(vM:Value):Prop where
 l0:n0<=lo
 l1:lo<=n1
 l2:n1<=W0.heap.size
 vm:∀q,vM.ownBlock=some q->q<n1
section
variable {n0 B most g:Nat} {F:List Sy} {E0:List En} {W0:World} {lo sb pa n1:Nat} {s:iD} {cs:Array Value} {vL vR vM:Value} {E E':List En} {lv:Value} {l:List It} {w w':World}
theorem qW.call(h:qW n0 B most g F E0 W0 lo sb pa n1 s cs vL vR vM E lv l w)(hg:Gw n0 B most g F (λ_=>False) E E' w w'):qW n0 B most g F E0 W0 lo sb pa n1 s cs vL vR vM E' lv l w':=
 ⟨h.gw.trans hg.free,h.sp.call h.gw.st.wf.wf hg,h.ls.gw hg h.ok (λ_ _ q=>q),h.ok.ext hg.ext,h.nx⟩
theorem qW.below(h:qW n0 B most g F E0 W0 lo sb pa n1 s cs vL vR vM E lv l w)(hb:Below w.heap.size w w'):qW n0 B most g F E0 W0 lo sb pa n1 s cs vL vR vM E lv l w':=
 ⟨h.gw.trans (Gw.of h.gw.st hb),h.sp.below hb,h.ls.below hb,h.ok,h.nx⟩
theorem Td{i:It}(h:r_ E l)(hn:∀j∈l,j.nx=none)(hx:i.x∈syms E)(hin:i.nx=none)(ht:i.times<=1152921504606846976)(hs:∀j,l.getLast?=some j->j.x=i.x->j.times+i.times<=1152921504606846976):r_ E (bO l i)/\∀j∈bO l i,j.nx=none:=by
 have hi:r_ E [i]:=λj hj=>by
  rw[agl.1 hj]
  exact⟨hx,λy e=>(by rw[hin]at e;cases e),ht⟩
 rcases agR l with rfl|⟨l',j,rfl⟩
 .exact⟨hi,λj hj=>by
   have:j∈[i]:=hj
   rw[agl.1 this];exact hin⟩
 .rw[agO]at *
  unfold bO
  rw[ahy]
  dsimp only
  by_cases e:j.x=i.x
  .rw[af5 e,aic]
   refine⟨λk hk=>?_,λk hk=>?_⟩
   .rcases ags.1 hk with q|q
    .exact h k (by simp[q])
    .rw[agl.1 q]
     exact⟨(h j (by simp)).1,λy e=>(by cases e),hs j (by rw[ahy]) e⟩
   .rcases ags.1 hk with q|q
    .exact hn k (by simp[q])
    .rw[agl.1 q]
  .rw[af4 e]
   refine⟨h.app hi,λk hk=>?_⟩
   rcases ags.1 hk with q|q
   .exact hn k q
   .rw[agl.1 q];exact hin
theorem qW.push(h:qW n0 B most g F E0 W0 lo sb pa n1 s cs vL vR vM E lv l w)(hb:J8 n0 lo n1 W0 vM){i:It}(hx:i.x∈syms E)(hin:i.nx=none)(ht:i.times<=1152921504606846976)(hs:∀j,l.getLast?=some j->j.x=i.x->j.times+i.times<=1152921504606846976){e:Ending}(hq:PuP n1 E w (bO l i) e w'):
    ∃v',e=.returned v'/\qW n0 B most g F E0 W0 lo sb pa n1 s cs vL vR vM E v' (bO l i) w':=by
 obtain⟨v',rfl,h1,h2,h3⟩:=hq
 obtain⟨a,b⟩:=Td h.ok h.nx hx hin ht hs
 exact⟨v',rfl,h.gw.trans (Gw.item h.gw.st h2 h3 (af9 hb.l0 hb.l1)),h.sp.Tc h2 h3 hb.vm,h1,a,b⟩
theorem qW.size(h:qW n0 B most g F E0 W0 lo sb pa n1 s cs vL vR vM E lv l w)(hb:J8 n0 lo n1 W0 vM):n1<=w.heap.size:=af9 hb.l2 h.gw.below.size
theorem uK(h:qW n0 B most g F E0 W0 lo sb pa n1 s cs vL vR vM E lv l w)(hb:J8 n0 lo n1 W0 vM)(hp:iW w pa B g){x y:Sy}(hx:x∈syms E)(hy:y∈syms E)(hF:Sy.pr x y∈F){t:Nat}(ht:t<=1152921504606846976)(hlen:l.length<=1000000)(hs:∀j,l.getLast?=some j->j.x=.pr x y->j.times+t<=1152921504606846976):
    Calls Tryz.prog 214 #[.pointer (some ⟨sb,0,none⟩),lv,vI (num E x),vI (num E y),vI t] w λe w'=>∃E' v',e=.returned (.tuple #[v',.nilIface])/\qW n0 B most g F E0 W0 lo sb pa n1 s cs vL vR vM E' v' (bO l ⟨.pr x y,none,t⟩) w'/\V_ lv v' w w'/\Ext E E':=by
 have HM:=ak h;have HB:=ak hb;have fV:=ak hp;have HT:=ak (And.intro ht (And.intro hlen hs))
 have jg:=ak (XD h.gw.st hx hy hF)
 have HST:=ak (iQ hp)
 have c0:=h.sp.cell0
 obtain⟨ix,hix⟩:=ay (num E x)
 obtain⟨iy,Ga⟩:=ay (num E y)
 rw[hix,Ga]at jg
 rw[hix,Ga]
 clear h hb hp hx hy hF ht hlen hs hix Ga
 go_enter Tryz.func214,Tryz.ntmps214
 go_wp2_with fail
 refine HST.o.mono ?_
 rintro e w1 ⟨rfl,hw1⟩
 obtain rfl:w=w1:=hw1.symm
 go_wp2_with fail
 refine jg.o.mono ?_
 rintro e w2 ⟨E2,rfl,hg2,hm2⟩
 have kZ:=ak (HM.o.call hg2)
 have CB:=ak (fV.o.kp hg2.kp (λq=>q))
 have HKY:=ak (Ci hg2.st hm2)
 have tJ:=ak hm2
 have HG2:=ak hg2
 obtain⟨ip,pV⟩:=ay (num E2 (.pr x y))
 obtain⟨kp,hkp⟩:=ay (key (.pr x y))
 rw[pV,hkp]at HKY
 rw[pV]
 have Wh:=ak (And.intro pV hkp)
 have HKS:=ak (kT CB.o)
 clear c0 hg2 hm2 HM pV hkp
 have c0:=kZ.o.sp.cell0
 go_wp2_with fail
 refine HKS.o.mono ?_
 rintro e w3 ⟨rfl,hw3⟩
 obtain rfl:w2=w3:=hw3.symm
 go_wp2_with fail
 refine HKY.o.mono ?_
 rintro e w4 ⟨rfl,hg4⟩
 have Mm:=ak (kZ.o.call hg4)
 have xZ:=ak hg4
 have zQ:=zh Mm.o.ls (Mm.o.size HB.o) Mm.o.ok (x:=.pr x y) (t:=t) tJ.o HT.o.1 HT.o.2.1 Mm.o.nx HT.o.2.2
 rw[Wh.o.1,Wh.o.2]at zQ
 have Hl:=ak zQ
 clear c0 hg4 zQ kZ
 go_wp2_with fail
 refine Hl.o.mono ?_
 rintro e w5 hq
 obtain⟨v',rfl,zR⟩:=Mm.o.push HB.o (i:=⟨.pr x y,none,t⟩) tJ.o rfl HT.o.1 HT.o.2.2 hq.1
 have HM5:=ak zR
 have P5:aA (V_ lv v' w w5):=ak (by
  have k:=hq.2 v' rfl
  have z1:=HG2.o.below.size
  have z2:=xZ.o.below.size
  refine⟨λq e=>?_,λq cs e hne=>k.2 q cs (xZ.o.kp.cells _ (by decide) q (λf=>f) cs _ (HG2.o.kp.cells _ (by decide) q (λf=>f) cs _ e)) hne⟩
  rcases k.1 q e with h|h
  .exact .inl h
  .exact .inr (by omega))
 clear hq zR
 go_wp2_with fail
 exact af_ (v:=.tuple #[v',.nilIface]) (by simp[results,Tryz.results214,go_sem]) rfl ⟨E2,v',rfl,HM5.o,P5.o,HG2.o.ext⟩
theorem Gh(h:qW n0 B most g F E0 W0 lo sb pa n1 s cs vL vR vM E lv l w)(hb:J8 n0 lo n1 W0 vM)(hp:iW w pa B g){x y:Sy}(hx:x∈syms E)(hy:y∈syms E)(hF:Sy.pr x y∈F){t:Nat}(ht:t<=1152921504606846976)(hlen:l.length<=1000000)(hs:∀j,l.getLast?=some j->j.x=.pr x y->j.times+t<=1152921504606846976):
    Calls Tryz.prog 214 #[.pointer (some ⟨sb,0,none⟩),lv,vI (num E x),vI (num E y),vI t] w λe w'=>∃E' v',e=.returned (.tuple #[v',.nilIface])/\qW n0 B most g F E0 W0 lo sb pa n1 s cs vL vR vM E' v' (bO l ⟨.pr x y,none,t⟩) w':=
 (uK h hb hp hx hy hF ht hlen hs).mono λ_ _ ⟨E',v',a,b,_⟩=>⟨E',v',a,b⟩
end
variable{l mid:List It}{Nt rest:List Sy}{n t:Nat}
theorem Gi:∀{l:List It} {j:It},j∈l->j.nx=none->j.times<=(aH l).length
 |i::l,j,hj,hn=>by
  rw[bg,af8]
  rcases agm.1 hj with rfl|hj
  .unfold je
   rw[hn]
   show _<=(List.replicate j.times j.x).length+_
   rw[ahF];omega
  .have:=Gi hj hn
   omega
theorem fP(l:List It)(i:It):(bO l i).length<=l.length+1:=by
 rcases agR l with rfl|⟨l',j,rfl⟩
 .exact af7 _
 .rw[agO];unfold bO;rw[ahy];dsimp only;split
  .rw[aic];simp
  .simp
structure uL(n:Nat)(mid l:List It)(rest:List Sy):Prop where
 eq:step n (aH mid)=aH l++rest
 JX:nM l
theorem uL.sum(h:uL n mid l rest)(hm:(aH mid).length<=1152921504606846976){x:Sy}(hr:rest=List.replicate t x++Nt):t<=1152921504606846976/\∀j,l.getLast?=some j->j.x=x->j.times+t<=1152921504606846976:=by
 have h1:=Fy n (aH mid)
 rw[h.eq,hr,af8,af8,ahF]at h1
 refine⟨by omega,λj hj _=>?_⟩
 have:=Gi (ah1 hj) (h.JX j (ah1 hj)).1
 omega
theorem uL.push(h:uL n mid l rest){x:Sy}(ht:1<=t)(hr:rest=List.replicate t x++Nt):uL n mid (bO l ⟨x,none,t⟩) Nt:=
 ⟨by rw[h.eq,hr,BR h.JX rfl,agf],Eo h.JX ⟨rfl,ht⟩⟩
theorem uL.mem(h:uL n mid l rest){y:Sy}(hy:y∈rest):y∈step n (aH mid):=by rw[h.eq];exact aiE _ hy
def MgP(n0 B most g:Nat)(F:List Sy)(E:List En)(W:World)(lo sb pa:Nat)(s:iD)(cs:Array Value)(vL vR vM:Value)(T:List Sy)(Q:List It->Prop)(e:Ending)(w':World):Prop:=∃E' v' l,e=.returned (.tuple #[v',.nilIface])/\qW n0 B most g F E W lo sb pa W.heap.size s cs vL vR vM E' v' l w'/\aH l=T/\Q l/\l.length<=s.mid.length
theorem CE{n0 B most g:Nat}{F:List Sy}{E:List En}{W:World}(h:gV n0 B most g F E W){lo sb pa:Nat}{s:iD}{cs:Array Value}{vL vR vM:Value}(hlo:n0<=lo)(hp:iW W pa B g)(hpa:pa<lo)(hS:bQ W E lo sb pa s cs vL vR vM)(hone:One s.mid)(he:n%2=0)(hF:∀y∈step n (aH s.mid),y∈F)(kM:s.mid.length<=900000)(hfl:(aH s.mid).length<=1152921504606846976)(hn:n<=100001):
    Calls Tryz.prog 190 #[.pointer (some ⟨sb,0,none⟩),vI n] W (MgP n0 B most g F E W lo sb pa s cs vL vR vM (step n (aH s.mid)) nM):=by
 have HF:∀f,Fence.wide.fn f:=λ_=>trivial;have HB:aA (J8 n0 lo W.heap.size W vM):=ak ⟨hlo,by have:=hS.lt;have:=hS.low;omega,af7 _,λq hq=>(hS.sj hq).2.2.2.2⟩;have yV:aA (qW n0 B most g F E W lo sb pa W.heap.size s cs vL vR vM E (.slice none 0 0) [] W):=ak ⟨Gw.refl h,hS,aP.nil _ _ _ _ _,λi hi=>(by cases hi),λi hi=>(by cases hi)⟩;have fV:=ak hp;have uq:aA (pa<W.heap.size):=ak (by have:=hS.lt;have:=hS.low;omega);have HO:=ak hone;have HE:=ak he;have lN:=ak hF;have pY:=ak (And.intro kM hfl);have hsh:∃a cap,vM=.slice a s.mid.length cap:=hS.mid.len;obtain⟨am,Lr,oq⟩:=hsh;have HV:=ak oq;clear h hlo hp hpa hS hone he hF kM hfl oq;go_enter Tryz.func190,Tryz.ntmps190;go_wp2_with fail
 go_loopw [6,8] (λav iv wr=>∃(lv:Value) (E1:List En) (l:List It) (i:Nat),lv=av/\iv=.int .i64 i/\i<=s.mid.length/\qW n0 B most g F E W lo sb pa W.heap.size s cs vL vR vM E1 lv l wr/\uL n s.mid l (step n (aH (s.mid.drop i)))/\l.length<=i) (λ_ iv _=>s.mid.length-(intOf iv).toNat)
 case atStart=>exact⟨.slice none 0 0,E,[],0,rfl,rfl,agb _,yV.o,⟨by rw[cu,agH,agj],λi hi=>(by cases hi)⟩,af7 _⟩
 obtain⟨lv,E1,l,i,rfl,rfl,hi,hM,hG,hl⟩:=hrel;have c11:=hM.sp.jD;obtain⟨L,hL⟩:=ay (s.mid.length);by_cases Gj:i<s.mid.length
 .obtain⟨gm,cap,oq,hc,hat⟩:=hM.sp.xI (by intro e;rw[e]at Gj;simp at Gj);have Pf:=oq;obtain⟨it,hit⟩:∃it,s.mid[i]?=some it:=⟨_,agt Gj⟩;obtain⟨xi,nxi,ti⟩:=it;have Ai:=agE hit;obtain⟨hnx,hti⟩:=HO.o _ Ai;dsimp only at hnx hti;subst hnx hti;have hxm:=(hM.sp.mem _ Ai).1;dsimp only at hxm;obtain⟨ix,hix⟩:=ay (num E1 xi);obtain⟨kx,hkx⟩:=ay (key xi);obtain⟨m0,m1,m2,m3⟩:=hat wr (af6 _ _) i _ hit;dsimp only at m0 m1 m2 m3;rw[hix]at m0;rw[hkx]at m2;replace m1:wr.cell? ⟨gm,i*4+1,none⟩=some (.int .i64 0):=m1;replace m3:wr.cell? ⟨gm,i*4+3,none⟩=some (.int .i64 1):=m3;obtain⟨wz,w2,hz,hs,k2,b2,kz,bz⟩:=ze wr ix 0 kx 1;obtain⟨g9,DW⟩:=ay (wr.heap.size);rw[DW]at hs k2 kz;replace hs:(((wz.setCell ⟨g9,0,none⟩ (.int .i64 ix)).setCell ⟨g9,1,none⟩ (.int .i64 0)).setCell ⟨g9,2,none⟩ (.int .u64 kx)).setCell ⟨g9,3,none⟩ (.int .i64 1)=w2:=hs;obtain⟨z0,z1,z2,z3,z4⟩:=kz.all;have Jh:=z4 0;have Ji:=z4 1;have GY:=z4 2;have Jj:=z4 3;have kZ:=ak (hM.below b2);have nY:=ak k2;have CB:aA (iW w2 pa B g):=ak (fV.o.kp kZ.o.gw.kp (by have:=uq.o;omega));have HX:=ak (And.intro hix (And.intro hkx hxm));have HIT:=ak (And.intro hit hL);have HG:=ak hG;have HI:=ak (And.intro Gj hl);have aaP:aA (∀w,Below w2.heap.size w2 w->∀j y,s.mid[j]?=some y->w.cell? ⟨gm,j*4,none⟩=some (vI (num E1 y.x))/\w.cell? ⟨gm,j*4+2,none⟩=some (vK (key y.x))):=ak λw hw j y hj=>by
   have:=hat w (Below.after b2 hw) j y hj;exact⟨this.1,this.2.2.1⟩
  have HVM:=ak Pf;rw[Pf,hL]at c11;have l1:(i:Int)<(L:Int):=by omega
  have l0:(0:Int)<=(i:Int):=by omega
  have hib:i<=900000:=by have:=pY.o.1;omega
  clear hi hM hG hl Gj hL hc hat oq Pf hit Ai hxm hix hkx k2 b2 kz bz z4;go_wp2_with fail
  clear DW hz hs z0 z1 z2 z3 Jh Ji GY Jj m0 m1 m2 m3 c11;obtain⟨i1,hi1⟩:=ay (i+1);have HI1:=ak hi1;have e11:∀w,Below w2.heap.size w2 w->w.cell? ⟨sb,11,none⟩=some (.slice (some ⟨gm,0,none⟩) L cap):=λw hw=>by have:=(kZ.o.sp.below hw).jD;rw[HVM.o,HIT.o.2]at this;exact this
  have k2:∀w,Below w2.heap.size w2 w->w.cell? ⟨g9,2,none⟩=some (.int .u64 kx):=λw hw=>(nY.o.below hw).all.2.2.1;have lw:IntKind.i64.wrap ((i:Int)+1)=(i1:Int):=by rw[agd];omega
  have Hl:aA (∀w,Below w2.heap.size w2 w->(1<=1152921504606846976/\∀j,l.getLast?=some j->j.x=xi->j.times+1<=1152921504606846976)->Calls Tryz.prog 213 #[lv,.agg #[.int .i64 ix,.int .i64 0,.int .u64 kx,.int .i64 1]] w (PuP W.heap.size E1 w (bO l ⟨xi,none,1⟩))):=ak λw hw hs=>by
   have hmw:=kZ.o.below hw;have:=Jm hmw.ls (hmw.size HB.o) hmw.ok (x:=xi) (t:=1) HX.o.2.2 hs.1 (by have:=HI.o;have:=pY.o.1;omega) hmw.nx hs.2;rw[HX.o.1,HX.o.2.1]at this;exact this
  by_cases hgo:∃y,s.mid[i+1]?=some y/\fits n (key xi) (key y.x)=true
  .obtain⟨y,hy,pW⟩:=hgo;have hlt:i+1<s.mid.length:=(agA.1 hy).1;have hym:=kZ.o.sp.mem y (agE hy);have hstep:step n (aH (s.mid.drop i))=List.replicate 1 (.pr xi y.x)++step n (aH (s.mid.drop (i+2))):=Oo HE.o HO.o HIT.o.1 hy pW;have hsum:=HG.o.sum pY.o.2 hstep;have Jn:Sy.pr xi y.x∈F:=lN.o _ (HG.o.mem (by rw[hstep];simp));obtain⟨ky,hky⟩:=ay (key y.x);obtain⟨iy,Ga⟩:=ay (num E1 y.x);have m0:∀w,Below w2.heap.size w2 w->w.cell? ⟨gm,i1*4,none⟩=some (.int .i64 iy):=λw hw=>by
    rw[<-Ga,<-hi1];exact(aaP.o w hw (i+1) y hy).1
   have m2:∀w,Below w2.heap.size w2 w->w.cell? ⟨gm,i1*4+2,none⟩=some (.int .u64 ky):=λw hw=>by
    rw[<-hky,<-hi1];exact(aaP.o w hw (i+1) y hy).2
   have k0:∀w,Below w2.heap.size w2 w->w.cell? ⟨g9,0,none⟩=some (.int .i64 ix):=λw hw=>(nY.o.below hw).all.1;have Jk:=ak (λw=>mK w kx ky n (by have:=lT xi;have:=HX.o.2.1;omega) (by have:=lT y.x;omega) (by omega));rw[<-HX.o.2.1,<-hky,pW,HX.o.2.1,hky]at Jk;have Wi:aA (∀w,Below w2.heap.size w2 w->Calls Tryz.prog 214 #[.pointer (some ⟨sb,0,none⟩),lv,.int .i64 ix,.int .i64 iy,.int .i64 1] w λe w'=>∃E' v',e=.returned (.tuple #[v',.nilIface])/\qW n0 B most g F E W lo sb pa W.heap.size s cs vL vR vM E' v' (bO l ⟨.pr xi y.x,none,1⟩) w'):=ak λw hw=>by
    have:=Gh (kZ.o.below hw) HB.o (CB.o.below hw) HX.o.2.2 hym.1 Jn (t:=1) hsum.1 (by have:=HI.o;have:=pY.o.1;omega) hsum.2;rw[HX.o.1,Ga]at this;exact this
   have oh:=ak hstep;have hb:((i1:Int)==(L:Int))=false:=agh.2 (by have:=HIT.o.2;omega);have hb':¬(i1:Int)=(L:Int):=by have:=HIT.o.2;omega
   have hb2:(i1:Int)<(L:Int):=by have:=HIT.o.2;omega
   have hb3:(0:Int)<=(i1:Int):=by omega
   have iI:=ak hlt;have hi1b:i1<=900001:=by omega
   clear hstep hsum hi1 hlt hy pW hky Ga hym Jn;refine aU (Below w2.heap.size w2) ?_;obtain⟨we,bU⟩:=ay (w2.drew);have S1:Below w2.heap.size w2 we:=by rw[<-bU];exact(af6 _ _).drew
   rw[bU];clear bU;refine bJ 0 1 2 3 4 5 ?_;refine bJ 6 7 8 9 10 11 ?_;refine bJ 12 13 14 15 16 17 ?_;refine tk3 18 19 20 ?_;refine aT 21 λK hK=>?_;go_simp
   try with_reducible refine⟨rfl,?_⟩
   refine agq.2 ((Jk.o _).mono ?_);rintro e wn ⟨rfl,rfl⟩;refine hK _ _ S1 ?_;clear hK K;refine tk2 22 23 ?_;refine aO ?_;clear hb hb' k2 m2;have lw2:wrap64 ((i:Int)+1)=(i1:Int):=by rw[<-HI1.o];unfold wrap64;omega
   have lw3:(i:Int)+1=(i1:Int):=by rw[<-HI1.o];omega
   go_wp2_with fail
   refine aU (Below w2.heap.size w2) ?_;obtain⟨wf,hwf⟩:=ay (wn.drew);have S2:Below w2.heap.size w2 wf:=by rw[<-hwf];exact S1.drew
   rw[hwf];clear hwf S1;refine bJ 0 1 2 3 4 5 ?_;refine bJ 6 7 8 9 10 11 ?_;refine aJ.wall (i:=12) (by kernel_rfl) rfl HF (by rfl) (λK hK=>?_);go_simp
   try with_reducible refine⟨rfl,?_⟩
   refine agq.2 ((Wi.o _ S2).mono ?_);rintro e w6 ⟨E6,v6,rfl,vG⟩;have Pg:=ak vG;have T0:uz w6:=trivial;refine hK uz _ _ ?_;clear hK K vG;refine zD 13 14 15 16 17 ?_;refine aO ?_;clear S2 e11 k0 m0 lw lw2 lw3 hb2 hb3;go_wp2_with fail
   go_roundw
   case rel=>exact⟨v6,E6,_,i1+1,rfl,by first|rfl|go_num,by have:=HI1.o;have:=iI.o;omega,Pg.o,by rw[<-HI1.o];exact HG.o.push (af7 1) oh.o,by have:=fP l ⟨.pr xi y.x,none,1⟩;have:=HI1.o;have:=HI.o.2;omega⟩
   case measure=>have:=HI1.o;have:=HI.o.1;simp[intOf];omega
  have hstep:step n (aH (s.mid.drop i))=List.replicate 1 xi++step n (aH (s.mid.drop (i+1))):=KL HE.o HO.o HIT.o.1 λy hy=>by
   cases hq:fits n (key xi) (key y.x)with
   |false=>rfl
   |true=>exact absurd ⟨y,hy,hq⟩ hgo
  have hsum:=HG.o.sum pY.o.2 hstep;have oh:=ak hstep;have Wj:=ak hsum;replace Hl:aA (∀w,Below w2.heap.size w2 w->Calls Tryz.prog 213 #[lv,.agg #[.int .i64 ix,.int .i64 0,.int .u64 kx,.int .i64 1]] w (PuP W.heap.size E1 w (bO l ⟨xi,none,1⟩))):=ak λw hw=>Hl.o w hw hsum;have afg:aA (∀w,Below w2.heap.size w2 w->w.cell? ⟨g9,0,none⟩=some (.int .i64 ix)/\w.cell? ⟨g9,1,none⟩=some (.int .i64 0)/\w.cell? ⟨g9,2,none⟩=some (.int .u64 kx)/\w.cell? ⟨g9,3,none⟩=some (.int .i64 1)):=ak λw hw=>by
   obtain⟨q0,q1,q2,q3,-⟩:=(nY.o.below hw).all;exact⟨q0,q1,q2,q3⟩
  by_cases hlast:i1=L
  case' _=>
   have hb:((i1:Int)==(L:Int))=true:=by rw[hlast];exact ai4 _
   have hb':(i1:Int)=(L:Int):=by omega
   clear hgo hstep hsum hi1
  rotate_left
  case' _=>
   have hlt:i+1<s.mid.length:=by have:=HIT.o.2;have:=HI.o.1;omega
   obtain⟨y,hy⟩:∃y,s.mid[i+1]?=some y:=⟨_,agt hlt⟩;have pW:fits n (key xi) (key y.x)=false:=by
    cases hq:fits n (key xi) (key y.x)with
    |false=>rfl
    |true=>exact absurd ⟨y,hy,hq⟩ hgo
   obtain⟨ky,hky⟩:=ay (key y.x);have m2:∀w,Below w2.heap.size w2 w->w.cell? ⟨gm,i1*4+2,none⟩=some (.int .u64 ky):=λw hw=>by
    rw[<-hky,<-hi1];exact(aaP.o w hw (i+1) y hy).2
   have Jk:=ak (λw=>mK w kx ky n (by have:=lT xi;have:=HX.o.2.1;omega) (by have:=lT y.x;omega) (by omega));rw[<-HX.o.2.1,<-hky,pW,HX.o.2.1,hky]at Jk;have hb:((i1:Int)==(L:Int))=false:=agh.2 (by omega);have hb':¬(i1:Int)=(L:Int):=by omega
   have hb2:(i1:Int)<(L:Int):=by have:=HIT.o.2;omega
   have hb3:(0:Int)<=(i1:Int):=by omega
   clear hgo hstep hsum hi1 hlt hy pW hky
  rotate_left
  all_goals
   refine aU (Below w2.heap.size w2) ?_;obtain⟨we,bU⟩:=ay (w2.drew);have S1:Below w2.heap.size w2 we:=by rw[<-bU];exact(af6 _ _).drew
   rw[bU];clear bU;refine bJ 0 1 2 3 4 5 ?_
  case' _=>
   refine tk3 6 7 8 ?_;refine aJ.sk 9 ?_;refine aJ.sk 10 ?_;refine aJ.sk 11 ?_;refine aJ.sk 12 ?_;refine aJ.sk 13 ?_;refine aJ.sk 14 ?_;refine aJ.sk 15 ?_;refine aJ.sk 16 ?_;refine aJ.sk 17 ?_;refine aJ.sk 18 ?_;refine aJ.sk 19 ?_;refine aJ.sk 20 ?_;refine aJ.sk 21 ?_;refine aJ.sk 22 ?_;refine tk1 23 ?_;refine aO ?_;obtain⟨b0,b1,b2,b3⟩:=afg.o we S1;clear e11 k2 hb hb' hlast
  rotate_left
  case' _=>
   refine bJ 6 7 8 9 10 11 ?_;refine bJ 12 13 14 15 16 17 ?_;refine tk3 18 19 20 ?_;refine aT 21 λK hK=>?_;go_simp
   try with_reducible refine⟨rfl,?_⟩
   refine agq.2 ((Jk.o _).mono ?_);rintro e wn ⟨rfl,rfl⟩;refine hK _ _ S1 ?_;clear hK K;refine tk2 22 23 ?_;refine aO ?_;obtain⟨b0,b1,b2,b3⟩:=afg.o _ S1;clear e11 k2 m2
  all_goals
   go_wp2_with fail
   refine(Hl.o _ S1).mono ?_;rintro e w5 hq;obtain⟨v',rfl,zR⟩:=(kZ.o.below S1).push HB.o (i:=⟨xi,none,1⟩) HX.o.2.2 rfl Wj.o.1 Wj.o.2 hq;have HM5:=ak zR;clear hq zR S1 b0 b1 b2 b3;go_wp2_with fail
   go_roundw
   case rel=>exact⟨v',E1,_,i1,rfl,by first|rfl|(rw[<-HI1.o]<;>go_num)|(rw[<-HI1.o]),by have:=HI1.o;have:=HI.o.1;omega,HM5.o,by rw[<-HI1.o];exact HG.o.push (af7 1) oh.o,by have:=fP l ⟨xi,none,1⟩;have:=HI1.o;have:=HI.o.2;omega⟩
   case measure=>have:=HI1.o;have:=HI.o.1;simp[intOf];omega
 have Wl:i=s.mid.length:=by omega
 rw[HV.o,hL]at c11;have l1:¬(i:Int)<(L:Int):=by omega
 have HR:aA (qW n0 B most g F E W lo sb pa W.heap.size s cs vL vR vM E1 lv l wr/\aH l=step n (aH s.mid)/\nM l/\l.length<=s.mid.length):=ak ⟨hM,by have:=hG.eq;rw[Wl,ajE,cu,step_nil,agi]at this;exact this.symm,hG.JX,by omega⟩;clear hi hM hG hl Gj Wl hL;go_wp2_with fail
 exact af_ (v:=.tuple #[lv,.nilIface]) (by simp[results,Tryz.results190,go_sem]) rfl ⟨E1,lv,l,rfl,HR.o⟩
end M
end
section
open Go.RowKit Go.Lib
namespace M
theorem oo{A C:World}{b:Nat}{cs:Array Value}{e t:TypeId}{fz:Nat×Nat}(hg:A.grownBy C (some b))(hb:A.heap[b]?=some (.cells cs e fz))(hne:e≠t):jd t A C:=λk cs' ZN h=>aI hg h (λq=>by
 rw[q,hb]at h
 injection h with h;injection h with _ h _
 exact hne h)
theorem Kp.lX{B:Nat}{A C:World}(h:Kp B (λ_=>False) A C){t:TypeId}(ht:t∉Du):jd t A C:=λk cs fz e=>h.cells t ht k (λq=>q) cs fz e
structure Lb(n0 n b1 b2 b6 s3 s4:Nat):Prop where
 l1:n0<=b1
 l2:n0<=b2
 l0:n0<=n
 l3:n<=s3
 l4:n<=s4
 l6:n<=b6
 e3:s3≠b6
 e4:s4≠b6
abbrev LbX(n b1 b2:Nat)(q:Nat):Prop:=q=b1\/q=b2\/n<=q
structure Lo{α:Type}(n0 B most g:Nat)(F:List Sy)(E:List En)(W:World)(b1 b2 b6 s3 s4 c:Nat)(v3 u3:Value)(te:TypeId)(sz n9:Nat)(enc:α->List Value)(gv:Value)(L:List α)(O1 O2:List Value)(E1:List En)(m1 m2 k:Nat)(P Q:List Value)(w:World):Prop where
 gw:Gw n0 B most g F (LbX W.heap.size b1 b2) E E1 W w
 q3:jM w s3 v3 u3
 q4:jM w s4 (.slice none 0 0) (.slice none 0 0)
 q6:jM w b6 (.slice (some ⟨b1,0,none⟩) m1 c) (.slice (some ⟨b2,0,none⟩) m2 c)
 h1:Hs w 27 b1 c P k O1
 h2:Hs w 88 b2 c Q k O2
 ls:aP n9 w te sz enc gv L
section
variable {α:Type} {n0 B most g:Nat} {F:List Sy} {E:List En} {W:World} {b1 b2 b6 s3 s4 c:Nat} {v3 u3:Value} {te:TypeId} {sz n9:Nat} {enc:α->List Value} {gv:Value} {L:List α} {O1 O2:List Value} {E1 E2:List En} {m1 m2 k:Nat} {P Q:List Value} {w w':World}
theorem Lo.call(h:Lo n0 B most g F E W b1 b2 b6 s3 s4 c v3 u3 te sz n9 enc gv L O1 O2 E1 m1 m2 k P Q w)(hg:Gw n0 B most g F (λ_=>False) E1 E2 w w')(ht:te∉Du):Lo n0 B most g F E W b1 b2 b6 s3 s4 c v3 u3 te sz n9 enc gv L O1 O2 E2 m1 m2 k P Q w':=
 ⟨h.gw.trans hg.free,h.q3.kp hg.kp (λq=>q),h.q4.kp hg.kp (λq=>q),h.q6.kp hg.kp (λq=>q),h.h1.kp hg.kp (by decide) (λq=>q),h.h2.kp hg.kp (by decide) (λq=>q),h.ls.keep (hg.kp.lX ht)⟩
theorem Lo.below(h:Lo n0 B most g F E W b1 b2 b6 s3 s4 c v3 u3 te sz n9 enc gv L O1 O2 E1 m1 m2 k P Q w)(hb:Below w.heap.size w w'):Lo n0 B most g F E W b1 b2 b6 s3 s4 c v3 u3 te sz n9 enc gv L O1 O2 E1 m1 m2 k P Q w':=
 ⟨h.gw.trans (Gw.of h.gw.st hb),au hb h.q3,au hb h.q4,au hb h.q6,h.h1.below hb,h.h2.below hb,h.ls.below hb⟩
theorem Lo.weak(h:Lo n0 B most g F E W b1 b2 b6 s3 s4 c v3 u3 te sz n9 enc gv L O1 O2 E1 m1 m2 k P Q w){k2:Nat}(hk:k<=k2):Lo n0 B most g F E W b1 b2 b6 s3 s4 c v3 u3 te sz n9 enc gv L O1 O2 E1 m1 m2 k2 P Q w:=
 ⟨h.gw,h.q3,h.q4,h.q6,h.h1.weak hk,h.h2.weak hk,h.ls⟩
theorem Lo.ap1(h:Lo n0 B most g F E W b1 b2 b6 s3 s4 c v3 u3 te sz n9 enc gv L O1 O2 E1 m1 m2 k P Q w)(hl:Lb n0 W.heap.size b1 b2 b6 s3 s4)(ht:te∉[27,88,237]){P':List Value}(hg:w.grownBy w' (some b1))(t:Hs w' 27 b1 c P' k O1):Lo n0 B most g F E W b1 b2 b6 s3 s4 c v3 u3 te sz n9 enc gv L O1 O2 E1 m1 m2 k P' Q w':=by
 have a:=h.h1.Dv h.q3 (by decide)
 have b:=h.h1.Dv h.q4 (by decide)
 have d:=h.h1.Dv h.q6 (by decide)
 have f:=h.h1.ne h.h2 (by decide)
 simp only[agm,not_or]at ht
 obtain⟨cs,hcs,-⟩:=h.h1.h
 exact⟨h.gw.trans (Gw.app h.gw.st hg h.h1 (by decide) hl.l1 (.inl rfl)),aI hg h.q3 (λe=>a e.symm),aI hg h.q4 (λe=>b e.symm),aI hg h.q6 (λe=>d e.symm),t,h.h2.other hg (λe=>f e.symm),h.ls.keep (oo hg hcs (λe=>ht.1 e.symm))⟩
theorem Lo.ap2(h:Lo n0 B most g F E W b1 b2 b6 s3 s4 c v3 u3 te sz n9 enc gv L O1 O2 E1 m1 m2 k P Q w)(hl:Lb n0 W.heap.size b1 b2 b6 s3 s4)(ht:te∉[27,88,237]){Q':List Value}(hg:w.grownBy w' (some b2))(t:Hs w' 88 b2 c Q' k O2):Lo n0 B most g F E W b1 b2 b6 s3 s4 c v3 u3 te sz n9 enc gv L O1 O2 E1 m1 m2 k P Q' w':=by
 have a:=h.h2.Dv h.q3 (by decide)
 have b:=h.h2.Dv h.q4 (by decide)
 have d:=h.h2.Dv h.q6 (by decide)
 have f:=h.h1.ne h.h2 (by decide)
 simp only[agm,not_or]at ht
 obtain⟨cs,hcs,-⟩:=h.h2.h
 exact⟨h.gw.trans (Gw.app h.gw.st hg h.h2 (by decide) hl.l2 (.inr (.inl rfl))),aI hg h.q3 (λe=>a e.symm),aI hg h.q4 (λe=>b e.symm),aI hg h.q6 (λe=>d e.symm),h.h1.other hg f,t,h.ls.keep (oo hg hcs (λe=>ht.2.1 e.symm))⟩
theorem Lo.st0(h:Lo n0 B most g F E W b1 b2 b6 s3 s4 c v3 u3 te sz n9 enc gv L O1 O2 E1 m1 m2 k P Q w)(hl:Lb n0 W.heap.size b1 b2 b6 s3 s4)(ht:te∉[27,88,237])(m:Nat):Lo n0 B most g F E W b1 b2 b6 s3 s4 c v3 u3 te sz n9 enc gv L O1 O2 E1 m m2 k P Q (w.setCell ⟨b6,0,none⟩ (.slice (some ⟨b1,0,none⟩) m c)):=by
 have hg:=aK w ⟨b6,0,none⟩ (.slice (some ⟨b1,0,none⟩) m c)
 simp only[agm,not_or]at ht
 exact⟨h.gw.trans (Gw.put h.gw.st hg h.q6 (by decide) (af9 hl.l0 hl.l6) (.inr (.inr hl.l6))),aI hg h.q3 hl.e3,aI hg h.q4 hl.e4,h.q6.set0 _,h.h1.other hg (h.h1.Dv h.q6 (by decide)),h.h2.other hg (h.h2.Dv h.q6 (by decide)),h.ls.keep (oo hg h.q6 (λe=>ht.2.2.1 e.symm))⟩
theorem Lo.st1(h:Lo n0 B most g F E W b1 b2 b6 s3 s4 c v3 u3 te sz n9 enc gv L O1 O2 E1 m1 m2 k P Q w)(hl:Lb n0 W.heap.size b1 b2 b6 s3 s4)(ht:te∉[27,88,237])(m:Nat):Lo n0 B most g F E W b1 b2 b6 s3 s4 c v3 u3 te sz n9 enc gv L O1 O2 E1 m1 m k P Q (w.setCell ⟨b6,1,none⟩ (.slice (some ⟨b2,0,none⟩) m c)):=by
 have hg:=aK w ⟨b6,1,none⟩ (.slice (some ⟨b2,0,none⟩) m c)
 simp only[agm,not_or]at ht
 exact⟨h.gw.trans (Gw.put h.gw.st hg h.q6 (by decide) (af9 hl.l0 hl.l6) (.inr (.inr hl.l6))),aI hg h.q3 hl.e3,aI hg h.q4 hl.e4,h.q6.set1 _,h.h1.other hg (h.h1.Dv h.q6 (by decide)),h.h2.other hg (h.h2.Dv h.q6 (by decide)),h.ls.keep (oo hg h.q6 (λe=>ht.2.2.1 e.symm))⟩
end
end M
end
section
open Go.RowKit Go.Lib
namespace M
attribute [local go_sem] Oper.semAt_some
theorem EE{G:List Gr}(h:∀q∈G,1<=q.t):G.length<=(dZ G).length:=by
 induction G with
 |nil=>exact af7 0
 |cons q G ih=>
  have h1:=ih λr hr=>h r (by simp[hr])
  have h2:=h q (by simp)
  show G.length+1<=(List.replicate q.t q.x++dZ G).length
  rw[af8,ahF];omega
theorem Sl{E:List En}{T:List Sy}(h:∀y∈T,y∈syms E):(T.map (num E)).map (sym E)=T:=by
 rw[aiO]
 conv=>rhs;rw[<-List.map_id T]
 exact aiG λy hy=>(aS (h y hy)).2.2
theorem VF{E:List En}(hwf:Wf E)(hnd:(E.map En.ru).Nodup){T:List Sy}(hT:∀y∈T,y∈syms E){lv:Nat}(hlv:lv%2=1){G:List Gr}(hG:jf (T.map (num E))=G):
    (step lv T).length=G.length/\G.length<=T.length/\∀j (hj:j<G.length),∃x t y i,G[j]=⟨x,t⟩/\x=num E y/\y∈T/\1<=t/\(dZ (G.take j)).length=i/\T[i]?=some y/\(dZ (G.take (j+1))).length=i+t/\i+t<=T.length/\j<=i/\
     (step lv T).take (j+1)=(step lv T).take j++[if t>1 then .pw y t else y]/\(if t>1 then .pw y t else y)∈step lv T:=by
 have hfl:dZ G=T.map (num E):=by rw[<-hG];exact EC _
 have hpos:∀q∈G,1<=q.t:=λq hq=>((Cj (T.map (num E))).2 q (by rw[hG];exact hq)).2
 have hmem:∀q∈G,∃y,y∈T/\q.x=num E y:=λq hq=>by
  have:q.x∈dZ G:=ah4.2 ⟨q,hq,aiI.2 ⟨by have:=hpos q hq;omega,rfl⟩⟩
  rw[hfl]at this
  obtain⟨y,h1,h2⟩:=agz.1 this
  exact⟨y,h1,h2.symm⟩
 have hst:step lv T=G.map (grS (sym E)):=by
  have:=ED hlv (sym E) G hpos (λq hq r hr e=>by
   obtain⟨y,y1,y2⟩:=hmem q hq
   obtain⟨z,z1,z2⟩:=hmem r hr
   rw[y2,z2,(aS (hT y y1)).2.2,(aS (hT z z1)).2.2]at e
   rw[y2,z2,e]) (λA q r B e=>Nj (T.map (num E)) A q r B (by rw[hG,e]))
  rw[hfl,Sl hT]at this
  exact this
 have hlen:(dZ G).length=T.length:=by rw[hfl,agM]
 refine⟨by rw[hst,agM],by rw[<-hlen];exact EE hpos,λj hj=>?_⟩
 obtain⟨y,y1,y2⟩:=hmem G[j] (ag0 hj)
 have hsplit:G=G.take j++G[j]::G.drop (j+1):=by rw[<-ahc hj,ahr]
 have htk:G.take (j+1)=G.take j++[G[j]]:=by rw[ah7 hj]
 have hl2:(dZ (G.take (j+1))).length=(dZ (G.take j)).length+G[j].t:=by
  rw[htk,iY,af8]
  congr 1
  show(List.replicate G[j].t G[j].x++[]).length=_
  simp
 have hle:(dZ (G.take (j+1))).length<=T.length:=by
  rw[<-hlen]
  conv=>rhs;rw[<-ahr (j+1) G,iY,af8]
  omega
 have ht1:=hpos G[j] (ag0 hj)
 have hgs:grS (sym E) G[j]=if G[j].t>1 then .pw y G[j].t else y:=by
  unfold grS
  rw[y2,(aS (hT y y1)).2.2]
 refine⟨G[j].x,G[j].t,y,_,rfl,y2,y1,ht1,rfl,?_,hl2,by omega,?_,?_,?_⟩
 .have e:(T.map (num E))[(dZ (G.take j)).length]?=some (num E y):=by
   have e0:dZ G=dZ (G.take j)++dZ (G[j]::G.drop (j+1)):=by rw[<-iY,<-hsplit]
   rw[<-hfl,e0,agN (af7 _),aiz]
   show(List.replicate G[j].t G[j].x++dZ (G.drop (j+1)))[0]?=_
   rw[agV (by rw[ahF];omega),ajm,af5 (by omega),y2]
  rw[ahg]at e
  obtain⟨z,z1,z2⟩:=ahx.1 e
  have hz:=hT z (agE z1)
  rw[z1]
  congr 1
  rw[<-(aS hz).2.2,z2,(aS (hT y y1)).2.2]
 .have:=EE (G:=G.take j) λq hq=>hpos q (ahJ hq)
  rw[agB]at this;omega
 .rw[hst,<-aiM,htk,ag2,<-hgs,aiM];rfl
 .rw[hst,<-hgs]
  exact agz.2 ⟨_,ag0 hj,rfl⟩
end M
end
end Go.Proofs.YtgbhohfabhilgaaGreatDoor
