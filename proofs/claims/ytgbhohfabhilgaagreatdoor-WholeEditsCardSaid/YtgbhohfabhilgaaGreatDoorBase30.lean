import Derived.Test.YtgbhohfabhilgaaGreatDoorBase27
set_option maxRecDepth 100000
set_option maxHeartbeats 8000000
set_option linter.unusedVariables false
set_option linter.unusedSimpArgs false
namespace Go.Proofs.YtgbhohfabhilgaaGreatDoor
section
open Go.RowKit Go.Lib
theorem aP.aaQ{α:Type}{B:Nat}{W:World}{e:TypeId}{enc:α->List Value}(he:∀a,(enc a).length=4){g cap n:Nat}{l:List α}(h:aP B W e 4 enc (.slice (some ⟨g,0,none⟩) n cap) l){i:Nat}(hi:i<l.length){x':α}{u0 u1 u2 u3:Value}(hx:enc x'=[u0,u1,u2,u3]):
    aP B ((((W.setCell ⟨g,i*4,none⟩ u0).setCell ⟨g,i*4+1,none⟩ u1).setCell ⟨g,i*4+2,none⟩ u2).setCell ⟨g,i*4+3,none⟩ u3) e 4 enc (.slice (some ⟨g,0,none⟩) n cap) (l.set i x'):=by
 obtain⟨f,hf⟩:∃f:α->{q:List Value // q.length=4},f=λa=>⟨enc a,he a⟩:=⟨_,rfl⟩
 have hraw:∀{W:World} {m:List α},aP B W e 4 enc (.slice (some ⟨g,0,none⟩) n cap) m↔aP B W e 4 (λq:{q:List Value // q.length=4}=>q.1) (.slice (some ⟨g,0,none⟩) n cap) (m.map f):=by
  intro W m
  unfold aP
  rw[agM,List.flatMap_map,hf]
 have hr:=hraw.1 h
 have hl:(l.map f).length=l.length:=agM _
 have hgi:(l.map f)[i]'(by rw[hl];exact hi)=f l[i]:=aiK _
 have h0:=aP.setAt (λq:{q:List Value // q.length=4}=>q.2) hr (i:=i) (j:=0) (by rw[hl];exact hi) (by omega) (x':=⟨(enc l[i]).set 0 u0,by rw[agL];exact he _⟩) (u:=u0) (by rw[hgi,hf])
 have h1:=aP.setAt (λq:{q:List Value // q.length=4}=>q.2) h0 (i:=i) (j:=1) (by rw[agL,hl];exact hi) (by omega) (x':=⟨((enc l[i]).set 0 u0).set 1 u1,by rw[agL,agL];exact he _⟩) (u:=u1) (by rw[ajY])
 have h2:=aP.setAt (λq:{q:List Value // q.length=4}=>q.2) h1 (i:=i) (j:=2) (by rw[agL,agL,hl];exact hi) (by omega) (x':=⟨(((enc l[i]).set 0 u0).set 1 u1).set 2 u2,by rw[agL,agL,agL];exact he _⟩) (u:=u2) (by rw[ajY])
 have h3:=aP.setAt (λq:{q:List Value // q.length=4}=>q.2) h2 (i:=i) (j:=3) (by rw[agL,agL,agL,hl];exact hi) (by omega) (x':=⟨((((enc l[i]).set 0 u0).set 1 u1).set 2 u2).set 3 u3,by rw[agL,agL,agL,agL];exact he _⟩) (u:=u3) (by rw[ajY])
 rw[akl,akl,akl]at h3
 refine hraw.2 ?_
 have e4:(l.set i x').map f=(l.map f).set i ⟨((((enc l[i]).set 0 u0).set 1 u1).set 2 u2).set 3 u3,by rw[agL,agL,agL,agL];exact he _⟩:=by
  rw[ai_]
  congr 1
  rw[hf]
  refine Subtype.ext ?_
  show enc x'=_
  rw[hx]
  show[u0,u1,u2,u3]=((((enc l[i]).set 0 u0).set 1 u1).set 2 u2).set 3 u3
  obtain⟨q,hq⟩:=ay (enc l[i])
  have hql:q.length=4:=by rw[<-hq];exact he _
  rw[hq]
  match q,hql with
  | [a,b,c,d],_=>rfl
 rw[e4]
 exact h3
namespace M
section
variable {n0 B most g:Nat} {F:List Sy} {E0:List En} {W0:World} {lo sb pa n1:Nat} {s:iD} {cs:Array Value} {vL vR vM:Value} {E E':List En} {lv:Value} {l:List It} {w w':World}
theorem qW.aaQ{gl cap n:Nat}(h:qW n0 B most g F E0 W0 lo sb pa n1 s cs vL vR vM E (.slice (some ⟨gl,0,none⟩) n cap) l w)(hb:J8 n0 lo n1 W0 vM){i:Nat}(hi:i<l.length){x:Sy}(hx:x∈syms E):
    qW n0 B most g F E0 W0 lo sb pa n1 s cs vL vR vM E (.slice (some ⟨gl,0,none⟩) n cap) (l.set i ⟨x,none,1⟩) ((((w.setCell ⟨gl,i*4,none⟩ (vI (num E x))).setCell ⟨gl,i*4+1,none⟩ (.int .i64 0)).setCell ⟨gl,i*4+2,none⟩ (vK (key x))).setCell ⟨gl,i*4+3,none⟩ (.int .i64 1)):=by
 have hs:=aP.aaQ (bG E) h.ls hi (x':=(⟨x,none,1⟩:It)) (u0:=vI (num E x)) (u1:=.int .i64 0) (u2:=vK (key x)) (u3:=.int .i64 1) rfl
 obtain⟨hgl,cur,jN⟩:=h.ls.blk (b:=gl) rfl
 have hgr:w.grownBy (w.setCells gl (i*4) [vI (num E x),.int .i64 0,vK (key x),.int .i64 1]) (some gl):=eT gl _ _ _
 replace hgr:w.grownBy ((((w.setCell ⟨gl,i*4,none⟩ (vI (num E x))).setCell ⟨gl,i*4+1,none⟩ (.int .i64 0)).setCell ⟨gl,i*4+2,none⟩ (vK (key x))).setCell ⟨gl,i*4+3,none⟩ (.int .i64 1)) (some gl):=hgr
 have ho:=jJ hgr jN
 have hbl:=bL hgr hgl (by have:=h.size hb;omega)
 refine⟨h.gw.trans (Gw.item h.gw.st ho hbl (af9 hb.l0 hb.l1)),h.sp.Tc ho hbl hb.vm,hs,λj hj=>?_,λj hj=>?_⟩
 .rcases aku hj with q|rfl
  .exact h.ok j q
  .exact⟨hx,λy e=>(by cases e),by show 1<=_;omega⟩
 .rcases aku hj with q|rfl
  .exact h.nx j q
  .rfl
theorem qW.item{gl cap n:Nat}(h:qW n0 B most g F E0 W0 lo sb pa n1 s cs vL vR vM E (.slice (some ⟨gl,0,none⟩) n cap) l w){i:Nat}{it:It}(hi:l[i]?=some it):
    w.cell? ⟨gl,i*4,none⟩=some (vI (num E it.x))/\w.cell? ⟨gl,i*4+1,none⟩=some (.int .i64 0)/\w.cell? ⟨gl,i*4+2,none⟩=some (vK (key it.x))/\w.cell? ⟨gl,i*4+3,none⟩=some (vI it.times)/\∀k,w.frozen? ⟨gl,k,none⟩=false:=by
 obtain⟨hlt,rfl⟩:=agA.1 hi
 obtain⟨-,cur,jN⟩:=h.ls.blk (b:=gl) rfl
 have c0:=aP.cell (bG E) h.ls hlt (j:=0) (by omega)
 have c1:=aP.cell (bG E) h.ls hlt (j:=1) (by omega)
 have c2:=aP.cell (bG E) h.ls hlt (j:=2) (by omega)
 have c3:=aP.cell (bG E) h.ls hlt (j:=3) (by omega)
 have hn:=h.nx _ (ag0 hlt)
 refine⟨c0,?_,c2,c3,λk=>by simp[World.frozen?,jN]⟩
 rw[c1]
 show some (vI (VY E l[i].nx))=_
 rw[hn];rfl
end
variable{it:It}{l m:List It}{i:Nat}
def uD(l:List It)(i:Nat):List It:=(l.take i).map MJ++l.drop i
theorem Wm(l:List It)(i:Nat):(uD l i).length=l.length:=by
 unfold uD
 rw[af8,agM,<-af8,ahr]
theorem Gl(h:l[i]?=some it):(uD l i)[i]?=some it:=by
 have hlt:=(agA.1 h).1
 unfold uD
 rw[agN (by rw[agM,agB];omega),agM,agB,show i-min i l.length=0 by omega,ahL,ahC]
 exact h
theorem Jo(h:l[i]?=some it):uD l (i+1)=(uD l i).set i (MJ it):=by
 have hlt:=(agA.1 h).1
 unfold uD
 rw[jl h,aiY _ _ (by rw[agM,agB];omega),agM,agB,show i-min i l.length=0 by omega,agu,ajB,h,ag2,agf]
 rfl
theorem Wn{x:Sy}(h:l[i]?=some ⟨x,none,1⟩):uD l (i+1)=uD l i:=by
 rw[Jo h]
 have e:MJ ⟨x,none,1⟩=⟨x,none,1⟩:=rfl
 rw[e]
 have:=Gl h
 obtain⟨hlt,hq⟩:=agA.1 this
 rw[<-hq,List.set_getElem_self]
theorem Wo(l:List It)(h:l.length<=i):uD l i=l.map MJ:=by
 unfold uD
 rw[agI h,ag9 h,agi]
theorem fold_succ(h:m[i]?=some it):(m.take (i+1)).foldl bO []=bO ((m.take i).foldl bO []) it:=by
 rw[ajB,h,ai2];rfl
theorem CF:∀(m l:List It),(m.foldl bO l).length<=l.length+m.length
 | [],l=>af7 _
 |i::m,l=>by
  have h1:=CF m (bO l i)
  have h2:=fP l i
  rw[ag5,agc];omega
theorem Te(h:nM m)(hm:(aH m).length<=1152921504606846976)(hi:m[i]?=some it):it.times<=1152921504606846976/\∀j,((m.take i).foldl bO []).getLast?=some j->j.x=it.x->j.times+it.times<=1152921504606846976:=by
 obtain⟨a,b,-⟩:=wV (m.take i) (acc:=[]) (λj hj=>by cases hj) trivial λj hj=>h j (ahJ hj)
 have e1:aH m=aH (m.take i)++aH (m.drop i):=by
  rw[<-bR,ahr]
 rw[jl hi,bg]at e1
 have e2:=agC List.length e1
 have hn:=(h it (agE hi)).1
 unfold je at e2
 rw[hn]at e2
 simp only[af8,ahF]at e2
 refine⟨by omega,λj hj _=>?_⟩
 have h1:=Gi (ah1 hj) (b j (ah1 hj)).1
 rw[a,cu,agH]at h1
 omega
end M
end
section
open Go.RowKit Go.Lib
namespace M
attribute [local go_sem] Oper.semAt_some
theorem D5{n0 B most g:Nat}{F:List Sy}{E:List En}{W:World}(h:gV n0 B most g F E W){lo sb pa n:Nat}{s:iD}{cs:Array Value}{vL vR vM:Value}(hlo:n0<=lo)(hp:iW W pa B g)(hpa:pa<lo)(hS:bQ W E lo sb pa s cs vL vR vM)(Gn:nM s.mid)(ho:n%2=1)(hF:∀y∈step n (aH s.mid),y∈F)(kM:s.mid.length<=900000)(hfl:(aH s.mid).length<=1152921504606846976):
    Calls Tryz.prog 188 #[.pointer (some ⟨sb,0,none⟩)] W (MgP n0 B most g F E W lo sb pa s cs vL vR vM (step n (aH s.mid)) One):=by
 have HF:∀f,Fence.wide.fn f:=λ_=>trivial
 have HB:aA (J8 n0 lo W.heap.size W vM):=ak ⟨hlo,by have:=hS.lt;have:=hS.low;omega,af7 _,λq hq=>(hS.sj hq).2.2.2.2⟩
 have yV:aA (qW n0 B most g F E W lo sb pa W.heap.size s cs vL vR vM E (.slice none 0 0) [] W):=ak ⟨Gw.refl h,hS,aP.nil _ _ _ _ _,λi hi=>(by cases hi),λi hi=>(by cases hi)⟩
 have fV:=ak hp;have uq:aA (pa<W.heap.size):=ak (by have:=hS.lt;have:=hS.low;omega);have Pm:=ak Gn;have HO:=ak ho;have lN:=ak hF;have pY:=ak (And.intro kM hfl)
 have c11:=hS.jD
 obtain⟨L,hL⟩:=ay (s.mid.length)
 have hsh:∃a cap,vM=.slice a L cap:=by rw[<-hL];exact hS.mid.len
 obtain⟨am,Lr,oq⟩:=hsh
 have HV:=ak oq;have HL:=ak hL
 rw[oq]at c11
 clear h hlo hp hpa hS Gn ho hF kM hfl oq hL
 go_enter Tryz.func188,Tryz.ntmps188
 go_wp2_with fail
 clear c11
 go_loopw [4,17] (λav iv wr=>∃(lv:Value) (i:Nat),lv=av/\iv=.int .i64 i/\i<=L/\qW n0 B most g F E W lo sb pa W.heap.size s cs vL vR vM E lv ((s.mid.take i).foldl bO []) wr) (λ_ iv _=>L-(intOf iv).toNat)
 case atStart=>exact⟨.slice none 0 0,0,rfl,rfl,agb _,yV.o⟩
 case round=>
  obtain⟨lv,i,rfl,rfl,hi,hM⟩:=hrel
  by_cases Gj:i<L
  .obtain⟨gm,cap,oq,hc,hat⟩:=hM.sp.xI (by intro e;have:=HL.o;rw[e]at this;simp at this;omega)
   have hvv:=HV.o.symm.trans oq
   injection hvv with q1 q2 q3
   subst q1 q3
   obtain⟨it,hit⟩:∃it,s.mid[i]?=some it:=⟨_,agt (by have:=HL.o;omega)⟩
   obtain⟨xi,nxi,ti⟩:=it
   have Ai:=agE hit
   have hsum:=Te Pm.o pY.o.2 hit
   have hpush:=fold_succ hit
   obtain⟨hnx,hti⟩:=Pm.o _ Ai
   dsimp only at hnx hti hsum
   subst hnx
   have hxm:=(hM.sp.mem _ Ai).1
   dsimp only at hxm
   obtain⟨ix,hix⟩:=ay (num E xi)
   obtain⟨kx,hkx⟩:=ay (key xi)
   obtain⟨m0,m1,m2,m3⟩:=hat wr (af6 _ _) i _ hit
   dsimp only at m0 m1 m2 m3
   rw[hix]at m0
   rw[hkx]at m2
   replace m1:wr.cell? ⟨gm,i*4+1,none⟩=some (.int .i64 0):=m1
   obtain⟨wz,w2,hz,hs,k2,b2,kz,bz⟩:=ze wr ix 0 kx ti
   obtain⟨g9,DW⟩:=ay (wr.heap.size)
   rw[DW]at hs k2 kz
   replace hs:(((wz.setCell ⟨g9,0,none⟩ (.int .i64 ix)).setCell ⟨g9,1,none⟩ (.int .i64 0)).setCell ⟨g9,2,none⟩ (.int .u64 kx)).setCell ⟨g9,3,none⟩ (.int .i64 ti)=w2:=hs
   obtain⟨z0,z1,z2,z3,z4⟩:=kz.all
   have Jh:=z4 0;have Ji:=z4 1;have GY:=z4 2;have Jj:=z4 3
   have hM2:=hM.below b2
   obtain⟨b0,b1,b2',b3,-⟩:=k2.all
   replace b1:w2.cell? ⟨g9,1,none⟩=some (.int .i64 0):=b1
   have hln:((s.mid.take i).foldl bO []).length<=1000000:=by
    have h1:=CF (s.mid.take i) []
    rw[agB]at h1
    have:=pY.o.1
    simp only[ahX]at h1
    omega
   have zQ:=Jm hM2.ls (hM2.size HB.o) hM2.ok (x:=xi) (t:=ti) hxm hsum.1 hln hM2.nx hsum.2
   rw[hix,hkx,<-hpush]at zQ
   have Hl:=ak zQ
   have kZ:=ak hM2
   have HX:=ak (And.intro hxm (And.intro hsum hpush));have HI:=ak (And.intro Gj hi)
   have l1:(i:Int)<(L:Int):=by omega
   have l0:(0:Int)<=(i:Int):=by omega
   have hib:i<=900000:=by have:=pY.o.1;have:=HL.o;omega
   clear hi hM hM2 zQ Gj hc hat oq q2 hit Ai hxm hix hkx k2 b2 kz bz z4 hsum hpush hti hln
   go_wp2_with fail
   clear DW hz hs z0 z1 z2 z3 Jh Ji GY Jj m0 m1 m2 m3 b0 b1 b2' b3
   refine Hl.o.mono ?_
   rintro e w5 hq
   rw[HX.o.2.2]at hq
   obtain⟨v',rfl,zR⟩:=kZ.o.push HB.o (i:=⟨xi,none,ti⟩) HX.o.1 rfl HX.o.2.1.1 HX.o.2.1.2 hq
   have HM5:=ak zR
   clear hq zR
   go_wp2_with fail
   go_roundw
   case rel=>exact⟨v',i+1,rfl,by first|rfl|go_num,by have:=HI.o.1;omega,by rw[HX.o.2.2];exact HM5.o⟩
   case measure=>have:=HI.o.1;simp[intOf];omega
  .have Wl:i=L:=by omega
   have l1:¬(i:Int)<(L:Int):=by omega
   have hdone:=yN HO.o Pm.o
   have hmem:∀j∈s.mid.foldl bO [],ZF j∈F:=λj hj=>lN.o _ (Ve HO.o Pm.o hj)
   have Pn:=wV s.mid (acc:=[]) (λj hj=>by cases hj) trivial Pm.o
   have hl1:=CF s.mid []
   rw[Wl,agI (by have:=HL.o;omega)]at hM
   obtain⟨L1,hL1⟩:=ay (s.mid.foldl bO [])
   rw[hL1]at hdone hmem Pn hl1 hM
   obtain⟨L2,hL2⟩:=ay (L1.length)
   have HD:=ak (And.intro hdone Pn.2.1);have Gp:=ak hmem;have YO:aA (L1.length<=s.mid.length):=ak (by simp only[ahX]at hl1;omega)
   have HL2:=ak hL2
   obtain⟨a1,Lu,hlv⟩:=hM.ls.len
   rw[hL2]at hlv
   subst hlv
   have HM:=ak hM
   have hib:L2<=900000:=by have:=YO.o;have:=pY.o.1;omega
   clear hi hM Gj hdone hmem Pn hl1 hL1 hL2 yV
   go_wp2_with fail
   clear l1 Wl
   go_loopw [27] (λiv wr=>∃(E1:List En) (i:Nat),iv=.int .i64 i/\i<=L2/\qW n0 B most g F E W lo sb pa W.heap.size s cs vL vR vM E1 (.slice a1 L2 Lu) (uD L1 i) wr) (λiv _=>L2-(intOf iv).toNat)
   case atStart=>exact⟨E,0,rfl,agb _,HM.o⟩
   case round=>
    obtain⟨E1,k,rfl,hk,hM⟩:=hrel
    by_cases Ws:k<L2
    .obtain⟨g1,rfl⟩:∃g1,a1=some ⟨g1,0,none⟩:=by
      rcases hM.ls.shape with⟨e,-⟩|⟨g1,c,e,-⟩
      .injection e with _ e _;omega
      .injection e with e _ _;exact⟨g1,e⟩
     obtain⟨it,hit⟩:∃it,L1[k]?=some it:=⟨_,agt (by have:=HL2.o;omega)⟩
     obtain⟨xi,nxi,ti⟩:=it
     obtain⟨hnx,hti⟩:=HD.o.2 _ (agE hit)
     dsimp only at hnx hti
     subst hnx
     obtain⟨hxm,-,htb⟩:=hM.ok _ (agE (Gl hit))
     dsimp only at hxm htb
     obtain⟨m0,m1,m2,m3,-⟩:=hM.item (Gl hit)
     dsimp only at m0 m2 m3
     obtain⟨ix,hix⟩:=ay (num E1 xi)
     obtain⟨kx,hkx⟩:=ay (key xi)
     rw[hix]at m0
     rw[hkx]at m2
     obtain⟨wz,w2,hz,hs,k2,b2,kz,bz⟩:=ze wr ix 0 kx ti
     obtain⟨g9,DW⟩:=ay (wr.heap.size)
     rw[DW]at hs k2 kz
     replace hs:(((wz.setCell ⟨g9,0,none⟩ (.int .i64 ix)).setCell ⟨g9,1,none⟩ (.int .i64 0)).setCell ⟨g9,2,none⟩ (.int .u64 kx)).setCell ⟨g9,3,none⟩ (.int .i64 ti)=w2:=hs
     obtain⟨z0,z1,z2,z3,z4⟩:=kz.all
     have Jh:=z4 0;have Ji:=z4 1;have GY:=z4 2;have Jj:=z4 3
     have kZ:=ak (hM.below b2)
     have nY:=ak k2
     obtain⟨-,-,-,b3,-⟩:=k2.all
     have HIT:=ak hit;have HX:=ak (And.intro hxm (And.intro hix htb));have HK:=ak (And.intro Ws hk)
     have l1:(k:Int)<(L2:Int):=by omega
     have l0:(0:Int)<=(k:Int):=by omega
     have hkb:k<=900000:=by omega
     by_cases ht1:ti=1
     .have hb:((ti:Int)==(1:Int))=true:=by rw[ht1];rfl
      have hb':(ti:Int)=1:=by omega
      have hs1:(((wz.setCell ⟨g9,0,none⟩ (.int .i64 ix)).setCell ⟨g9,1,none⟩ (.int .i64 0)).setCell ⟨g9,2,none⟩ (.int .u64 kx)).setCell ⟨g9,3,none⟩ (.int .i64 1)=w2:=by rw[hb']at hs;exact hs
      have HR:aA (qW n0 B most g F E W lo sb pa W.heap.size s cs vL vR vM E1 (.slice (some ⟨g1,0,none⟩) L2 Lu) (uD L1 (k+1)) w2):=ak (by rw[Wn (by rw[<-ht1];exact hit)];exact hM.below b2)
      clear hk hM Ws hit hti hxm htb hix hkx k2 b2 kz bz z4 ht1
      go_wp2_with fail
      go_roundw
      case rel=>exact⟨E1,k+1,by first|rfl|go_num,by have:=HK.o.1;omega,HR.o⟩
      case measure=>have:=HK.o.1;simp[intOf];omega
     .have hb:((ti:Int)==(1:Int))=false:=agh.2 (by omega)
      have hb':¬(ti:Int)=1:=by omega
      have afi:Sy.pw xi ti∈F:=by
       have:=Gp.o _ (agE hit)
       unfold ZF at this
       dsimp only at this
       rwa [af4 ht1]at this
      have hset:uD L1 (k+1)=(uD L1 k).set k ⟨.pw xi ti,none,1⟩:=by
       rw[Jo hit]
       congr 1
       unfold MJ ZF
       dsimp only
       rw[af4 ht1]
      have Wd:=ak hset
      have HLK:aA (k<(uD L1 k).length):=ak (by rw[Wm,HL2.o];exact Ws)
      have Pn:iW w2 pa B g:=fV.o.kp kZ.o.gw.kp (by have:=uq.o;omega)
      have CB:=ak Pn
      have IK:aA (∀w,Below w2.heap.size w2 w->Calls Tryz.prog 16 #[ku pa] w λe w'=>e=.returned (.pointer (some ⟨B,0,none⟩))/\w'=w):=ak λw hw=>iQ (CB.o.below hw)
      have VH:aA (∀w,Below w2.heap.size w2 w->Calls Tryz.prog 101 #[.pointer (some ⟨B,0,none⟩),.int .i64 ix,.int .i64 ti] w λr w'=>∃E',r=.returned (.tuple #[vI (num E' (.pw xi ti)),.nilIface])/\Gw n0 B most g F (λ_=>False) E1 E' w w'/\ .pw xi ti∈syms E'):=ak λw hw=>by
       have:=XE (kZ.o.below hw).gw.st hxm (k:=ti) (by omega) afi
       rw[hix]at this
       exact this
      have e0:∀w,Below w2.heap.size w2 w->w.cell? ⟨sb,0,none⟩=some (ku pa):=λw hw=>(kZ.o.below hw).sp.cell0
      have k0:∀w,Below w2.heap.size w2 w->w.cell? ⟨g9,0,none⟩=some (.int .i64 ix):=λw hw=>(nY.o.below hw).all.1
      have k3:∀w,Below w2.heap.size w2 w->w.cell? ⟨g9,3,none⟩=some (.int .i64 ti):=λw hw=>(nY.o.below hw).all.2.2.2.1
      clear hk hM Ws hit hti hxm htb hix hkx k2 b2 kz bz z4 ht1 afi hset Pn
      go_wp2_with fail
      clear DW hz hs z0 z1 z2 z3 Jh Ji GY Jj m0 m1 m2 m3 b3
      refine aU (Below w2.heap.size w2) ?_
      obtain⟨we,bU⟩:=ay (w2.drew)
      have S1:Below w2.heap.size w2 we:=by rw[<-bU];exact(af6 _ _).drew
      rw[bU]
      clear bU
      refine bJ 0 1 2 3 5 6 ?_
      refine tk2 7 8 ?_
      refine aT 4 λK hK=>?_
      go_simp
      try with_reducible refine⟨rfl,?_⟩
      refine agq.2 ((IK.o _ S1).mono ?_)
      rintro e wn ⟨rfl,hwn⟩
      obtain rfl:we=wn:=hwn.symm
      refine hK _ _ S1 ?_
      clear hK K
      refine aJ.wall (i:=9) (by kernel_rfl) rfl HF (by rfl) (λK hK=>?_)
      go_simp
      try with_reducible refine⟨rfl,?_⟩
      refine agq.2 ((VH.o _ S1).mono ?_)
      rintro e w6 ⟨E6,rfl,lu,vG⟩
      have Pg:=ak ((kZ.o.below S1).call lu)
      have Le:=ak ((CB.o.below S1).kp lu.kp (λq=>q))
      have tJ:=ak vG
      have T0:uz w6:=trivial
      refine hK uz _ _ ?_
      clear hK K lu vG
      refine zD 10 11 12 13 14 ?_
      refine aO ?_
      clear S1 e0 k0 k3
      obtain⟨ip,pV⟩:=ay (num E6 (.pw xi ti))
      obtain⟨kp,hkp⟩:=ay (key (.pw xi ti))
      have HKS:=ak (kT Le.o)
      have HKY:=ak (Ci Pg.o.gw.st tJ.o)
      rw[pV,hkp]at HKY
      rw[pV]
      have c0:=Pg.o.sp.cell0
      have Wh:=ak (And.intro pV hkp)
      clear pV hkp
      go_wp2_with fail
      refine HKS.o.mono ?_
      rintro e w7 ⟨rfl,hw7⟩
      obtain rfl:w6=w7:=hw7.symm
      go_wp2_with fail
      refine HKY.o.mono ?_
      rintro e w8 ⟨rfl,EJ⟩
      have hM8:=Pg.o.call EJ
      have hmat:=hM8.item (Gl HIT.o)
      obtain⟨y0,y1,y2,y3,y4⟩:=hmat
      have fy0:=y4 (k*4);have fy1:=y4 (k*4+1);have fy2:=y4 (k*4+2);have fy3:=y4 (k*4+3)
      have hR:=hM8.aaQ HB.o HLK.o tJ.o
      rw[Wh.o.1,Wh.o.2,<-Wd.o]at hR
      have HR:=ak hR
      clear c0 EJ hM8 hR y4
      go_wp2_with fail
      go_roundw
      case rel=>exact⟨E6,k+1,by first|rfl|go_num,by have:=HK.o.1;omega,HR.o⟩
      case measure=>have:=HK.o.1;simp[intOf];omega
    .have hkl:k=L2:=by omega
     have l1:¬(k:Int)<(L2:Int):=by omega
     have HR:aA (qW n0 B most g F E W lo sb pa W.heap.size s cs vL vR vM E1 (.slice a1 L2 Lu) (L1.map MJ) wr/\aH (L1.map MJ)=step n (aH s.mid)/\One (L1.map MJ)/\(L1.map MJ).length<=s.mid.length):=ak ⟨by rw[<-Wo L1 (i:=k) (by rw[HL2.o,hkl];exact af7 _)];exact hM,HD.o.1.1,HD.o.1.2,by rw[agM];exact YO.o⟩
     clear hk hM Ws hkl
     go_wp2_with fail
     exact af_ (v:=.tuple #[.slice a1 L2 Lu,.nilIface]) (by simp[results,Tryz.results188,go_sem]) rfl ⟨E1,.slice a1 L2 Lu,L1.map MJ,rfl,HR.o⟩
end M
end
section
open Go.RowKit Go.Lib
namespace M
def Wp(w:World)(gb:Nat)(E:List En):Option Sy->Prop
 |none=>∃b k t,ng w gb 0 b k t
 |some o=>ng w gb (num E o) 0 (key o) 1/\o∈syms E
theorem Wp.at{w:World}{gb:Nat}{E:List En}:∀{o:Option Sy},Wp w gb E o->∃cs,w.heap[gb]?=some (.cells cs 254 (0,0))
 |none,⟨_,_,_,h⟩=>⟨_,h⟩
 |some _,⟨h,_⟩=>⟨_,h⟩
theorem Wp.keep{w w':World}{gb:Nat}{E E':List En}(hx:Ext E E')(hk:∀cs,w.heap[gb]?=some (.cells cs 254 (0,0))->w'.heap[gb]?=some (.cells cs 254 (0,0))):∀{o:Option Sy},Wp w gb E o->Wp w' gb E' o
 |none,⟨b,k,t,h⟩=>⟨b,k,t,hk _ h⟩
 |some o,⟨h,hm⟩=>⟨by rw[eZ hx hm];exact hk _ h,hx.mem hm⟩
structure yc(n0 B most g:Nat)(F:List Sy)(E0:List En)(W0:World)(lo sb pa gb:Nat)(s:iD)(cs:Array Value)(vL vR vM:Value)(E:List En)(lv:Value)(l:List It)(od:Option Sy)(w:World):Prop where
 m:qW n0 B most g F E0 W0 lo sb pa gb s cs vL vR vM E lv l w
 ne:lv.ownBlock≠some gb
 od:Wp w gb E od
section
variable {n0 B most g:Nat} {F:List Sy} {E0:List En} {W0:World} {lo sb pa gb:Nat} {s:iD} {cs:Array Value} {vL vR vM:Value} {E E':List En} {lv:Value} {l:List It} {od:Option Sy} {w w':World}
variable{a b gi k t:Nat}{lv v':Value}
theorem yc.lt(h:yc n0 B most g F E0 W0 lo sb pa gb s cs vL vR vM E lv l od w):gb<w.heap.size:=by
 obtain⟨_,q⟩:=h.od.at
 exact(aga.1 q).1
theorem yc.below(h:yc n0 B most g F E0 W0 lo sb pa gb s cs vL vR vM E lv l od w)(hb:Below w.heap.size w w'):yc n0 B most g F E0 W0 lo sb pa gb s cs vL vR vM E lv l od w':=
 ⟨h.m.below hb,h.ne,h.od.keep (Ext.refl _) λ_ q=>au hb q⟩
theorem V_.ne{q:Nat}(h:V_ lv v' w w')(hn:lv.ownBlock≠some q)(hq:q<w.heap.size):v'.ownBlock≠some q:=λe=>by
 rcases h.1 q e with a|a
 .exact hn a
 .omega
theorem yc.next(h:yc n0 B most g F E0 W0 lo sb pa gb s cs vL vR vM E lv l od w){l':List It}(hm:qW n0 B most g F E0 W0 lo sb pa gb s cs vL vR vM E' v' l' w')(hx:Ext E E')(hk:V_ lv v' w w'):yc n0 B most g F E0 W0 lo sb pa gb s cs vL vR vM E' v' l' od w':=
 ⟨hm,hk.ne h.ne h.lt,h.od.keep hx λcs q=>hk.2 gb cs q h.ne⟩
theorem ng.kb(h:ng w gi a b k t)(hk:V_ lv v' w w')(hn:lv.ownBlock≠some gi):ng w' gi a b k t:=hk.2 gi _ h hn
theorem yc.box(h:yc n0 B most g F E0 W0 lo sb pa gb s cs vL vR vM E lv l od w)(hb:J8 n0 lo gb W0 vM)(hg:w.grownBy w' (some gb)){od':Option Sy}(ho:Wp w' gb E od'):yc n0 B most g F E0 W0 lo sb pa gb s cs vL vR vM E lv l od' w':=by
 obtain⟨c,hc⟩:=h.od.at
 have h1:=jJ hg hc
 have h2:=bL hg (af7 gb) (by have:=h.lt;omega)
 exact⟨⟨h.m.gw.trans (Gw.item h.m.gw.st h1 h2 (af9 hb.l0 hb.l1)),h.m.sp.Tc h1 h2 hb.vm,h.m.ls.grown hg (.inr h.ne),h.m.ok,h.m.nx⟩,h.ne,ho⟩
theorem Wp.YJ:∀{o:Option Sy},Wp w gb E o->∃a b k t,ng w gb a b k t
 |none,⟨b,k,t,h⟩=>⟨0,b,k,t,h⟩
 |some o,⟨h,_⟩=>⟨_,_,_,_,h⟩
theorem ng.put(h:ng w gi a b k t)(a' b' k' t':Nat):ng ((((w.setCell ⟨gi,0,none⟩ (.int .i64 a')).setCell ⟨gi,1,none⟩ (.int .i64 b')).setCell ⟨gi,2,none⟩ (.int .u64 k')).setCell ⟨gi,3,none⟩ (.int .i64 t')) gi a' b' k' t'/\w.grownBy ((((w.setCell ⟨gi,0,none⟩ (.int .i64 a')).setCell ⟨gi,1,none⟩ (.int .i64 b')).setCell ⟨gi,2,none⟩ (.int .u64 k')).setCell ⟨gi,3,none⟩ (.int .i64 t')) (some gi):=by
 have q:=aC (i:=3) (.int .i64 (t':Int)) (aC (i:=2) (.int .u64 (k':Int)) (aC (i:=1) (.int .i64 (b':Int)) (aC (i:=0) (.int .i64 (a':Int)) h)))
 simp only[agx,agu,agv]at q
 exact⟨q,eT gi [.int .i64 a',.int .i64 b',.int .u64 k',.int .i64 t'] 0 w⟩
theorem ng.clr(h:ng w gi a b k t):ng (w.setCell ⟨gi,0,none⟩ (.int .i64 0)) gi 0 b k t/\w.grownBy (w.setCell ⟨gi,0,none⟩ (.int .i64 0)) (some gi):=by
 have q:=aC (i:=0) (.int .i64 0) h
 simp only[agx,agu,agv]at q
 exact⟨q,aK w ⟨gi,0,none⟩ _⟩
theorem yc.clr(h:yc n0 B most g F E0 W0 lo sb pa gb s cs vL vR vM E lv l od w)(hb:J8 n0 lo gb W0 vM):yc n0 B most g F E0 W0 lo sb pa gb s cs vL vR vM E lv l none (w.setCell ⟨gb,0,none⟩ (.int .i64 0)):=by
 obtain⟨a,b,k,t,hi⟩:=h.od.YJ
 exact h.box hb hi.clr.2 ⟨b,k,t,hi.clr.1⟩
theorem yc.put(h:yc n0 B most g F E0 W0 lo sb pa gb s cs vL vR vM E lv l od w)(hb:J8 n0 lo gb W0 vM){x:Sy}(hx:x∈syms E):yc n0 B most g F E0 W0 lo sb pa gb s cs vL vR vM E lv l (some x) ((((w.setCell ⟨gb,0,none⟩ (.int .i64 (num E x))).setCell ⟨gb,1,none⟩ (.int .i64 0)).setCell ⟨gb,2,none⟩ (.int .u64 (key x))).setCell ⟨gb,3,none⟩ (.int .i64 1)):=by
 obtain⟨a,b,k,t,hi⟩:=h.od.YJ
 exact h.box hb (hi.put (num E x) 0 (key x) 1).2 ⟨(hi.put (num E x) 0 (key x) 1).1,hx⟩
theorem yc.put0(h:yc n0 B most g F E0 W0 lo sb pa gb s cs vL vR vM E lv l od w)(hb:J8 n0 lo gb W0 vM)(k:Nat):yc n0 B most g F E0 W0 lo sb pa gb s cs vL vR vM E lv l none ((((w.setCell ⟨gb,0,none⟩ (.int .i64 0)).setCell ⟨gb,1,none⟩ (.int .i64 0)).setCell ⟨gb,2,none⟩ (.int .u64 k)).setCell ⟨gb,3,none⟩ (.int .i64 1)):=by
 obtain⟨a,b,k',t,hi⟩:=h.od.YJ
 exact h.box hb (hi.put 0 0 k 1).2 ⟨_,_,_,(hi.put 0 0 k 1).1⟩
theorem yc.push(h:yc n0 B most g F E0 W0 lo sb pa gb s cs vL vR vM E lv l od w)(hb:J8 n0 lo gb W0 vM){x:Sy}(hx:x∈syms E)(hl:l.length<=1000000)(hs:∀j,l.getLast?=some j->j.x=x->j.times+1<=1152921504606846976):
    Calls Tryz.prog 213 #[lv,.agg #[vI (num E x),.int .i64 0,vK (key x),.int .i64 1]] w λe w'=>∃v',e=.returned v'/\yc n0 B most g F E0 W0 lo sb pa gb s cs vL vR vM E v' (bO l ⟨x,none,1⟩) od w'/\V_ lv v' w w':=by
 have:=zh h.m.ls (h.m.size hb) h.m.ok hx (t:=1) (by decide) hl h.m.nx hs
 refine this.mono ?_
 rintro e w' hq
 obtain⟨v',rfl,hm⟩:=h.m.push hb (i:=⟨x,none,1⟩) hx rfl (by show 1<=_;decide) hs hq.1
 exact⟨v',rfl,h.next hm (Ext.refl _) (hq.2 v' rfl),hq.2 v' rfl⟩
theorem yc.pair(h:yc n0 B most g F E0 W0 lo sb pa gb s cs vL vR vM E lv l od w)(hb:J8 n0 lo gb W0 vM)(hp:iW w pa B g){x y:Sy}(hx:x∈syms E)(hy:y∈syms E)(hF:Sy.pr x y∈F)(ht:t<=1152921504606846976)(hlen:l.length<=1000000)(hs:∀j,l.getLast?=some j->j.x=.pr x y->j.times+t<=1152921504606846976):
    Calls Tryz.prog 214 #[.pointer (some ⟨sb,0,none⟩),lv,vI (num E x),vI (num E y),vI t] w λe w'=>∃E' v',e=.returned (.tuple #[v',.nilIface])/\yc n0 B most g F E0 W0 lo sb pa gb s cs vL vR vM E' v' (bO l ⟨.pr x y,none,t⟩) od w'/\V_ lv v' w w'/\Ext E E':=by
 refine(uK h.m hb hp hx hy hF ht hlen hs).mono ?_
 rintro e w' ⟨E',v',rfl,hm,hk,hx⟩
 exact⟨E',v',rfl,h.next hm hx hk,hk,hx⟩
end
end M
end
section
open Go.RowKit Go.Lib
namespace M
attribute [local go_sem] Oper.semAt_some
def MgT(n0 B most g:Nat)(F:List Sy)(E:List En)(W:World)(lo sb pa:Nat)(s:iD)(cs:Array Value)(vL vR vM:Value)(T:List Sy)(e:Ending)(w':World):Prop:=∃E' v' l,e=.returned (.tuple #[v',.nilIface])/\qW n0 B most g F E W lo sb pa W.heap.size s cs vL vR vM E' v' l w'/\aH l=T/\nM l
theorem Tf{n:Nat}{mid l:List It}{r r2:List Sy}(h:uL n mid l r)(e:r=r2):uL n mid l r2:=e▸h
theorem vH{n0 B most g:Nat}{F:List Sy}{E:List En}{W:World}(h:gV n0 B most g F E W){lo sb pa n:Nat}{s:iD}{cs:Array Value}{vL vR vM:Value}(hlo:n0<=lo)(hp:iW W pa B g)(hpa:pa<lo)(hS:bQ W E lo sb pa s cs vL vR vM)(hst:KM s.mid)(ht:f_ n=true)(hF:∀y∈step n (aH s.mid),y∈F)(kM:s.mid.length<=400000)(hfl:(aH s.mid).length<=1152921504606846976):
    Calls Tryz.prog 189 #[.pointer (some ⟨sb,0,none⟩)] W (MgT n0 B most g F E W lo sb pa s cs vL vR vM (step n (aH s.mid))):=by
 have HF:∀f,Fence.wide.fn f:=λ_=>trivial;obtain⟨W1,hW1,kb,bb⟩:=ng.box W 0 0 0 0;obtain⟨gb,hgb⟩:=ay (W.heap.size);rw[hgb]at kb;replace hW1:W.alloc (.cells #[.int .i64 0,.int .i64 0,.int .u64 0,.int .i64 0] 254)=W1:=hW1;have HB:aA (J8 n0 lo gb W vM):=ak ⟨hlo,by have:=hS.lt;have:=hS.low;omega,by omega,λq hq=>by have:=(hS.sj hq).2.2.2.2;omega⟩;have hm0:qW n0 B most g F E W lo sb pa gb s cs vL vR vM E (.slice none 0 0) [] W:=⟨Gw.refl h,hS,aP.nil _ _ _ _ _,λi hi=>(by cases hi),λi hi=>(by cases hi)⟩;have yV:aA (yc n0 B most g F E W lo sb pa gb s cs vL vR vM E (.slice none 0 0) [] none W1):=ak ⟨hm0.below bb,λe=>(by cases e),⟨0,0,0,kb⟩⟩;have fV:=ak hp;have uq:aA (pa<gb):=ak (by have:=hS.lt;have:=hS.low;omega);have HST:=ak hst;have HT:=ak ht;have lN:=ak hF;have pY:=ak (And.intro kM hfl);have G5:=ak hgb;have c11:=(hS.below bb).jD;obtain⟨L,hL⟩:=ay (s.mid.length);have hsh:∃a cap,vM=.slice a L cap:=by rw[<-hL];exact hS.mid.len
 obtain⟨am,Lr,oq⟩:=hsh;have HV:=ak oq;have HL:=ak hL;rw[oq]at c11;clear h hlo hp hpa hS hst ht hF kM hfl oq hL hm0 kb bb;go_enter Tryz.func189,Tryz.ntmps189;go_wp2_with fail
 clear c11 hW1 hgb;go_loopw [4,6,14] (λav ev iv wr=>∃(lv:Value) (E1:List En) (l:List It) (od:Option Sy) (i:Nat),lv=av/\ev=.nilIface/\iv=.int .i64 i/\i<=L/\yc n0 B most g F E W lo sb pa gb s cs vL vR vM E1 lv l od wr/\uL n s.mid l (step n (od.toList++aH (s.mid.drop i)))/\l.length<=2*i) (λ_ _ iv _=>L-(intOf iv).toNat)
 case atStart=>exact⟨.slice none 0 0,E,[],none,0,rfl,rfl,rfl,agb _,yV.o,⟨by rw[cu,agH,agj];rfl,λi hi=>(by cases hi)⟩,af7 _⟩
 obtain⟨lv,E1,l,od,i,rfl,rfl,rfl,hi,hM,hG,hl⟩:=hrel;by_cases Gj:i<L
 .obtain⟨gm,cap,oq,hc,hat⟩:=hM.m.sp.xI (by intro e;have:=HL.o;rw[e]at this;simp at this;omega);have hvv:=HV.o.symm.trans oq;injection hvv with q1 q2 q3;subst q1 q3;obtain⟨it,hit⟩:∃it,s.mid[i]?=some it:=⟨_,agt (by have:=HL.o;omega)⟩;obtain⟨xi,nxi,ti⟩:=it;have Ai:=agE hit;obtain⟨ht1,hn1,hk1⟩:=HST.o _ Ai;obtain⟨hxm,hym,htb⟩:=hM.m.sp.mem _ Ai;dsimp only at ht1 hn1 hk1 hxm hym htb;obtain⟨ix,hix⟩:=ay (num E1 xi);obtain⟨kx,hkx⟩:=ay (key xi);obtain⟨m0,m1,m2,m3⟩:=hat wr (af6 _ _) i _ hit;dsimp only at m0 m1 m2 m3;rw[hix]at m0;rw[hkx]at m2;have l1:(i:Int)<(L:Int):=by omega
  have l0:(0:Int)<=(i:Int):=by omega
  have hib:i<=400000:=by have:=pY.o.1;have:=HL.o;omega
  have HI:=ak (And.intro Gj hl);have HIT:=ak hit;have HX:=ak (And.intro hxm (And.intro hix hkx));obtain⟨g9,DW⟩:=ay (wr.heap.size);have hn9:lv.ownBlock≠some g9:=λe=>by
   obtain⟨-,cur,q⟩:=hM.m.ls.blk e;have:=(aga.1 q).1;omega
  have HN9:=ak hn9;have HGZ:aA (g9≠gb):=ak (by have:=hM.lt;omega);clear hn9 hi Gj hc hat oq q2;rcases nxi with _|y
  case' _=>
   obtain rfl:ti=1:=hn1 rfl;replace m1:wr.cell? ⟨gm,i*4+1,none⟩=some (.int .i64 0):=m1;replace m3:wr.cell? ⟨gm,i*4+3,none⟩=some (.int .i64 1):=m3;obtain⟨wz,w2,hz,hs,k2,b2,kz,bz⟩:=ze wr ix 0 kx 1;rw[DW]at hs k2 kz;replace hs:(((wz.setCell ⟨g9,0,none⟩ (.int .i64 ix)).setCell ⟨g9,1,none⟩ (.int .i64 0)).setCell ⟨g9,2,none⟩ (.int .u64 kx)).setCell ⟨g9,3,none⟩ (.int .i64 1)=w2:=hs
  rotate_left
  case' _=>
   obtain⟨iy,Ga⟩:=ay (num E1 y);replace m1:wr.cell? ⟨gm,i*4+1,none⟩=some (.int .i64 iy):=by rw[<-Ga];exact m1
   replace hym:=hym y rfl;have hky:key y=kx:=by rw[hk1 y rfl];exact hkx
   have hiy0:0<iy:=by rw[<-Ga];exact(aS hym).1
   have hbn:((iy:Int)==(0:Int))=false:=agh.2 (by omega);have hbn':¬(iy:Int)=0:=by omega
   have HY:=ak (And.intro hym (And.intro Ga (And.intro hky (And.intro ht1 htb))));clear Ga hky hiy0;obtain⟨wz,w2,hz,hs,k2,b2,kz,bz⟩:=ze wr ix iy kx ti;rw[DW]at hs k2 kz;replace hs:(((wz.setCell ⟨g9,0,none⟩ (.int .i64 ix)).setCell ⟨g9,1,none⟩ (.int .i64 iy)).setCell ⟨g9,2,none⟩ (.int .u64 kx)).setCell ⟨g9,3,none⟩ (.int .i64 ti)=w2:=hs
  rotate_left
  all_goals
   obtain⟨z0,z1,z2,z3,z4⟩:=kz.all;have Jh:=z4 0;have Ji:=z4 1;have GY:=z4 2;have Jj:=z4 3;have hM2:=hM.below b2;obtain⟨b0,b1,b2',b3,-⟩:=k2.all
  case' _=>
   replace b1:w2.cell? ⟨g9,1,none⟩=some (.int .i64 0):=b1;replace b3:w2.cell? ⟨g9,3,none⟩=some (.int .i64 1):=b3
  rotate_left
  case' _=>
   replace b1:w2.cell? ⟨g9,1,none⟩=some (.int .i64 iy):=b1;replace b3:w2.cell? ⟨g9,3,none⟩=some (.int .i64 ti):=b3
  rotate_left
  all_goals
   have kZ:=ak hM2;have nY:=ak k2;have CB:aA (iW w2 pa B g):=ak (fV.o.kp kZ.o.m.gw.kp (by have:=uq.o;omega));clear hM k2 b2 kz bz z4 hxm hix hkx hit Ai hl hk1 ht1 htb hn1 hym
  .rcases od with _|o
   .obtain⟨ob,ok,ot,hoi⟩:=kZ.o.od;obtain⟨o0,o1,o2,o3,o4⟩:=hoi.all;replace o0:w2.cell? ⟨gb,0,none⟩=some (.int .i64 0):=o0;have YK:=o4 0;have YL:=o4 1;have YM:=o4 2;have YN:=o4 3;have hR:=kZ.o.put HB.o HX.o.1;rw[HX.o.2.1,HX.o.2.2]at hR;have HR:=ak hR;have hG3:=Tf hG (show step n ((none:Option Sy).toList++aH (s.mid.drop i))=step n ((some xi).toList++aH (s.mid.drop (i+1))) by
     show step n (aH (s.mid.drop i))=step n (xi::aH (s.mid.drop (i+1)));rw[Rh HST.o HIT.o rfl])
    have qJ:=ak hG3;clear o4 hoi hR hG3 hG;go_wp2_with fail
    go_roundw
    case rel=>exact⟨lv,E1,_,some xi,i+1,rfl,rfl,by first|rfl|go_num,by have:=HI.o.1;omega,HR.o,qJ.o,by have:=HI.o.2;omega⟩
    case measure=>have:=HI.o.1;simp[intOf];omega
   obtain⟨hoi,EM⟩:=kZ.o.od;obtain⟨io,Dp⟩:=ay (num E1 o);obtain⟨ko,hko⟩:=ay (key o);rw[Dp,hko]at hoi;obtain⟨o0,o1,o2,o3,o4⟩:=hoi.all;replace o1:w2.cell? ⟨gb,1,none⟩=some (.int .i64 0):=o1;replace o3:w2.cell? ⟨gb,3,none⟩=some (.int .i64 1):=o3;have Ls:0<io:=by rw[<-Dp];exact(aS EM).1
   have Wq:((io:Int)==(0:Int))=false:=agh.2 (by omega);have Ph:¬(io:Int)=0:=by omega
   have Pj:((io:Int) !=(0:Int))=true:=by unfold bne;rw[Wq];rfl
   have HOO:=ak (And.intro EM (And.intro Dp hko));by_cases hke:key o=key xi
   .obtain rfl:ko=kx:=(by have:=HX.o.2.2;omega);have hrest:step n ((some o).toList++aH (s.mid.drop i))=List.replicate 1 (.pr o xi)++step n ((none:Option Sy).toList++aH (s.mid.drop (i+1))):=acA HT.o HST.o HIT.o rfl hke;have hsum:=uL.sum hG pY.o.2 hrest;have Jn:Sy.pr o xi∈F:=lN.o _ (uL.mem hG (by rw[hrest];simp));have hG3:=uL.push hG (af7 1) hrest;have xK:=kZ.o.pair HB.o CB.o EM HX.o.1 Jn (t:=1) hsum.1 (by have:=HI.o.2;omega) hsum.2;rw[Dp,HX.o.2.1]at xK;have Wi:=ak xK;have qJ:=ak hG3;clear hoi EM Dp hko Ls o4 hke hrest hsum Jn hG3 xK hG;go_wp2_with fail
    clear DW hz hs z0 z1 z2 z3 Jh Ji GY Jj m0 m1 m2 m3 o0 o1 o2 o3 b0 b1 b2' b3 Wq Ph Pj;refine Wi.o.mono ?_;rintro e w7 ⟨E7,v7,rfl,Tg,hk7,hx7⟩;have Pk:=nY.o.kb hk7 HN9.o;have aaS:=hk7.ne HN9.o (aga.1 nY.o).1;obtain⟨b0,b1,b2',b3,-⟩:=Pk.all;replace b1:w7.cell? ⟨g9,1,none⟩=some (.int .i64 0):=b1;replace b3:w7.cell? ⟨g9,3,none⟩=some (.int .i64 1):=b3;have Ti:=ak Tg;obtain⟨oa,ob,ok,ot,hoi⟩:=Ti.o.od.YJ;obtain⟨o0,o1,o2,o3,o4⟩:=hoi.all;have YK:=o4 0;have YL:=o4 1;have YM:=o4 2;have YN:=o4 3;have HR:=ak (Ti.o.put0 HB.o ko);clear o4 hoi Tg hk7 hx7 Pk aaS;go_wp2_with fail
    go_roundw
    case rel=>exact⟨v7,E7,_,none,i+1,rfl,rfl,by first|rfl|go_num,by have:=HI.o.1;omega,HR.o,qJ.o,by have:=HI.o.2;have:=fP l ⟨.pr o xi,none,1⟩;omega⟩
    case measure=>have:=HI.o.1;simp[intOf];omega
   have hbk:((ko:Int)==(kx:Int))=false:=agh.2 (by have:=HX.o.2.2;omega);have hbk':¬(ko:Int)=(kx:Int):=by have:=HX.o.2.2;omega
   have hbk2:((ko:Int) !=(kx:Int))=true:=by unfold bne;rw[hbk];rfl
   have hrest:step n ((some o).toList++aH (s.mid.drop i))=List.replicate 1 o++step n ((none:Option Sy).toList++aH (s.mid.drop i)):=Xq HT.o HST.o HIT.o hke;have hsum:=uL.sum hG pY.o.2 hrest;have hG2:=uL.push hG (af7 1) hrest;have zQ:=kZ.o.push HB.o EM (by have:=HI.o.2;omega) hsum.2;rw[Dp,hko]at zQ;have Hl:=ak zQ;clear hoi EM Dp hko Ls o4 hke hrest hsum zQ hG;go_wp2_with fail
   clear DW hz hs z0 z1 z2 z3 Jh Ji GY Jj m0 m1 m2 m3 o0 o1 o2 o3 b0 b1 b2' b3 hbk hbk' hbk2 Wq Ph Pj;refine Hl.o.mono ?_;rintro e w5 ⟨v5,rfl,zR,hk5⟩;obtain⟨a5,c5,k5,t5,hi5⟩:=zR.od.YJ;obtain⟨p0,-,-,-,p4⟩:=hi5.all;have fp0:=p4 0;obtain⟨w6,dH⟩:=ay (w5.setCell ⟨gb,0,none⟩ (.int .i64 0));have vG:=zR.clr HB.o;rw[dH]at vG;have Pg:=ak vG;have Pk:ng w6 g9 ix 0 kx 1:=by
    have q:=nY.o.kb hk5 HN9.o;rw[<-dH];exact aI (aK w5 ⟨gb,0,none⟩ _) q HGZ.o
   obtain⟨b0,b1,b2',b3,-⟩:=Pk.all;replace b1:w6.cell? ⟨g9,1,none⟩=some (.int .i64 0):=b1;replace b3:w6.cell? ⟨g9,3,none⟩=some (.int .i64 1):=b3;have Le:aA (iW w6 pa B g):=ak (fV.o.kp Pg.o.m.gw.kp (by have:=uq.o;omega));have hG:=hG2;clear zR hk5 hi5 p4 vG Pk hG2;obtain⟨ob,ok,ot,hoi⟩:=Pg.o.od;obtain⟨o0,o1,o2,o3,o4⟩:=hoi.all;replace o0:w6.cell? ⟨gb,0,none⟩=some (.int .i64 0):=o0;have YK:=o4 0;have YL:=o4 1;have YM:=o4 2;have YN:=o4 3;have hR:=Pg.o.put HB.o HX.o.1;rw[HX.o.2.1,HX.o.2.2]at hR;have HR:=ak hR;have hG3:=Tf hG (show step n ((none:Option Sy).toList++aH (s.mid.drop i))=step n ((some xi).toList++aH (s.mid.drop (i+1))) by
    show step n (aH (s.mid.drop i))=step n (xi::aH (s.mid.drop (i+1)));rw[Rh HST.o HIT.o rfl])
   have qJ:=ak hG3;clear o4 hoi hR hG3 hG;go_wp2_with fail
   go_roundw
   case rel=>exact⟨v5,E1,_,some xi,i+1,rfl,rfl,by first|rfl|go_num,by have:=HI.o.1;omega,HR.o,qJ.o,by have:=HI.o.2;have:=fP l ⟨o,none,1⟩;omega⟩
   case measure=>have:=HI.o.1;simp[intOf];omega
  rcases od with _|o
  .obtain⟨ob,ok,ot,hoi⟩:=kZ.o.od;obtain⟨o0,o1,o2,o3,o4⟩:=hoi.all;replace o0:w2.cell? ⟨gb,0,none⟩=some (.int .i64 0):=o0;have YK:=o4 0;have YL:=o4 1;have YM:=o4 2;have YN:=o4 3;have hrest:step n ((none:Option Sy).toList++aH (s.mid.drop i))=List.replicate ti (.pr xi y)++step n (aH (s.mid.drop (i+1))):=Xr HT.o HST.o HIT.o rfl;have hsum:=uL.sum hG pY.o.2 hrest;have Jn:Sy.pr xi y∈F:=lN.o _ (uL.mem hG (by rw[hrest];exact ahd _ (aiI.2 ⟨by have:=HY.o.2.2.2.1;omega,rfl⟩)));have hG3:=uL.push hG HY.o.2.2.2.1 hrest;have qJ:=ak hG3;have xK:=kZ.o.pair HB.o CB.o HX.o.1 HY.o.1 Jn (t:=ti) HY.o.2.2.2.2 (by have:=HI.o.2;omega) hsum.2;rw[HX.o.2.1,HY.o.2.1]at xK;have Wi:=ak xK;clear o4 hoi hrest hsum Jn hG3 hG xK;go_wp2_with fail
   clear o0 o1 o2 o3 YK YL YM YN DW hz hs z0 z1 z2 z3 Jh Ji GY Jj m0 m1 m2 m3 b0 b1 b2' b3;refine Wi.o.mono ?_;rintro e w7 ⟨E7,v7,rfl,Tg,-,-⟩;have Ti:=ak Tg;clear Tg;go_wp2_with fail
   go_roundw
   case rel=>exact⟨v7,E7,_,none,i+1,rfl,rfl,by first|rfl|go_num,by have:=HI.o.1;omega,Ti.o,qJ.o,by have:=HI.o.2;have:=fP l ⟨.pr xi y,none,ti⟩;omega⟩
   case measure=>have:=HI.o.1;simp[intOf];omega
  obtain⟨hoi,EM⟩:=kZ.o.od;obtain⟨io,Dp⟩:=ay (num E1 o);obtain⟨ko,hko⟩:=ay (key o);rw[Dp,hko]at hoi;obtain⟨o0,o1,o2,o3,o4⟩:=hoi.all;replace o1:w2.cell? ⟨gb,1,none⟩=some (.int .i64 0):=o1;replace o3:w2.cell? ⟨gb,3,none⟩=some (.int .i64 1):=o3;have Ls:0<io:=by rw[<-Dp];exact(aS EM).1
  have Wq:((io:Int)==(0:Int))=false:=agh.2 (by omega);have Ph:¬(io:Int)=0:=by omega
  have Pj:((io:Int) !=(0:Int))=true:=by unfold bne;rw[Wq];rfl
  have HOO:=ak (And.intro EM (And.intro Dp hko));by_cases hke:key o=key xi
  .obtain rfl:ko=kx:=by have:=HX.o.2.2;omega
   have hrest:step n ((some o).toList++aH (s.mid.drop i))=List.replicate 1 (.pr o xi)++(List.replicate (ti-1) (.pr y xi)++step n ((some y).toList++aH (s.mid.drop (i+1)))):=acB HT.o HST.o HIT.o rfl hke;have hsum:=uL.sum hG pY.o.2 hrest;have Jn:Sy.pr o xi∈F:=lN.o _ (uL.mem hG (by rw[hrest];simp));have hG3:=uL.push hG (af7 1) hrest;have xK:=kZ.o.pair HB.o CB.o EM HX.o.1 Jn (t:=1) hsum.1 (by have:=HI.o.2;omega) hsum.2;rw[Dp,HX.o.2.1]at xK;have Wi:=ak xK;have qJ:=ak hG3;clear hoi EM Dp hko Ls o4 hke hrest hsum Jn hG3 xK hG;go_wp2_with fail
   clear DW hz hs z0 z1 z2 z3 Jh Ji GY Jj m0 m1 m2 m3 o0 o1 o2 o3 b0 b1 b2' b3 Wq Ph Pj;refine Wi.o.mono ?_;rintro e w7 ⟨E7,v7,rfl,Tg,hk7,hx7⟩;have Pk:=nY.o.kb hk7 HN9.o;have aaS:=hk7.ne HN9.o (aga.1 nY.o).1;obtain⟨b0,b1,b2',b3,-⟩:=Pk.all;replace b1:w7.cell? ⟨g9,1,none⟩=some (.int .i64 iy):=b1;replace b3:w7.cell? ⟨g9,3,none⟩=some (.int .i64 ti):=b3;have Ti:=ak Tg;have aaT:aA (num E7 y=iy):=ak (by rw[eZ hx7 HY.o.1];exact HY.o.2.1);by_cases htt:ti=1
   .have hgt:¬(1:Int)<(ti:Int):=(by omega);have hG4:=qJ.o;rw[htt]at hG4;have xZ:=ak hG4;obtain⟨oa,ob,ok,ot,hoi⟩:=Ti.o.od.YJ;obtain⟨o0,o1,o2,o3,o4⟩:=hoi.all;have YK:=o4 0;have YL:=o4 1;have YM:=o4 2;have YN:=o4 3;have hR:=Ti.o.put HB.o (hx7.mem HY.o.1);rw[aaT.o,HY.o.2.2.1]at hR;have HR:=ak hR;clear o4 hoi hR;go_wp2_with fail
    go_roundw
    case rel=>exact⟨v7,E7,_,some y,i+1,rfl,rfl,by first|rfl|go_num,by have:=HI.o.1;omega,HR.o,Tf xZ.o rfl,by have:=HI.o.2;have:=fP l ⟨.pr o xi,none,1⟩;omega⟩
    case measure=>have:=HI.o.1;simp[intOf];omega
   have hgt:(1:Int)<(ti:Int):=by have:=HY.o.2.2.2.1;omega
   have hrest:∀r:List Sy,List.replicate (ti-1) (Sy.pr y xi)++r=List.replicate (ti-1) (Sy.pr y xi)++r:=λ_=>rfl;have hsum:=uL.sum qJ.o pY.o.2 (hrest _);have Jn:Sy.pr y xi∈F:=lN.o _ (uL.mem qJ.o (ahd _ (aiI.2 ⟨by have:=HY.o.2.2.2.1;omega,rfl⟩)));have hG4:=uL.push qJ.o (by have:=HY.o.2.2.2.1;omega) (hrest _);have HPA7:aA (iW w7 pa B g):=ak (fV.o.kp Ti.o.m.gw.kp (by have:=uq.o;omega));have xK:=Ti.o.pair HB.o HPA7.o (hx7.mem HY.o.1) (hx7.mem HX.o.1) Jn (t:=ti-1) hsum.1 (by have:=HI.o.2;have:=fP l ⟨.pr o xi,none,1⟩;omega) hsum.2;obtain⟨t1,hti1⟩:=ay (ti-1);rw[hti1]at xK hG4;have xZ:=ak hG4;rw[aaT.o,eZ hx7 HX.o.1,HX.o.2.1]at xK;have HPP7:=ak xK;have htb:=HY.o.2.2.2.2;have lw:wrap64 ((ti:Int)-1)=(t1:Int):=by unfold wrap64;omega
   have lw3:(ti:Int)-1=(t1:Int):=by omega
   clear hrest hsum Jn hG4 xK Tg hk7 htt;go_wp2_with fail
   clear b0 b1 b2' b3 hgt lw lw3;refine HPP7.o.mono ?_;rintro e w8 ⟨E8,v8,rfl,hm8,hk8,hx8⟩;have Pk:=Pk.kb hk8 aaS;obtain⟨b0,b1,b2',b3,-⟩:=Pk.all;have HM8:=ak hm8;have HNY8:aA (num E8 y=iy):=ak (by rw[eZ hx8 (hx7.mem HY.o.1)];exact aaT.o);obtain⟨oa,ob,ok,ot,hoi⟩:=HM8.o.od.YJ;obtain⟨o0,o1,o2,o3,o4⟩:=hoi.all;have YK:=o4 0;have YL:=o4 1;have YM:=o4 2;have YN:=o4 3;have hR:=HM8.o.put HB.o (hx8.mem (hx7.mem HY.o.1));rw[HNY8.o,HY.o.2.2.1]at hR;have HR:=ak hR;clear o4 hoi hR;go_wp2_with fail
   go_roundw
   case rel=>exact⟨v8,E8,_,some y,i+1,rfl,rfl,by first|rfl|go_num,by have:=HI.o.1;omega,HR.o,xZ.o,by have:=HI.o.2;have:=fP l ⟨.pr o xi,none,1⟩;have:=fP (bO l ⟨.pr o xi,none,1⟩) ⟨.pr y xi,none,t1⟩;omega⟩
   case measure=>have:=HI.o.1;simp[intOf];omega
  have hbk:((ko:Int)==(kx:Int))=false:=agh.2 (by have:=HX.o.2.2;omega);have hbk':¬(ko:Int)=(kx:Int):=by have:=HX.o.2.2;omega
  have hbk2:((ko:Int) !=(kx:Int))=true:=by unfold bne;rw[hbk];rfl
  have hrest:step n ((some o).toList++aH (s.mid.drop i))=List.replicate 1 o++step n ((none:Option Sy).toList++aH (s.mid.drop i)):=Xq HT.o HST.o HIT.o hke;have hsum:=uL.sum hG pY.o.2 hrest;have hG2:=uL.push hG (af7 1) hrest;have zQ:=kZ.o.push HB.o EM (by have:=HI.o.2;omega) hsum.2;rw[Dp,hko]at zQ;have Hl:=ak zQ;clear hoi EM Dp hko Ls o4 hke hrest hsum zQ hG;go_wp2_with fail
  clear DW hz hs z0 z1 z2 z3 Jh Ji GY Jj m0 m1 m2 m3 o0 o1 o2 o3 b0 b1 b2' b3 hbk hbk' hbk2 Wq Ph Pj;refine Hl.o.mono ?_;rintro e w5 ⟨v5,rfl,zR,hk5⟩;obtain⟨a5,c5,k5,t5,hi5⟩:=zR.od.YJ;obtain⟨p0,-,-,-,p4⟩:=hi5.all;have fp0:=p4 0;obtain⟨w6,dH⟩:=ay (w5.setCell ⟨gb,0,none⟩ (.int .i64 0));have vG:=zR.clr HB.o;rw[dH]at vG;have Pg:=ak vG;have Pk:ng w6 g9 ix iy kx ti:=by
   have q:=nY.o.kb hk5 HN9.o;rw[<-dH];exact aI (aK w5 ⟨gb,0,none⟩ _) q HGZ.o
  obtain⟨b0,b1,b2',b3,-⟩:=Pk.all;replace b1:w6.cell? ⟨g9,1,none⟩=some (.int .i64 iy):=b1;replace b3:w6.cell? ⟨g9,3,none⟩=some (.int .i64 ti):=b3;have Le:aA (iW w6 pa B g):=ak (fV.o.kp Pg.o.m.gw.kp (by have:=uq.o;omega));have hG:=hG2;clear zR hk5 hi5 p4 vG Pk hG2;obtain⟨ob,ok,ot,hoi⟩:=Pg.o.od;obtain⟨o0,o1,o2,o3,o4⟩:=hoi.all;replace o0:w6.cell? ⟨gb,0,none⟩=some (.int .i64 0):=o0;have YK:=o4 0;have YL:=o4 1;have YM:=o4 2;have YN:=o4 3;have hrest:step n ((none:Option Sy).toList++aH (s.mid.drop i))=List.replicate ti (.pr xi y)++step n (aH (s.mid.drop (i+1))):=Xr HT.o HST.o HIT.o rfl;have hsum:=uL.sum hG pY.o.2 hrest;have Jn:Sy.pr xi y∈F:=lN.o _ (uL.mem hG (by rw[hrest];exact ahd _ (aiI.2 ⟨by have:=HY.o.2.2.2.1;omega,rfl⟩)));have hG3:=uL.push hG HY.o.2.2.2.1 hrest;have qJ:=ak hG3;have xK:=Pg.o.pair HB.o Le.o HX.o.1 HY.o.1 Jn (t:=ti) HY.o.2.2.2.2 (by have:=HI.o.2;have:=fP l ⟨o,none,1⟩;omega) hsum.2;rw[HX.o.2.1,HY.o.2.1]at xK;have Wi:=ak xK;clear o4 hoi hrest hsum Jn hG3 hG xK;go_wp2_with fail
  clear o0 o1 o2 o3 YK YL YM YN p0 fp0 dH b0 b1 b2' b3;refine Wi.o.mono ?_;rintro e w7 ⟨E7,v7,rfl,Tg,-,-⟩;have Ti:=ak Tg;clear Tg;go_wp2_with fail
  go_roundw
  case rel=>exact⟨v7,E7,_,none,i+1,rfl,rfl,by first|rfl|go_num,by have:=HI.o.1;omega,Ti.o,qJ.o,by have:=HI.o.2;have:=fP l ⟨o,none,1⟩;have:=fP (bO l ⟨o,none,1⟩) ⟨.pr xi y,none,ti⟩;omega⟩
  case measure=>have:=HI.o.1;simp[intOf];omega
 have Wl:i=L:=by omega
 have l1:¬(i:Int)<(L:Int):=by omega
 have hnil:∀r:List Sy,r.length<=1->step n (r++aH (s.mid.drop i))=r:=λr hr=>Vf (by have:=HL.o;omega) n r hr;rcases od with _|o
 .obtain⟨ob,ok,ot,hoi⟩:=hM.od;obtain⟨o0,-,-,-,-⟩:=hoi.all;replace o0:wr.cell? ⟨gb,0,none⟩=some (.int .i64 0):=o0;have hR:MgT n0 B most g F E W lo sb pa s cs vL vR vM (step n (aH s.mid)) (.returned (.tuple #[lv,.nilIface])) wr:=⟨E1,lv,l,rfl,by rw[G5.o];exact hM.m,by have:=hG.eq;rw[hnil _ (by decide)]at this;rw[this];show _=aH l++[];rw[agi],hG.JX⟩;have HR:=ak hR;clear hi hM hG hl Gj Wl hnil hoi hR;go_wp2_with fail
  exact af_ (v:=.tuple #[lv,.nilIface]) (by simp[results,Tryz.results189,go_sem]) rfl HR.o
 obtain⟨hoi,EM⟩:=hM.od;obtain⟨io,Dp⟩:=ay (num E1 o);obtain⟨ko,hko⟩:=ay (key o);rw[Dp,hko]at hoi;obtain⟨o0,o1,o2,o3,o4⟩:=hoi.all;replace o1:wr.cell? ⟨gb,1,none⟩=some (.int .i64 0):=o1;replace o3:wr.cell? ⟨gb,3,none⟩=some (.int .i64 1):=o3;have Ls:0<io:=by rw[<-Dp];exact(aS EM).1
 have Wq:((io:Int)==(0:Int))=false:=agh.2 (by omega);have Ph:¬(io:Int)=0:=by omega
 have Pj:((io:Int) !=(0:Int))=true:=by unfold bne;rw[Wq];rfl
 have hrest:step n ((some o).toList++aH (s.mid.drop i))=List.replicate 1 o++[]:=hnil [o] (af7 1);have hsum:=uL.sum hG pY.o.2 hrest;have HG2:=ak (uL.push hG (af7 1) hrest);have zQ:=hM.push HB.o EM (by have:=pY.o.1;have:=HL.o;omega) hsum.2;rw[Dp,hko]at zQ;have Hl:=ak zQ;clear hi hM hG hl Gj Wl hnil hoi EM Dp hko Ls hrest hsum zQ o4;go_wp2_with fail
 clear o0 o1 o2 o3;refine Hl.o.mono ?_;rintro e w5 ⟨v5,rfl,zR,-⟩;have hR:MgT n0 B most g F E W lo sb pa s cs vL vR vM (step n (aH s.mid)) (.returned (.tuple #[v5,.nilIface])) w5:=⟨E1,v5,_,rfl,by rw[G5.o];exact zR.m,by have:=HG2.o.eq;rw[agi]at this;exact this.symm,HG2.o.JX⟩;have HR:=ak hR;clear zR hR;go_wp2_with fail
 exact af_ (v:=.tuple #[v5,.nilIface]) (by simp[results,Tryz.results189,go_sem]) rfl HR.o
end M
end
end Go.Proofs.YtgbhohfabhilgaaGreatDoor
