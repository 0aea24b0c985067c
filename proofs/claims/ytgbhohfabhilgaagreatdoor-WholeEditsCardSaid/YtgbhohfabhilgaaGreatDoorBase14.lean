import Derived.Test.YtgbhohfabhilgaaGreatDoorBase13
set_option maxRecDepth 100000
set_option maxHeartbeats 8000000
set_option linter.unusedVariables false
set_option linter.unusedSimpArgs false
namespace Go.Proofs.YtgbhohfabhilgaaGreatDoor
section
open Go.RowKit Go.Lib
namespace M
attribute [local go_sem] Oper.semAt_some
variable{l os:List Nat}{B D M b0 b9 i j most n0:Nat}{v:Value}{A C W:World}
def gF(n:Nat):List Value:=[.int .i64 (n:Int)]
theorem bX(n:Nat):(gF n).length=1:=rfl
abbrev P6(B:Nat)(W:World)(v:Value)(l:List Nat):Prop:=aP B W 3 1 gF v l
abbrev Ids(B:Nat)(W:World)(v:Value)(l:List Nat):Prop:=aP B W 27 1 gF v l
theorem KY:Elem Tryz.prog 23 3 1 8:=gP Tryz.underlying23 (z:=.int .i64 0) (by kernel_rfl) rfl (by decide) (by decide)
theorem elemId:Elem Tryz.prog 30 27 1 8:=gP Tryz.underlying30 (z:=.int .i64 0) (by kernel_rfl) rfl (by decide) (by decide)
theorem qB{e:TypeId}(h:aP B W e 1 gF v l)(hi:i<l.length):∃g cap,v=.slice (some ⟨g,0,none⟩) l.length cap/\W.cell? ⟨g,i,none⟩=some (.int .i64 (l[i]:Int)):=by
 rcases h.shape with⟨-,rfl⟩|⟨g,cap,rfl,h1,h2⟩
 .simp at hi
 .have:=aP.cell bX h hi (j:=0) (by omega)
  rw[ag3,ahC]at this
  exact⟨g,cap,rfl,this⟩
theorem IL{α:Type}(w:World)(e:TypeId)(enc:α->List Value)(c:Nat)(hc:c<=maxLen):aP w.heap.size (w.alloc (.cells (madeCells #[Value.int .i64 0] c) e)) e 1 enc (.slice (some ⟨w.heap.size,0,none⟩) 0 c) []:=by
 have:=World.ownsRow_made w (madeCells #[Value.int .i64 0] c) c (e:=e) (base:=w.heap.size) (size:=1) (by omega) hc (by rw[size_madeCells,ag3])
 simpa[aP]using this
theorem RF(hj:j<l.length):(l.take (j+1)).sum=(l.take j).sum+l[j]:=by
 rw[ah7 hj,List.sum_append];simp
theorem ZV(l:List Nat)(j:Nat):(l.take j).sum<=l.sum:=by
 conv=>rhs;rw[<-ahr j l,List.sum_append]
 omega
theorem Vp(h:P6 B W v l)(hl:l.length<=1000000)(hs:l.sum<=1152921504606846976):
    Calls Tryz.prog 112 #[v] W λe w'=>e=.returned (.tuple #[.int .i64 (l.sum:Nat),.nilIface])/\w'=W:=by
 obtain⟨a0,c0,rfl⟩:=h.len
 have H:=ak h;have uh:=ak hs
 clear h hs
 go_enter Tryz.func112,Tryz.ntmps112
 go_wp2_with fail
 go_loop [4,11] (λu c=>∃j:Nat,j<=l.length/\c=.int .i64 j/\u=.int .i64 ((l.take j).sum:Nat)) (λ_ c=>l.length-(intOf c).toNat)
 case atStart=>exact⟨0,agb _,rfl,rfl⟩
 case round=>
  obtain⟨j,hj,rfl,rfl⟩:=hrel
  by_cases hlt:j<l.length
  .have hlt2:(j:Int)<(l.length:Int):=by omega
   obtain⟨g,cap,e1,k0⟩:=qB H.o hlt
   simp only[agn]at e1
   obtain⟨rfl,-,rfl⟩:=e1
   have iI:=ak hlt
   have hst:=RF hlt
   have hle:=ZV l (j+1)
   have hm:=uh.o
   generalize l[j]'hlt=x at k0 hst
   obtain⟨q,hq⟩:=ay ((l.take j).sum)
   rw[hq]at hst⊢
   obtain⟨q2,hq2⟩:=ay (q+x)
   have HAD:=ak (λw=>lD w (a:=q) (b:=x) (by omega) (by omega))
   rw[hq2]at HAD hst
   simp only[af5 (show q2<=1152921504606846976 by omega)]at HAD
   have HQ:=ak hst
   clear hst hle hm hq hq2
   go_wp2_with fail
   refine(HAD.o W).mono ?_;rintro e w ⟨rfl,h⟩;rw[h];clear h w
   go_wp2_with fail
   go_round
   case rel=>exact⟨j+1,iI.o,by go_num,by rw[HQ.o]⟩
   case measure=>have:=iI.o;simp[intOf];omega
  .obtain rfl:j=l.length:=by omega
   go_wp2_with fail
   go_ret2
   exact⟨rfl,rfl⟩
def qP(os:List Nat)(j:Nat):Nat:=if j=0 then 0 else os.getD (j-1) 0
def Aa(os:List Nat)(len j:Nat):Nat:=os.getD j len
def Eu(t:List Nat)(os:List Nat)(j:Nat):List Nat:=(t.drop (qP os j)).take (Aa os t.length j-qP os j)
theorem Ev(os:List Nat)(h:j<os.length):qP os (j+1)=os[j]:=by
 unfold qP
 rw[af4 (by omega),ahU,ah8,agt h];rfl
theorem MU(os:List Nat)(len:Nat)(h:j<os.length):Aa os len j=os[j]:=by
 unfold Aa
 rw[ah8,agt h];rfl
theorem IP(os:List Nat)(len:Nat)(h:os.length<=j):Aa os len j=len:=by
 unfold Aa
 rw[ah8,List.getElem?_eq_none h];rfl
def MV(os:List Nat)(len:Nat):Prop:=∀j (h:j<os.length),qP os j<=os[j]/\os[j]<=len
theorem MV.at{len:Nat}(h:MV os len)(hj:j<=os.length):qP os j<=Aa os len j/\Aa os len j<=len:=by
 by_cases hlt:j<os.length
 .rw[MU os len hlt];exact h j hlt
 .rw[IP os len (by omega)]
  refine⟨?_,af7 _⟩
  unfold qP
  split
  .omega
  .have hp:j-1<os.length:=by omega
   rw[ah8,agt hp]
   exact(h _ hp).2
theorem Kt.then(h:Kt b9 W A)(hb:Below W.heap.size A C):Kt b9 W C:=by
 refine⟨λt h1 h2 k cs fz e=>?_,λv hv=>?_,λk es c e hne=>?_⟩
 .rw[hb.block k (aga.1 e).1];exact h.cells t h1 h2 k cs fz e
 .obtain⟨cs,fz,e1,e2⟩:=h.map v hv
  obtain⟨_,_,e3,_⟩:=hv
  exact⟨cs,fz,by rw[hb.block b9 (aga.1 e3).1];exact e1,e2⟩
 .rw[hb.block k (aga.1 e).1];exact h.others k es c e hne
theorem Kt.lX(h:Kt b9 A C){t:TypeId}(h1:t≠140)(h2:t≠136):jd t A C:=λk cs fz e=>h.cells t h1 h2 k cs fz e
def acK(n0 B most k:Nat)(E:List En)(W:World)(t os:List Nat)(e:Ending)(w':World):Prop:=
 ∃E' ids v',e=.returned (.tuple #[v',.nilIface])/\aW n0 w' B most E'/\iE E'/\Ext E E'/\E'.length<=E.length+k/\Ids W.heap.size w' v' ids/\ids.length=os.length+1/\(∀j (h:j<ids.length),fT E' ids[j] (Eu t os j))/\Below n0 W w'/\Kt B W w'
theorem Vq(hD:GZ D M){E:List En}{t:List Nat}(hs:aW n0 W B most E)(hwf:iE E)(hb:fT E i t)(hM:t.length<=M)(hv:P6 b0 W v os)(hos:MV os t.length)(hn:os.length<=1000)
    (hroom:E.length+(os.length+1)*bZ D<=most) (hE:E.length+(os.length+1)*bZ D<=1048576):
    Calls Tryz.prog 70 #[.pointer (some ⟨B,0,none⟩),.int .i64 i,v] W (acK n0 B most ((os.length+1)*bZ D) E W t os):=by
 have hE':E.length<=1048576:=by omega
 have hn0:=hs.lt
 have pG:=hD.2
 obtain⟨va,vc,rfl⟩:=hv.len
 have Dr:=ak (Ca hs hwf hb hE')
 have HS:=ak hs;have gW:=ak hwf;have HB:=ak hb;have HV:=ak hv;have P7:=ak hos;have gJ:=ak hn0
 have jU:=ak (And.intro hM (And.intro hroom (And.intro hE hn)))
 obtain⟨tl,htl⟩:=ay (t.length)
 have KZ:=ak htl
 rw[htl]at Dr
 have htb:tl<=1152921504606846976:=by omega
 clear hs hwf hb hv hos hM hroom hE hE' hn0 pG htl
 go_enter Tryz.func70,Tryz.ntmps70
 go_wp2_with fail
 refine Dr.o.mono ?_;rintro e w1 ⟨rfl,b1⟩
 have B1:=ak b1;clear b1
 go_wp2_with fail
 go_loop [10,30] (λu c=>∃j:Nat,j<=os.length/\c=.int .i64 j/\u=.int .i64 (qP os j:Nat)) (λ_ c=>os.length-(intOf c).toNat)
 case atStart=>exact⟨0,agb _,rfl,rfl⟩
 case round=>
  obtain⟨j,hj,rfl,rfl⟩:=hrel
  by_cases hlt:j<os.length
  .have hlt2:(j:Int)<(os.length:Int):=by omega
   obtain⟨g,cap,e1,k0⟩:=qB (aP.below HV.o B1.o) hlt
   simp only[agn]at e1
   obtain⟨rfl,-,rfl⟩:=e1
   have hok:=P7.o j hlt
   rw[KZ.o]at hok
   have hnx:=Ev os hlt
   have kH:=ak hnx
   have iI:=ak hlt
   clear hnx
   obtain⟨x,hx⟩:=ay (os[j]'hlt)
   generalize os[j]'hlt=y at *
   generalize hq:qP os j=q at *
   clear hq hx
   have h1:¬(y:Int)<(q:Int):=by omega
   have h2:¬(y:Int)>(tl:Int):=by omega
   have h3:¬y<q:=by omega
   have h4:¬tl<y:=by omega
   go_wp2_with fail
   go_round
   case rel=>exact⟨j+1,iI.o,by go_num,by rw[kH.o]⟩
   case measure=>have:=iI.o;simp[intOf];omega
  .obtain rfl:j=os.length:=by omega
   have hmk:∀w,(Instr.makeSlice 30 (.int .i64 0) (.int .i64 ((os.length:Int)+1))).run Tryz.prog w=.ok (.slice (some ⟨w.heap.size,0,none⟩) 0 (os.length+1)) (w.alloc (.cells (madeCells #[Value.int .i64 0] (os.length+1)) 27)):=λw=>by
    have:=Ba (P:=Tryz.prog) (w:=w) Tryz.underlying30 (e:=27) (z:=.int .i64 0) (size:=1) (bytes:=8) (by kernel_rfl) 0 (os.length+1) (by omega) (by omega) (by omega)
    rw[ag3,Int.natCast_add]at this
    exact this
   obtain⟨w2,hw2⟩:=ay (w1.alloc (.cells (madeCells #[Value.int .i64 0] (os.length+1)) 27))
   have b2:Below w1.heap.size w1 w2:=by rw[<-hw2];exact(af6 _ _).alloc (af7 _) _
   have s2:Ids w1.heap.size w2 (.slice (some ⟨w1.heap.size,0,none⟩) 0 (os.length+1)) []:=by rw[<-hw2];exact IL w1 _ _ _ (by unfold maxLen;omega)
   have B2:=ak (Below.after B1.o b2)
   have S2:aA (Ids W.heap.size w2 (.slice (some ⟨w1.heap.size,0,none⟩) 0 (os.length+1)) []):=ak (s2.mono B1.o.size)
   clear b2 s2
   go_wp2_with fail
   clear hmk hw2
   go_loopw [13,14,15] (λp u c wr=>∃(j:Nat) (E1:List En) (ids:List Nat),j<=os.length+1/\c=.int .i64 j/\(∃z:Nat,u=.int .i64 z/\(j<=os.length->z=qP os j))/\Ids W.heap.size wr p ids/\ids.length=j/\aW n0 wr B most E1/\iE E1/\Ext E E1/\E1.length<=E.length+j*bZ D/\(∀q (h:q<ids.length),fT E1 ids[q] (Eu t os q))/\Below n0 W wr/\Kt B W wr) (λ_ _ c _=>os.length+1-(intOf c).toNat)
   case atStart=>exact⟨0,E,[],agb _,rfl,⟨0,rfl,λ_=>rfl⟩,S2.o,rfl,HS.o.below B2.o,gW.o,Ext.refl _,by omega,λq h=>by simp at h,B2.o.mono gJ.o,Kt.of B2.o⟩
   case round=>
    obtain⟨j,E1,ids,hj,rfl,⟨z,rfl,hz⟩,hI,hil,hs1,oH,hx1,hn1,hbs,hbw,hkt⟩:=hrel
    obtain⟨pa,pc,hpv⟩:=hI.len
    rw[hil]at hpv
    subst hpv
    by_cases hlt:j<=os.length
    .have hlt2:(j:Int)<=(os.length:Int):=by omega
     obtain rfl:=hz hlt
     have hcut:=P7.o.at hlt
     rw[KZ.o]at hcut
     have hx0:=hx1
     have hbi:=HB.o.ext hx1
     have hmul:(j+1)*bZ D<=(os.length+1)*bZ D:=agY _ (by omega)
     have hsucc:(j+1)*bZ D=j*bZ D+bZ D:=ag6 _ _
     have hnn:=jU.o
     have hlo:W.heap.size<=wr.heap.size:=hbw.size
     have Vr:=ak (II hD hs1 oH hbi (f:=qP os j) (n:=Aa os tl j-qP os j) (by rw[KZ.o];omega) hnn.1 (by omega) (by omega))
     rw[show(t.drop (qP os j)).take (Aa os tl j-qP os j)=Eu t os j by unfold Eu;rw[KZ.o]]at Vr
     have HR:=ak (And.intro hI (And.intro hil (And.intro hx1 (And.intro hn1 (And.intro hbs (And.intro hbw (And.intro hkt (And.intro hsucc hlo))))))))
     have hsub:IntKind.i64.wrap (((Aa os tl j:Nat):Int)-((qP os j:Nat):Int))=((Aa os tl j-qP os j:Nat):Int):=by rw[agd];omega
     by_cases hlt3:j<os.length
     case' _=>
      have acL:(j:Int)<(os.length:Int):=by omega
      obtain⟨g,cap,e1,k0⟩:=qB (aP.keep HV.o (hkt.lX (by decide) (by decide))) hlt3
      simp only[agn]at e1
      obtain⟨rfl,-,rfl⟩:=e1
      have hce:=MU os tl hlt3
      have kH:=ak (Ev os hlt3)
      have HJ:=ak hlt3
      rw[<-hce]at k0 kH
      generalize Aa os tl j=ce at *
      generalize qP os j=cb at *
      generalize ce-cb=cn at *
      clear hI hil hs1 oH hx1 hn1 hbs hbw hkt hcut hbi hmul hsucc hnn hlo hce hx0
     rotate_left
     case' _=>
      have acL:¬(j:Int)<(os.length:Int):=by omega
      have Xm:j=os.length:=by omega
      have hce:=IP os tl (show os.length<=j by omega)
      have HJ:=ak Xm
      rw[hce]at Vr hsub hcut
      generalize qP os j=cb at *
      generalize tl-cb=cn at *
      clear hI hil hs1 oH hx1 hn1 hbs hbw hkt hcut hbi hmul hsucc hnn hlo hce hx0 Xm
     rotate_left
     all_goals
      go_wp2_with fail
      refine Vr.o.mono ?_
      rintro e w3 ⟨E3,i3,rfl,s3,f3,x3,n3,MW,bb3,FQ⟩
      have AO:=ak s3
      have hI3:Ids W.heap.size w3 (.slice pa j pc) ids:=HR.o.1.keep (FQ.lX (by decide) (by decide))
      have HI3:=ak hI3
      have IQ:=ak (And.intro f3 (And.intro x3 (And.intro n3 (And.intro MW (And.intro bb3 FQ)))))
      have hi3:ids.length+1<=2000:=by have:=HR.o.2.1;have:=HJ.o;omega
      have hlo3:W.heap.size<=w3.heap.size:=af9 HR.o.2.2.2.2.2.2.2.2 bb3.size
      clear s3 f3 x3 n3 MW bb3 FQ hI3
      go_wp2_with (first
       | (at_builtin;refine bP (v:=.slice pa j pc) elemId bX rfl _ _ rfl rfl HI3.o i3 rfl rfl ?c1 ?c2 hlo3 ?_))
      case c1=>simp[gF,Value.oneCell']
      case c2=>omega
      intro v4 w4 Xv hg4 hb4
      have lU:=ak Xv
      have ZW:=ak (AO.o.app' HI3.o hg4 (by decide) (by decide))
      have cB:=ak hb4
     .clear Xv hg4 hb4 k0
      go_wp2_with fail
      go_roundw
      case rel=>
       obtain⟨r1,r2,r3,r4,r5,r6,r7,r8,r9⟩:=HR.o
       obtain⟨f3,x3,n3,MW,bb3,FQ⟩:=IQ.o
       refine⟨j+1,E3,ids++[i3],by have:=HJ.o;omega,by go_num,⟨_,rfl,λ_=>kH.o.symm⟩,lU.o,by simp[r2],ZW.o,f3,r3.trans x3,by omega,λq h=>?_,r6.trans (bb3.trans (cB.o.mono gJ.o)),(r7.trans FQ).then cB.o⟩
       by_cases hq:q<ids.length
       .rw[ajk hq];exact(r5 q hq).ext x3
       .have hqe:q=ids.length:=by simp at h;omega
        subst hqe
        rw[ah_ (af7 _)]
        simp only[aiz,ajq]
        rw[r2];exact MW
      case measure=>have:=HJ.o;simp[intOf];omega
     .clear Xv hg4 hb4
      go_wp2_with fail
      go_roundw
      case rel=>
       obtain⟨r1,r2,r3,r4,r5,r6,r7,r8,r9⟩:=HR.o
       obtain⟨f3,x3,n3,MW,bb3,FQ⟩:=IQ.o
       refine⟨j+1,E3,ids++[i3],by have:=HJ.o;omega,by go_num,⟨_,rfl,λh=>absurd h (by have:=HJ.o;omega)⟩,lU.o,by simp[r2],ZW.o,f3,r3.trans x3,by omega,λq h=>?_,r6.trans (bb3.trans (cB.o.mono gJ.o)),(r7.trans FQ).then cB.o⟩
       by_cases hq:q<ids.length
       .rw[ajk hq];exact(r5 q hq).ext x3
       .have hqe:q=ids.length:=by simp at h;omega
        subst hqe
        rw[ah_ (af7 _)]
        simp only[aiz,ajq]
        rw[r2];exact MW
      case measure=>have:=HJ.o;simp[intOf];omega
    .obtain rfl:j=os.length+1:=by omega
     have hlt2:¬((os.length+1:Nat):Int)<=(os.length:Int):=by omega
     have mh:aA (acK n0 B most ((os.length+1)*bZ D) E W t os (.returned (.tuple #[.slice pa (os.length+1) pc,.nilIface])) wr):=ak ⟨E1,ids,_,rfl,hs1,oH,hx1,hn1,hI,hil,hbs,hbw,hkt⟩
     clear hI hil hs1 oH hx1 hn1 hbs hbw hkt hz hj
     go_wp2_with fail
     go_ret2
     exact mh.o
def Wv(E:List En)(ids:List Nat)(ts:List (List Nat)):Prop:=ids.length=ts.length/\∀j (h:j<ids.length) (h2:j<ts.length),fT E ids[j] ts[j]
def Gq(ts:List (List Nat)):List Nat:=ts.map List.length
theorem Jr:∀(ts:List (List Nat)),(Gq ts).sum=ts.flatten.length
 | []=>rfl
 |t::ts=>by
  have:=Jr ts
  unfold Gq at this⊢
  rw[ag8,List.sum_cons,this,ahW,af8]
theorem Pt{ts:List (List Nat)}(h:j<ts.length):Gq (ts.take (j+1))=Gq (ts.take j)++[ts[j].length]:=by
 unfold Gq
 rw[ah7 h,ag2];rfl
theorem Pv{ts:List (List Nat)}(h:j<ts.length):(ts.take (j+1)).flatten=(ts.take j).flatten++ts[j]:=by
 rw[ah7 h,ais];simp
theorem Wx(ts:List (List Nat))(j:Nat):(ts.take j).flatten.length<=ts.flatten.length:=by
 conv=>rhs;rw[<-ahr j ts,ais,af8]
 omega
theorem CG(hD:GZ D M){E:List En}{ids:List Nat}{ts:List (List Nat)}(hs:aW n0 W B most E)(hwf:iE E)(hv:Ids b0 W v ids)(hb:Wv E ids ts)(hM:ts.flatten.length<=M)(hn:ids.length<=1000)
    (hroom:E.length+ids.length*(3*D+1)<=most) (hE:E.length+ids.length*(3*D+1)<=1048576):
    Calls Tryz.prog 71 #[.pointer (some ⟨B,0,none⟩),v] W (uH n0 B most (ids.length*(3*D+1)) E W ts.flatten):=by
 have hE':E.length<=1048576:=by omega
 have hn0:=hs.lt
 have pG:=hD.2
 obtain⟨va,vc,rfl⟩:=hv.len
 have HS:=ak hs;have gW:=ak hwf;have HB:=ak hb;have HV:=ak hv;have gJ:=ak hn0
 have jU:=ak (And.intro hM (And.intro hroom (And.intro hE (And.intro pG hE'))))
 clear hs hwf hb hv hM hroom hE hE' hn0 pG
 have hmk:∀w,(Instr.makeSlice 23 (.int .i64 0) (.int .i64 (ids.length:Int))).run Tryz.prog w=.ok (.slice (some ⟨w.heap.size,0,none⟩) 0 ids.length) (w.alloc (.cells (madeCells #[Value.int .i64 0] ids.length) 3)):=λw=>by
  have:=Ba (P:=Tryz.prog) (w:=w) Tryz.underlying23 (e:=3) (z:=.int .i64 0) (size:=1) (bytes:=8) (by kernel_rfl) 0 ids.length (by omega) (by omega) (by omega)
  rw[ag3]at this
  exact this
 obtain⟨w2,hw2⟩:=ay (W.alloc (.cells (madeCells #[Value.int .i64 0] ids.length) 3))
 have b2:Below W.heap.size W w2:=by rw[<-hw2];exact(af6 _ _).alloc (af7 _) _
 have s2:P6 W.heap.size w2 (.slice (some ⟨W.heap.size,0,none⟩) 0 ids.length) []:=by rw[<-hw2];exact IL W _ _ _ (by unfold maxLen;omega)
 have B2:=ak b2
 have S2:=ak s2
 clear b2 s2
 go_enter Tryz.func71,Tryz.ntmps71
 go_wp2_with fail
 clear hmk hw2
 go_loopw [6,27] (λp c wr=>∃j:Nat,j<=ids.length/\c=.int .i64 j/\P6 W.heap.size wr p (Gq (ts.take j))/\Below W.heap.size W wr) (λ_ c _=>ids.length-(intOf c).toNat)
 case atStart=>exact⟨0,agb _,rfl,S2.o,B2.o⟩
 case round=>
  obtain⟨j,hj,rfl,hI,hbw⟩:=hrel
  obtain⟨pa,pc,hpv⟩:=hI.len
  have hll:(Gq (ts.take j)).length=j:=by unfold Gq;rw[agM,agB];have:=HB.o.1;omega
  rw[hll]at hpv
  subst hpv
  have vk:=ak hbw;have HI:=ak hI;have H6:=ak hll
  clear hbw hI hll
  by_cases hlt:j<ids.length
  .have hlt2:(j:Int)<(ids.length:Int):=by omega
   have iI:=ak hlt
   obtain⟨g,cap,e1,k0⟩:=qB (aP.below HV.o vk.o) hlt
   simp only[agn]at e1
   obtain⟨rfl,-,rfl⟩:=e1
   have hjt:j<ts.length:=by have:=HB.o.1;omega
   have uo:=HB.o.2 j hlt hjt
   have Uu:=ak (Pt hjt)
   have Un:=ak (qy (HS.o.below vk.o) uo.le jU.o.2.2.2.2)
   rw[uo.even]at Un
   have Oi:=ak (λw (hw:Below wr.heap.size wr w)=>dS ((HS.o.below vk.o).below hw) uo.le jU.o.2.2.2.2)
   have hwl:=(uo.len gW.o).2
   obtain⟨uw,huw⟩:=ay ((aF E (ids[j]'hlt)).w)
   rw[huw]at Oi hwl
   unfold wK at Oi
   have HWL:=ak hwl
   generalize ids[j]'hlt=id at *
   clear uo hwl huw
   go_wp2_with fail
   refine Un.o.mono ?_;rintro e w3 ⟨rfl,b3⟩
   have B3:=ak b3;clear b3
   go_wp2_with fail
   refine(Oi.o w3 B3.o).mono ?_;rintro e w4 ⟨rfl,b4⟩
   obtain⟨wz,w5,hz,hs1,kw,bw,⟨p0,p1,p2,p3,p4,p5⟩,q0,q1,q2,q3,q4,q5⟩:=kE w4 uw
   obtain⟨gc,hgc⟩:=ay (w4.heap.size)
   rw[hgc]at hs1 kw p0 p1 p2 p3 p4 p5 q0 q1 q2 q3 q4 q5
   obtain⟨x0,x1,x2,x3,x4,x5⟩:=kw.cells
   have mG:=ak (Below.after B3.o (Below.after b4 bw));have KU:=ak kw
   have OP:=ak (aP.below HI.o mG.o)
   have aa0:W.heap.size<=w5.heap.size:=af9 vk.o.size mG.o.size
   have hl5:(Gq (ts.take j)).length+1<=2000:=by rw[H6.o];omega
   clear b4 kw bw
   rw[HWL.o]at x0
   go_wp2_with (first
    | (at_builtin;refine bP (v:=.slice pa j pc) KY bX rfl _ _ rfl rfl OP.o (ts[j]'(by have:=HB.o.1;have:=iI.o;omega)).length rfl rfl ?c1 ?c2 aa0 ?_))
   case c1=>simp[gF,Value.oneCell']
   case c2=>omega
   intro v6 w6 G7 lu hb6
   have xX:=ak G7
   have zH:=ak ((vk.o.trans (mG.o.mono vk.o.size)).trans hb6)
   clear G7 lu hb6 k0 hz hs1 p0 p1 p2 p3 p4 p5 q0 q1 q2 q3 q4 q5 x0 x1 x2 x3 x4 x5 hgc
   go_wp2_with fail
   go_roundw
   case rel=>exact⟨j+1,iI.o,by go_num,by rw[Uu.o];exact xX.o,zH.o⟩
   case measure=>have:=iI.o;simp[intOf];omega
  .obtain rfl:j=ids.length:=by omega
   have htk:ts.take ids.length=ts:=by rw[HB.o.1,ahe]
   have hsum:=Jr ts
   have jr:=ak (Vp HI.o (by rw[H6.o];omega) (by rw[htk,hsum];have:=jU.o;omega))
   clear htk hsum
   go_wp2_with fail
   refine jr.o.mono ?_;rintro e w ⟨rfl,h⟩;rw[h];clear h w
   go_wp2_with fail
   go_loopw [14,68] (λr c w=>∃(k:Nat) (E1:List En) (i:Nat),k<=ids.length/\c=.int .i64 k/\r=.int .i64 i/\aW n0 w B most E1/\iE E1/\Ext E E1/\E1.length<=E.length+k*(3*D+1)/\fT E1 i (ts.take k).flatten/\Below n0 W w/\Kt B W w) (λ_ c _=>ids.length-(intOf c).toNat)
   case atStart=>exact⟨0,E,0,agb _,rfl,rfl,HS.o.below vk.o,gW.o,Ext.refl _,by omega,⟨agb _,by rw[cZ];simp,rfl⟩,vk.o.mono gJ.o,Kt.of vk.o⟩
   case round=>
    obtain⟨k,E1,i,hk,rfl,rfl,hs1,oH,hx1,hn1,hbl,hbw,hkt⟩:=hrel
    by_cases hlt3:k<ids.length
    .have acL:(k:Int)<(ids.length:Int):=by omega
     obtain⟨g,cap,e1,k0⟩:=qB (aP.keep HV.o (hkt.lX (by decide) (by decide))) hlt3
     simp only[agn]at e1
     obtain⟨rfl,-,rfl⟩:=e1
     have aa1:k<ts.length:=by have:=HB.o.1;omega
     have hbk:=(HB.o.2 k hlt3 aa1).ext hx1
     have hft:=Pv aa1
     have hfl:=Wx ts (k+1)
     rw[hft,af8]at hfl
     have hnn:=jU.o
     have hmul:(k+1)*(3*D+1)<=ids.length*(3*D+1):=agY _ (by omega)
     have hsucc:(k+1)*(3*D+1)=k*(3*D+1)+(3*D+1):=ag6 _ _
     have HJ:=ak (l8 hD hs1 oH hbl hbk (by omega) (by omega) (by omega))
     rw[<-hft]at HJ
     have HR:=ak (And.intro hlt3 (And.intro hx1 (And.intro hn1 (And.intro hbw (And.intro hkt hsucc)))))
     generalize ids[k]'hlt3=id at *
     clear hs1 oH hx1 hn1 hbl hbw hkt hbk hft hfl hnn hmul hsucc aa1
     go_wp2_with fail
     refine HJ.o.mono ?_
     rintro e w3 ⟨E3,i3,rfl,s3,f3,x3,n3,MW,bb3,FQ⟩
     have IQ:=ak (And.intro s3 (And.intro f3 (And.intro x3 (And.intro n3 (And.intro MW (And.intro bb3 FQ))))))
     clear s3 f3 x3 n3 MW bb3 FQ k0
     go_wp2_with fail
     go_roundw
     case rel=>
      obtain⟨r1,r2,r3,r4,r5,r6⟩:=HR.o
      obtain⟨s3,f3,x3,n3,MW,bb3,FQ⟩:=IQ.o
      exact⟨k+1,E3,i3,r1,by go_num,rfl,s3,f3,r2.trans x3,by omega,MW,r4.trans bb3,r5.trans FQ⟩
     case measure=>have:=HR.o.1;simp[intOf];omega
    .obtain rfl:k=ids.length:=by omega
     have htk:ts.take ids.length=ts:=by rw[HB.o.1,ahe]
     rw[htk]at hbl
     have mh:aA (uH n0 B most (ids.length*(3*D+1)) E W ts.flatten (.returned (.tuple #[.int .i64 (i:Nat),.nilIface])) wr):=ak ⟨E1,i,rfl,hs1,oH,hx1,hn1,hbl,hbw,hkt⟩
     clear hs1 oH hx1 hn1 hbl hbw hkt htk
     go_wp2_with fail
     go_ret2
     exact mh.o
end M
end
section
open Go.RowKit
namespace M
theorem gG{len last:Int}{c:bH}{L:List bH}(h:bC len last (c::L)=true):last<c.pos/\0<=c.n/\c.pos+c.n<=len/\0<=c.pos/\bC len (c.pos+c.n) L=true/\0<=len:=by
 simp only[bC,eQ,agy,ahV,ahQ]at h
 obtain⟨⟨⟨h3,h4⟩,-⟩,h5⟩:=h
 obtain⟨g,-,a,b,e,f⟩:=dJ.1 h3
 exact⟨by omega,b,by omega,a,h5,g⟩
def cO(E:List En)(t:List Nat):Nat->List bH->List Nat
 |f,[]=>t.drop f
 |f,c::L=>(t.drop f).take (c.pos.toNat-f)++(txt E c.id++cO E t (c.pos+c.n).toNat L)
def nC:List bH->List Nat
 | []=>[]
 |c::L=>c.pos.toNat::(c.pos+c.n).toNat::nC L
def vJ(E:List En)(t:List Nat):Nat->List bH->List (List Nat)
 |f,[]=>[t.drop f]
 |f,c::L=>(t.drop f).take (c.pos.toNat-f)::txt E c.id::vJ E t (c.pos+c.n).toNat L
theorem EO(E:List En)(t:List Nat):∀(L:List bH) (f:Nat),(vJ E t f L).flatten=cO E t f L
 | [],f=>by simp[vJ,cO]
 |c::L,f=>by
  show((t.drop f).take (c.pos.toNat-f)::txt E c.id::vJ E t (c.pos+c.n).toNat L).flatten=_
  rw[ahW,ahW,EO E t L];rfl
theorem sF:∀L:List bH,(nC L).length=2*L.length
 | []=>rfl
 |c::L=>by show(nC L).length+1+1=_;rw[sF L,agc];omega
theorem Jt(E:List En)(t:List Nat):∀(L:List bH) (f:Nat),(vJ E t f L).length=2*L.length+1
 | [],_=>rfl
 |c::L,f=>by show(vJ E t (c.pos+c.n).toNat L).length+1+1=_;rw[Jt E t L,agc];omega
def zS(t:List Nat)(f:Nat)(os:List Nat)(j:Nat):List Nat:=(t.drop (if j=0 then f else os.getD (j-1) 0)).take (os.getD j t.length-(if j=0 then f else os.getD (j-1) 0))
theorem LB(t os:List Nat)(j:Nat):zS t 0 os j=Eu t os j:=rfl
theorem Pw(t:List Nat)(f a b:Nat)(os:List Nat)(j:Nat):zS t f (a::b::os) (j+2)=zS t b os j:=by
 unfold zS
 rw[af4 (by omega)]
 cases j with
 |zero=>simp
 |succ j=>simp
theorem EP(E:List En)(t:List Nat):∀(L:List bH) (f i:Nat),i<=L.length->(vJ E t f L)[2*i]?=some (zS t f (nC L) (2*i))
 | [],f,i,h=>by
  simp at h;subst h
  simp[vJ,zS,nC,agI]
 |c::L,f,0,_=>by simp[vJ,zS,nC]
 |c::L,f,i+1,h=>by
  show(vJ E t f (c::L))[2*i+2]?=some (zS t f (c.pos.toNat::(c.pos+c.n).toNat::nC L) (2*i+2))
  rw[Pw]
  show((t.drop f).take (c.pos.toNat-f)::txt E c.id::vJ E t (c.pos+c.n).toNat L)[2*i+2]?=_
  rw[agF,agF]
  exact EP E t L _ i (by simpa using h)
theorem Ju(E:List En)(t:List Nat):∀(L:List bH) (f i:Nat) (h:i<L.length),(vJ E t f L)[2*i+1]?=some (txt E L[i].id)
 |c::L,f,0,_=>by simp[vJ]
 |c::L,f,i+1,h=>by
  show((t.drop f).take (c.pos.toNat-f)::txt E c.id::vJ E t (c.pos+c.n).toNat L)[2*i+1+2]?=_
  rw[agF,agF]
  exact Ju E t L _ i (by simpa using h)
theorem CJ{E E2:List En}(hx:Ext E E2)(t:List Nat):∀(L:List bH) (f:Nat),(∀c∈L,c.id<=E.length)->cO E2 t f L=cO E t f L
 | [],_,_=>rfl
 |c::L,f,h=>by
  show _++(txt E2 c.id++cO E2 t _ L)=_++(txt E c.id++cO E t _ L)
  rw[hx.txt (h c (by simp)),CJ hx t L _ (λd hd=>h d (by simp[hd]))]
theorem pO{E:List En}{t:List Nat}:∀(L:List bH) (last:Int) (f:Nat),bC t.length last L=true->(f:Int)<=last+1->f<=t.length->((cO E t f L).length:Int)=t.length-f-fZ L+dN E L
 | [],last,f,_,_,h=>by
  show((t.drop f).length:Int)=_
  rw[agp]
  simp only[fZ,dN];omega
 |c::L,last,f,h,hf,hft=>by
  obtain⟨g1,g2,g3,g4,g5,g6⟩:=gG h
  have ih:=pO (E:=E) (t:=t) L (c.pos+c.n) (c.pos+c.n).toNat g5 (by omega) (by omega)
  show(((t.drop f).take (c.pos.toNat-f)++(txt E c.id++cO E t (c.pos+c.n).toNat L)).length:Int)=_
  rw[af8,af8,agB,agp]
  have e1:fZ (c::L)=c.n+fZ L:=rfl
  have e2:dN E (c::L)=(txt E c.id).length+dN E L:=rfl
  rw[e1,e2]
  omega
end M
end
section
open Go.RowKit Go.Lib
namespace M
attribute [local go_sem] Oper.semAt_some
variable{E:List En}{ids qV t:List Nat}{L:List bH}{B b0 i most n0:Nat}{v:Value}{W:World}
theorem aa3(w:World)(i:Nat):mg w.heap.size (w.alloc (.cells #[.int .i64 0,.int .i64 0,.int .i64 (i:Int)] 107)) (.slice (some ⟨w.heap.size,0,none⟩) 1 1) [⟨0,0,i⟩]:=
 aP.lit (l:=[(⟨0,0,i⟩:bH)]) iV rfl (by unfold maxLen;simp)
theorem zT(hs:aW n0 W B most E)(hwf:iE E)(hE:E.length<=1048576)(hb:fT E i t)(hC:mg b0 W v L)(hT:zZ E L)(OC:L.length<=1000000):
    Calls Tryz.prog 69 #[.pointer (some ⟨B,0,none⟩),.int .i64 i,v] W λe w'=>e=.returned (.tuple #[.int .i64 (gK E t.length L).1,lS (gK E t.length L).2])/\Below W.heap.size W w':=by
 have HW:=ak (dS hs hb.le hE)
 have hwl:=(hb.len hwf).2
 obtain⟨u,hu⟩:=ay ((aF E i).w)
 rw[hu]at HW hwl
 unfold wK at HW
 have ZR:aA (∀w,Below W.heap.size W w->Calls Tryz.prog 109 #[.pointer (some ⟨B,0,none⟩),.slice (some ⟨w.heap.size,0,none⟩) 1 1] (w.alloc (.cells #[.int .i64 0,.int .i64 0,.int .i64 (i:Int)] 107)) λe w'=>e=.returned .nilIface/\Below (w.alloc (.cells #[.int .i64 0,.int .i64 0,.int .i64 (i:Int)] 107)).heap.size (w.alloc (.cells #[.int .i64 0,.int .i64 0,.int .i64 (i:Int)] 107)) w'):=ak (λw hw=>
  uI ((hs.below hw).below ((af6 _ _).alloc (af7 _) _)) hE (aa3 w i) (λc hc=>by simp at hc;subst hc;exact⟨hb.le,hb.even⟩) (by simp))
 have uq:=ak (λw (hw:Below W.heap.size W w)=>rR (hs.below hw) hwf.wf hE (hC.below hw) hT OC (t.length:Int))
 obtain⟨va,vc,rfl⟩:=hC.len
 obtain⟨⟨lv,lc⟩,hlv⟩:∃r,gK E t.length L=r:=⟨_,rfl⟩
 rw[hlv]at uq⊢
 dsimp only at uq⊢
 have HWL:=ak hwl
 clear hs hwf hb hC hT hlv hu hwl
 go_enter Tryz.func69,Tryz.ntmps69
 go_wp2_with fail
 refine HW.o.mono ?_;rintro e w1 ⟨rfl,b1⟩
 obtain⟨wz,w2,hz,hs1,kw,bw,⟨p0,p1,p2,p3,p4,p5⟩,q0,q1,q2,q3,q4,q5⟩:=kE w1 u
 obtain⟨gc,hgc⟩:=ay (w1.heap.size)
 rw[hgc]at hs1 kw p0 p1 p2 p3 p4 p5 q0 q1 q2 q3 q4 q5
 have B2:=ak (Below.after b1 bw);have KW:=ak kw
 clear b1 kw bw
 go_wp2_with fail
 clear hz hs1 p0 p1 p2 p3 p4 p5 q0 q1 q2 q3 q4 q5 hgc
 refine(ZR.o w2 B2.o).mono ?_;rintro e w3 ⟨rfl,b3⟩
 have b23:Below w2.heap.size w2 w3:=Below.step ((af6 _ _).alloc (af7 _) _) b3
 have B3:=ak (Below.after B2.o b23)
 have KW3:=ak (show dz w3 gc u from au b23 KW.o)
 obtain⟨x0,x1,x2,x3,x4,x5⟩:=KW3.o.cells
 rw[HWL.o]at x0
 clear b3 b23
 go_wp2_with fail
 refine(uq.o w3 B3.o).mono ?_;rintro e w4 ⟨rfl,b4⟩
 have B4:=ak (Below.after B3.o b4)
 clear b4 x0 x1 x2 x3 x4 x5
 go_wp2_with fail
 go_ret2
 exact⟨rfl,B4.o⟩
def zU(z:Int):List Value:=[.int .i64 z]
theorem ER(z:Int):(zU z).length=1:=rfl
theorem Px(z:Int):∀u∈zU z,u.oneCell'=true:=by simp[zU,Value.oneCell']
def zi:List bH->List Int
 | []=>[]
 |c::L=>c.pos::(c.pos+c.n)::zi L
theorem ES:∀(L:List bH) (c:bH),zi (L++[c])=zi L++[c.pos,c.pos+c.n]
 | [],_=>rfl
 |d::L,c=>by show d.pos::(d.pos+d.n)::zi (L++[c])=_;rw[ES L c];rfl
theorem CK:∀L:List bH,(zi L).length=2*L.length
 | []=>rfl
 |c::L=>by show(zi L).length+1+1=_;rw[CK L,agc];omega
theorem Nw:∀{L:List bH},(∀c∈L,0<=c.pos/\0<=c.n)->(zi L).flatMap zU=(nC L).flatMap gF
 | [],_=>rfl
 |c::L,h=>by
  have h1:=h c (by simp)
  have ih:=Nw (L:=L) (λd hd=>h d (by simp[hd]))
  show[Value.int .i64 c.pos]++([Value.int .i64 (c.pos+c.n)]++(zi L).flatMap zU)=[Value.int .i64 (c.pos.toNat:Int)]++([Value.int .i64 ((c.pos+c.n).toNat:Int)]++(nC L).flatMap gF)
  rw[ih,show((c.pos.toNat:Nat):Int)=c.pos by omega,show(((c.pos+c.n).toNat:Nat):Int)=c.pos+c.n by omega]
theorem Ny{len:Nat}:∀(L:List bH) (last:Int) (f:Nat),bC len last L=true->(f:Int)<=last+1->f<=len->∀j (h:j<(nC L).length),(if j=0 then f else(nC L).getD (j-1) 0)<=(nC L)[j]/\(nC L)[j]<=len
 |c::L,last,f,h,hf,hfl,0,_=>by
  obtain⟨g1,g2,g3,g4,g5,g6⟩:=gG h
  show f<=c.pos.toNat/\c.pos.toNat<=len
  omega
 |c::L,last,f,h,hf,hfl,1,_=>by
  obtain⟨g1,g2,g3,g4,g5,g6⟩:=gG h
  show c.pos.toNat<=(c.pos+c.n).toNat/\(c.pos+c.n).toNat<=len
  omega
 |c::L,last,f,h,hf,hfl,j+2,hj=>by
  obtain⟨g1,g2,g3,g4,g5,g6⟩:=gG h
  have ih:=Ny L (c.pos+c.n) (c.pos+c.n).toNat g5 (by omega) (by omega) j (by simpa[nC]using hj)
  show(if j+2=0 then f else(c.pos.toNat::(c.pos+c.n).toNat::nC L).getD (j+2-1) 0)<=(c.pos.toNat::(c.pos+c.n).toNat::nC L)[j+2]/\(c.pos.toNat::(c.pos+c.n).toNat::nC L)[j+2]<=len
  rw[af4 (by omega)]
  have e:(c.pos.toNat::(c.pos+c.n).toNat::nC L).getD (j+2-1) 0=if j=0 then(c.pos+c.n).toNat else(nC L).getD (j-1) 0:=by
   cases j with
   |zero=>simp
   |succ j=>simp
  rw[e]
  exact ih
def xM(L:List bH)(ids qV:List Nat)(j:Nat):Prop:=qV.length=ids.length/\∀q,qV[q]?=if q%2=1/\q/2<j then(L[q/2]?).map bH.id else ids[q]?
theorem xM.zero(L:List bH)(ids:List Nat):xM L ids ids 0:=⟨rfl,λq=>by rw[af4 (by omega)]⟩
theorem xM.step{j:Nat}(h:xM L ids qV j)(hj:j<L.length)(hl:2*j+1<ids.length):xM L ids (qV.set (2*j+1) L[j].id) (j+1):=by
 refine⟨by rw[agL];exact h.1,λq=>?_⟩
 rw[List.getElem?_set]
 by_cases hq:2*j+1=q
 .subst hq
  rw[af5 rfl,af5 (by rw[h.1];exact hl),af5 (by omega),show(2*j+1)/2=j by omega,agt hj]
  rfl
 .rw[af4 hq,h.2 q]
  by_cases h2:q%2=1/\q/2<j
  .rw[af5 h2,af5 (by omega)]
  .rw[af4 h2,af4 (by omega)]
theorem xM.Ig(h:xM L ids qV L.length)(hl:ids.length=(nC L).length+1)(hb:∀j (h:j<ids.length),fT E ids[j] (Eu t (nC L) j))(hT:zZ E L):Wv E qV (vJ E t 0 L):=by
 have hpl:=Jt E t L 0
 have hol:=sF L
 refine⟨by rw[h.1,hl,hpl];omega,λj h1 h2=>?_⟩
 have hj:=h.2 j
 rw[agt h1]at hj
 by_cases hjj:j%2=1
 .obtain⟨i,rfl⟩:∃i,j=2*i+1:=⟨j/2,by omega⟩
  have hi:i<L.length:=by omega
  rw[af5 (by omega),show(2*i+1)/2=i by omega,agt hi]at hj
  simp only[Option.map_some,agG]at hj
  have hp:=Ju E t L 0 i hi
  rw[agt h2]at hp
  rw[hj,agQ hp]
  have:=hT L[i] (ag0 hi)
  exact⟨this.1,rfl,this.2⟩
 .obtain⟨i,rfl⟩:∃i,j=2*i:=⟨j/2,by omega⟩
  rw[af4 (by omega)]at hj
  have hlt:2*i<ids.length:=by rw[<-h.1];exact h1
  rw[agt hlt]at hj
  have hp:=EP E t L 0 i (by omega)
  rw[agt h2,LB]at hp
  rw[agQ hj,agQ hp]
  exact hb _ hlt
theorem aa4{g n cap:Nat}{e:TypeId}{l:List Nat}(h:aP B W e 1 gF (.slice (some ⟨g,0,none⟩) n cap) l)(i x:Nat):aP B (W.setCell ⟨g,i,none⟩ (.int .i64 (x:Int))) e 1 gF (.slice (some ⟨g,0,none⟩) n cap) (l.set i x):=by
 have hx:∀(l:List Nat) (i:Nat),(l.set i x).flatMap gF=(l.flatMap gF).set i (.int .i64 (x:Int)):=by
  intro l
  induction l with
  |nil=>intro i;rfl
  |cons a l ih=>
   intro i
   cases i with
   |zero=>rfl
   |succ i=>
    show gF a++(l.set i x).flatMap gF=(gF a++l.flatMap gF).set (i+1) _
    rw[ih];rfl
 unfold aP at h⊢
 rw[hx,agL]
 refine⟨by rw[agL];exact h.1,?_⟩
 rcases h.2 with⟨hv,_⟩|⟨g',cap',cur,hv,hg,hgb,h1,h2,h3,h4⟩
 .cases hv
 .cases hv
  refine .inr ⟨g,cap,cur.setIfInBounds i (.int .i64 (x:Int)),rfl,hg,aC _ hgb,h1,h2,by simpa using h3,?_⟩
  rw[ajh,akj,h4]
theorem aa5:Elem Tryz.prog 23 3 1 8:=gP Tryz.underlying23 (z:=.int .i64 0) (by kernel_rfl) rfl (by decide) (by decide)
def vN(D n:Nat):Nat:=(2*n+1)*bZ D+(2*n+1)*(3*D+1)
theorem zk{b9:Nat}{A C:World}(h:mg b0 A v L)(hk:Kt b9 A C):mg b0 C v L:=h.keep (hk.lX (by decide) (by decide))
def Tk(n0 B most k:Nat)(E:List En)(W:World)(t:List Nat)(L:List bH)(e:Ending)(w':World):Prop:=
 ((gK E t.length L).2≠0/\e=.returned (.tuple #[.int .i64 0,err (gK E t.length L).2])/\Below W.heap.size W w')\/((gK E t.length L).2=0/\uH n0 B most k E W (cO E t 0 L) e w')
theorem Py{D M:Nat}(hD:GZ D M)(hs:aW n0 W B most E)(hwf:iE E)(hb:fT E i t)(hC:mg b0 W v L)(hT:zZ E L)(OC:L.length<=100)(hM:t.length+dN E L<=M)
    (hroom:E.length+vN D L.length<=most) (hE:E.length+vN D L.length<=1048576):
    Calls Tryz.prog 25 #[.pointer (some ⟨B,0,none⟩),.int .i64 i,v] W (Tk n0 B most (vN D L.length) E W t L):=by
 have hE':E.length<=1048576:=by omega
 have hn0:=hs.lt
 have pG:=hD.2
 have Nz:=ak (zT hs hwf hE' hb hC hT (by omega))
 obtain⟨va,vc,rfl⟩:=hC.len
 have HS:=ak hs;have gW:=ak hwf;have HB:=ak hb;have HC:=ak hC;have HT:=ak hT;have gJ:=ak hn0
 have jU:=ak (And.intro hM (And.intro hroom (And.intro hE (And.intro pG OC))))
 obtain⟨⟨lv,lc⟩,hlv⟩:∃r,gK E t.length L=r:=⟨_,rfl⟩
 rw[hlv]at Nz
 dsimp only at Nz
 have zI:=ak hlv
 unfold Tk
 rw[hlv]
 dsimp only
 by_cases hc:lc=0
 rotate_left
 .have he:lS lc=.iface 116 (.int .i64 lc):=by unfold lS;rw[af4 hc];rfl
  have HC0:=ak hc
  rw[he]at Nz
  clear hs hwf hb hC hT hM hroom hE hE' hn0 pG hlv hc he
  go_enter Tryz.func25,Tryz.ntmps25
  go_wp2_with fail
  refine Nz.o.mono ?_;rintro e w1 ⟨rfl,b1⟩
  have B1:=ak b1;clear b1
  go_wp2_with fail
  go_ret2
  exact .inl ⟨HC0.o,rfl,B1.o⟩
 subst hc
 rw[show lS 0=.nilIface from rfl]at Nz
 have hok:=qA (E:=E) (len:=t.length) (L:=L) (by rw[hlv])
 have mF:=ak hok
 by_cases h0:L.length=0
 .have h0i:((L.length:Int)==0)=true:=by rw[h0];rfl
  have hL0:L=[]:=ahw h0
  have mh:aA (∀w,Below W.heap.size W w->uH n0 B most (vN D L.length) E W (cO E t 0 L) (.returned (.tuple #[.int .i64 (i:Nat),.nilIface])) w):=ak (λw hw=>⟨E,i,rfl,hs.below hw,hwf,Ext.refl _,by omega,by rw[hL0];show fT E i (t.drop 0);rw[agj];exact hb,hw.mono hn0,Kt.of hw⟩)
  generalize L.length=n at *
  clear hs hwf hb hC hT hM hroom hE hE' hn0 pG hlv hok h0 hL0
  go_enter Tryz.func25,Tryz.ntmps25
  go_wp2_with fail
  refine Nz.o.mono ?_;rintro e w1 ⟨rfl,b1⟩
  have B1:=ak b1;clear b1
  go_wp2_with fail
  go_ret2
  exact .inr ⟨by first|rfl|trivial,mh.o _ B1.o⟩
 have h0i:((L.length:Int)==0)=false:=agh.2 (by omega)
 have Gp:=ak (tO L (-1) hok.2.2.1)
 have hcut:MV (nC L) t.length:=λj h=>Ny L (-1) 0 hok.2.2.1 (by omega) (by omega) j h
 have HCT:=ak hcut
 have htl:t.length<=1152921504606846976:=by omega
 have KZ:=ak htl
 clear hs hwf hb hC hT hM hroom hE hE' hn0 pG hlv hok hcut htl
 go_enter Tryz.func25,Tryz.ntmps25
 go_wp2_with fail
 refine Nz.o.mono ?_;rintro e w1 ⟨rfl,b1⟩
 have B1:=ak b1;clear b1
 go_wp2_with fail
 go_loopw [10,33] (λp c wr=>∃j:Nat,j<=L.length/\c=.int .i64 j/\aP W.heap.size wr 3 1 zU p (zi (L.take j))/\Below W.heap.size W wr) (λ_ c _=>L.length-(intOf c).toNat)
 case atStart=>exact⟨0,agb _,rfl,aP.nil _ _ _ _ _,B1.o⟩
 case round=>
  obtain⟨j,hj,rfl,hI,hbw⟩:=hrel
  obtain⟨pa,pc,rfl⟩:=hI.len
  have hpl:(zi (L.take j)).length=2*j:=by rw[CK,agB];omega
  obtain⟨pn,hpn⟩:=ay ((zi (L.take j)).length)
  rw[hpn]at hpl
  rw[hpn]
  have Qc:=ak hpn
  have hI':aP W.heap.size wr 3 1 zU (.slice pa pn pc) (zi (L.take j)):=by rw[<-hpn];exact hI
  have vk:=ak hbw;have HI:=ak hI';have uq:=ak hpl
  clear hI hbw hpl hI' hpn
  by_cases hlt:j<L.length
  .have hlt2:(j:Int)<(L.length:Int):=by omega
   obtain⟨g,cap,e1,-,-,hcc⟩:=mg.at (HC.o.below vk.o) hlt
   simp only[agn]at e1
   obtain⟨rfl,-,rfl⟩:=e1
   obtain⟨m0,m1,m2⟩:=hcc wr (af6 _ _) j hlt
   have hmem:=Gp.o _ (ag0 hlt)
   have Pm:=ak (ES (L.take j) L[j])
   rw[<-kI hlt]at Pm
   have HJ:=ak hlt
   generalize L[j]=c at *
   have hpb:IntKind.i64.wrap (c.pos+c.n)=c.pos+c.n:=by rw[agd];have:=KZ.o;omega
   obtain⟨wz,w2,hz,hs1,kc,bw,⟨p0,p1,p2⟩,q0,q1,q2⟩:=xg wr c
   obtain⟨gc,hgc⟩:=ay (wr.heap.size)
   rw[hgc]at hs1 kc p0 p1 p2 q0 q1 q2
   obtain⟨x0,x1,x2⟩:=kc.cells
   have B2:=ak bw
   have HI2:=ak (HI.o.below bw)
   have hlo2:W.heap.size<=w2.heap.size:=af9 vk.o.size bw.size
   have hll:(zi (L.take j)).length+2<=2000:=by rw[Qc.o,uq.o];have:=jU.o;omega
   clear bw kc hcc
   have S3:aA (aP w2.heap.size (w2.alloc (.cells #[.int .i64 c.pos,.int .i64 (c.pos+c.n)] 3)) 3 1 zU (.slice (some ⟨w2.heap.size,0,none⟩) 2 2) [c.pos,c.pos+c.n]):=ak (aP.lit (l:=[c.pos,c.pos+c.n]) ER rfl (by unfold maxLen;simp))
   have hal:Below w2.heap.size w2 (w2.alloc (.cells #[.int .i64 c.pos,.int .i64 (c.pos+c.n)] 3)):=(af6 _ _).alloc (af7 _) _
   have HI3:=ak (HI2.o.below hal)
   have P8:=ak hal
   have hlo3:W.heap.size<=(w2.alloc (.cells #[.int .i64 c.pos,.int .i64 (c.pos+c.n)] 3)).heap.size:=af9 hlo2 hal.size
   clear hal
   go_wp2_with (first
    | (at_builtin;refine Wy (v:=.slice pa pn pc) (l2:=[c.pos,c.pos+c.n]) aa5 ER Px rfl _ _ rfl rfl HI3.o rfl rfl S3.o ?c2 hlo3 ?_))
   case c2=>simp only[agc,ahX];omega
   intro v4 w4 Xv hg4 hb4
   have lU:=ak Xv
   have cB:=ak (((vk.o.trans (B2.o.mono vk.o.size)).trans (P8.o.mono hlo2)).trans hb4)
   clear Xv hg4 hb4 hz hs1 p0 p1 p2 q0 q1 q2 x0 x1 x2 hgc m0 m1 m2 hlo3 hlo2 hll hmem
   go_wp2_with fail
   go_roundw
   case rel=>exact⟨j+1,HJ.o,by go_num,by rw[Pm.o];exact lU.o,cB.o⟩
   case measure=>have:=HJ.o;simp[intOf];omega
  .obtain rfl:j=L.length:=by omega
   have hos:P6 W.heap.size wr (.slice pa pn pc) (nC L):=by
    have h1:=HI.o
    rw[ahe]at h1
    have h2:=Nw (L:=L) (λc hc=>⟨(Gp.o c hc).1,(Gp.o c hc).2.1⟩)
    unfold P6
    unfold aP at h1⊢
    rw[h2,CK]at h1
    rw[sF]
    exact h1
   have hol:=sF L
   have hnn:=jU.o
   unfold vN at hnn
   have hk1:(2*L.length+1)*bZ D<=(2*L.length+1)*bZ D:=af7 _
   have afv:=ak (Vq hD (HS.o.below vk.o) gW.o HB.o (by omega) hos HCT.o (by omega) (by rw[hol];omega) (by rw[hol];omega))
   rw[hol]at afv
   clear hos hol hnn hk1
   go_wp2_with fail
   refine afv.o.mono ?_
   rintro e w5 ⟨E5,ids,v5,rfl,s5,f5,x5,n5,i5,il5,RA,MQ,MR⟩
   have WB:ids.length=2*L.length+1:=by rw[il5,sF]
   obtain⟨ia,ic,rfl⟩:=i5.len
   rw[WB]
   obtain⟨q5,hq5⟩:=ay (wr.heap.size)
   obtain⟨nl,hnl⟩:=ay (2*L.length+1)
   have HX5:=ak (And.intro s5 (And.intro f5 (And.intro x5 (And.intro n5 (And.intro il5 RA)))))
   have M_:=ak WB
   have HW5:aA (Below n0 W w5/\Kt B W w5/\W.heap.size<=q5):=ak ⟨(vk.o.mono gJ.o).trans MQ,(Kt.of vk.o).trans MR,by rw[<-hq5];exact vk.o.size⟩
   have hi5:=i5
   rw[WB,hq5,hnl]at hi5
   rw[hnl]
   have OP:=ak hi5
   have HNL:=ak hnl
   clear s5 f5 x5 n5 i5 il5 RA MQ MR WB hi5 hq5 hnl
   go_wp2_with fail
   go_loopw [60] (λc w=>∃(k:Nat) (qV:List Nat),k<=L.length/\c=.int .i64 k/\Ids q5 w (.slice ia nl ic) qV/\xM L ids qV k/\aW n0 w B most E5/\Below n0 W w/\Kt B W w) (λc _=>L.length-(intOf c).toNat)
   case atStart=>exact⟨0,ids,agb _,rfl,OP.o,xM.zero _ _,HX5.o.1,HW5.o.1,HW5.o.2.1⟩
   case round=>
    obtain⟨k,qV,hk,rfl,hI6,hst,hs6,hb6,Tn⟩:=hrel
    have hlen':qV.length=nl:=by rw[hst.1,M_.o,HNL.o]
    by_cases WC:k<L.length
    .have hlt7:(k:Int)<(L.length:Int):=by omega
     obtain⟨g,cap,e1,-,-,hcc⟩:=mg.at (zk HC.o Tn) WC
     simp only[agn]at e1
     obtain⟨rfl,-,rfl⟩:=e1
     obtain⟨m0,m1,m2⟩:=hcc wr (af6 _ _) k WC
     have hnl:=HNL.o
     obtain⟨ga,gcap,e2,-⟩:=qB hI6 (show 2*k+1<qV.length by omega)
     rw[hlen']at e2
     simp only[agn]at e2
     obtain⟨rfl,-,rfl⟩:=e2
     have HJ:=ak WC
     have HST:=ak (hst.step WC (by rw[M_.o];omega))
     have hk100:k<100:=by have:=jU.o;omega
     generalize L[k]=c at *
     obtain⟨wz,w2,hz,hs1,kc,bw,⟨p0,p1,p2⟩,z0,z1,z2⟩:=xg wr c
     obtain⟨gc,hgc⟩:=ay (wr.heap.size)
     rw[hgc]at hs1 kc p0 p1 p2 z0 z1 z2
     obtain⟨x0,x1,x2⟩:=kc.cells
     have FY:=hI6.below bw
     obtain⟨cur,hown,hqg⟩:∃cur,w2.heap[ga]?=some (.cells cur 27 (0,0))/\q5<=ga:=by
      rcases FY.2 with⟨hv,_⟩|⟨g',cap',cur,hv,hg,hgb,_⟩
      .cases hv
      .cases hv;exact⟨cur,hgb,hg⟩
     obtain⟨g3,cap3,e3,y0⟩:=qB FY (show 2*k+1<qV.length by omega)
     rw[hlen']at e3
     simp only[agn,agG,ahp,ajf,aht]at e3
     obtain⟨rfl,rfl⟩:=e3
     have fz:w2.frozen? ⟨ga,2*k+1,none⟩=false:=by simp[World.frozen?,hown]
     obtain⟨w3,hw3⟩:=ay (w2.setCell ⟨ga,2*k+1,none⟩ (.int .i64 (c.id:Int)))
     have V8:aA (Ids q5 w3 (.slice (some ⟨ga,0,none⟩) nl ic) (qV.set (2*k+1) c.id)):=ak (by rw[<-hw3];exact aa4 FY (2*k+1) c.id)
     have Tp:aA (aW n0 w3 B most E5):=ak (by rw[<-hw3];exact(hs6.below bw).set' hown (by decide) (by decide) _)
     have hbb:Below W.heap.size wr w3:=by rw[<-hw3];exact(bw.mono hb6.size).setCell (p:=⟨ga,2*k+1,none⟩) (af9 HW5.o.2.2 hqg) _
     have Q5:=ak (hb6.trans (hbb.mono gJ.o))
     have HK8:=ak (Tn.then hbb)
     have hidx:IntKind.i64.wrap (2*(k:Int))=((2*k:Nat):Int):=by rw[agd];omega
     have hidx2:IntKind.i64.wrap (((2*k:Nat):Int)+1)=((2*k+1:Nat):Int):=by rw[agd];omega
     have hnn2:((2*k+1:Nat):Int)<(nl:Int):=by omega
     generalize(qV[2*k+1]'(by omega))=oldv at y0
     generalize hm1:2*k+1=m at *
     generalize hm2:2*k=mm at *
     clear hm1 hm2 hI6 hst hs6 hb6 Tn FY bw kc hown hqg hbb hcc hnl hlen' hk
     go_wp2_with fail
     go_roundw
     case rel=>exact⟨k+1,_,HJ.o,by go_num,V8.o,HST.o,Tp.o,Q5.o,HK8.o⟩
     case measure=>have:=HJ.o;simp[intOf];omega
    .obtain rfl:k=L.length:=by omega
     have hx5:=HX5.o
     have hT5:zZ E5 L:=λc hc=>by
      have h1:=HT.o c hc
      exact⟨af9 h1.1 hx5.2.2.1.le,by rw[hx5.2.2.1.ent h1.1];exact h1.2⟩
     have uo:=hst.Ig (t:=t) hx5.2.2.2.2.1 hx5.2.2.2.2.2 hT5
     have hpe:=CJ hx5.2.2.1 t L 0 (λc hc=>(HT.o c hc).1)
     have hfl:=EO E5 t L 0
     rw[hpe]at hfl
     have hok:=mF.o
     have hpl:=pO (E:=E) (t:=t) L (-1) 0 hok.2.2.1 (by omega) (by omega)
     have hdl:=yF (by omega) hok.2.2.1
     have hnn:=jU.o
     unfold vN at hnn
     have hnl:=HNL.o
     have UA:=ak (CG hD hs6 hx5.2.1 hI6 uo (by rw[hfl];omega) (by omega) (by rw[hlen',<-hnl];omega) (by rw[hlen',<-hnl];omega))
     rw[hfl]at UA
     have jZ:aA (∀e w,uH n0 B most (qV.length*(3*D+1)) E5 wr (cO E t 0 L) e w->uH n0 B most (vN D L.length) E W (cO E t 0 L) e w):=ak (λe w hj=>hj.after (k1:=(2*L.length+1)*bZ D) rfl hx5.2.2.1 hx5.2.2.2.1 (by rw[hlen',<-hnl];exact af7 _) hb6 Tn)
     clear hI6 hst hs6 hb6 Tn hlen' hx5 hT5 uo hpe hfl hok hpl hdl hnn hnl hk
     go_wp2_with fail
     refine UA.o.mono ?_
     intro e w8 hj
     obtain⟨i8,rfl⟩:=hj.ret
     have HZ:=ak (jZ.o _ _ hj)
     clear hj
     go_wp2_with fail
     go_ret2
     exact .inr ⟨by first|rfl|trivial,HZ.o⟩
end M
end
end Go.Proofs.YtgbhohfabhilgaaGreatDoor
