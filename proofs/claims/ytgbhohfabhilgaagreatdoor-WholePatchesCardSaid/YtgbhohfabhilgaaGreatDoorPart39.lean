import Derived.Test.YtgbhohfabhilgaaGreatDoorPart06
import Derived.Test.YtgbhohfabhilgaaGreatDoorPart38
import Derived.Test.YtgbhohfabhilgaaGreatDoorRows
set_option maxRecDepth 100000
set_option maxHeartbeats 8000000
set_option linter.unusedVariables false
set_option linter.unusedSimpArgs false
namespace Go.Proofs.YtgbhohfabhilgaaGreatDoor
section
open Go.RowKit Go.Lib
namespace M
def Kd(A C:World):Prop:=∀t:TypeId,t∉Du->t≠155->∀(k:Nat) (cs:Array Value) (fz:Nat×Nat),A.heap[k]?=some (.cells cs t fz)->C.heap[k]?=some (.cells cs t fz)
theorem Kd.trans{A C D:World}(h:Kd A C)(k:Kd C D):Kd A D:=λt a b i cs fz e=>k t a b i cs fz (h t a b i cs fz e)
theorem Kd.kt{B:Nat}{A C:World}(h:Kt B A C):Kd A C:=λt a _ k cs fz e=>h.cells t (λq=>a (by rw[q];decide)) (λq=>a (by rw[q];decide)) k cs fz e
theorem Kd.ktp{B:Nat}{A C:World}(h:Ka B A C):Kd A C:=λt a b k cs fz e=>h.cells t (λq=>a (by rw[q];decide)) (λq=>a (by rw[q];decide)) b k cs fz e
theorem Kd.km{B:Nat}{A C:World}(h:Km B (λq=>A.heap.size<=q) A C):Kd A C:=λt a _ k cs fz e=>h.cells t a k (λq=>by have:=(aga.1 e).1;omega) cs fz e
theorem Kd.of{A C:World}(h:Below A.heap.size A C):Kd A C:=Kd.kt (B:=0) (Kt.of h)
theorem Kd.Am{b0:Nat}{A C:World}{v:Value}{L:List bH}(hk:Kd A C)(h:mg b0 A v L):mg b0 C v L:=aP.keep h (λk cs fz e=>hk _ (by decide) (by decide) k cs fz e)
structure mM(n0 B g pa mb kb k:Nat)(E E':List En)(W w':World):Prop where
 dk:jO n0 w' B g pa mb kb E'
 ext:Ext E E'
 few:E'.length<=E.length+k
 Dx:Below n0 W w'
 kd:Kd W w'
section
variable {n0 B g pa mb kb:Nat} {E:List En} {W:World}
theorem mM.trans{k1 k2:Nat}{E2 E3:List En}{w2 w3:World}(h:mM n0 B g pa mb kb k1 E E2 W w2)(k:mM n0 B g pa mb kb k2 E2 E3 w2 w3):mM n0 B g pa mb kb (k1+k2) E E3 W w3:=
 ⟨k.dk,h.ext.trans k.ext,by have:=h.few;have:=k.few;omega,h.Dx.trans k.Dx,h.kd.trans k.kd⟩
theorem mM.of{w:World}(h:jO n0 W B g pa mb kb E)(hb:Below W.heap.size W w):mM n0 B g pa mb kb 0 E E W w:=⟨h.below hb,Ext.refl _,af7 _,hb.mono h.st.lt,.of hb⟩
theorem mM.mono{k1 k2:Nat}{E2:List En}{w2:World}(h:mM n0 B g pa mb kb k1 E E2 W w2)(hk:k1<=k2):mM n0 B g pa mb kb k2 E E2 W w2:=⟨h.dk,h.ext,af9 h.few (by omega),h.Dx,h.kd⟩
theorem Zb:GZ 13 900:=⟨by decide,by decide⟩
theorem abq:GZ 13 960:=⟨by decide,by decide⟩
theorem GR:bZ 13=1080:=rfl
theorem abr:80*(bZ 13+(3*13+1))=89600:=rfl
theorem pU(h:jO n0 W B g pa mb kb E){i:Nat}{t:List Nat}(hb:fT E i t){b0:Nat}{v:Value}{L:List bH}(hC:mg b0 W v L)(hT:zZ E L)(hL:L.length<=80)(hf:bC t.length (-1) L=true)(ht:t.length<=600)(hr:t.length+(cO E t 0 L).length<=720\/t.length+dN E L<=900){k:Nat}(hk:vN 13 L.length<=k)(hE:E.length+k<=1048575):
    Calls Tryz.prog 25 #[.pointer (some ⟨B,0,none⟩),.int .i64 i,v] W λe w'=>∃E' j,e=.returned (.tuple #[vI j,.nilIface])/\mM n0 B g pa mb kb k E E' W w'/\fT E' j (cO E t 0 L):=by
 have hpl:=pO (E:=E) (t:=t) L (-1) 0 hf (by omega) (agb _)
 have hdl:=yF (len:=(t.length:Int)) (by omega) hf
 have hr':t.length+dN E L<=900:=by
  rcases hr with q|q
  .omega
  .exact q
 have hlg:=A8 (E:=E) (t:=t) (by unfold dX;omega) hf (by unfold dX;omega)
 refine(Py Zb h.st h.wf hb hC hT (by omega) (by omega) (by omega) (by omega)).mono ?_
 rintro e w' (⟨q,-⟩|⟨-,E',j,rfl,s',f',x',n',b',bb,kk⟩)
 .rw[hlg]at q;exact absurd rfl q
 .exact⟨E',j,rfl,⟨h.kt' s' f' x' kk bb,x',by omega,bb,.kt kk⟩,b'⟩
theorem zC(h:jO n0 W B g pa mb kb E){i:Nat}{t:List Nat}(hb:fT E i t){b0:Nat}{v:Value}{L:List bH}(hC:mg b0 W v L)(hT:zZ E L)(hL:L.length<=80)(hf:bC t.length (-1) L=true)(ht:t.length<=600)(hr:(cO E t 0 L).length<=600){k:Nat}(hk:L.length*bZ 13<=k)(hE:E.length+k<=1048575):
    Calls Tryz.prog 29 #[.pointer (some ⟨B,0,none⟩),.int .i64 i,v] W λe w'=>∃E' R v',e=.returned (.tuple #[v',.nilIface])/\mM n0 B g pa mb kb k E E' W w'/\mg W.heap.size w' v' R/\iT E' t 0 L R:=by
 have hlg:=A8 (E:=E) (t:=t) (by unfold dX;omega) hf (by unfold dX;omega)
 refine(LH Zb h.st h.wf hb hC hT (by omega) (by omega) (by omega) (by omega)).mono ?_
 rintro e w' (⟨q,-⟩|⟨-,E',R,v',rfl,s',f',x',n',c',i',bb,kk⟩)
 .rw[hlg]at q;exact absurd rfl q
 .exact⟨E',R,v',rfl,⟨h.kt' s' f' x' kk bb,x',by omega,bb,.kt kk⟩,c',i'⟩
theorem PV{D Mx:Nat}(hD:GZ D Mx){n0 B most bp bq len k:Nat}{W:World}{E:List En}(hs:aW n0 W B most E)(hwf:iE E){vp vq:Value}{p q:List bH}(Y6:mg bp W vp p)(Y7:zZ E p)(hLp:p.length<=12)(Y8:mg bq W vq q)(Y9:zZ E q)(hLq:q.length<=12){n nl:Int}(hp:gK E len p=(n,0))(hq:gK E n q=(nl,0))
    (hM:dN E p+dN E q<=Mx) (WR:40<=Mx) (htp:∀c∈p++q,(txt E c.id).length<=40) (hk:80*(bZ D+(3*D+1))=k) (hroom:E.length+k<=most) (hE:E.length+k<=1048576):
    Calls Tryz.prog 26 #[.pointer (some ⟨B,0,none⟩),.int .i64 (len:Nat),vp,vq] W (abe n0 B most k E W len p q):=by
 subst hk
 exact JH hD hs hwf Y6 Y7 hLp Y8 Y9 hLq hp hq hM WR htp hroom hE
theorem Dl(h:jO n0 W B g pa mb kb E){t:List Nat}{bp bq:Nat}{vp vq:Value}{p q:List bH}(Y6:mg bp W vp p)(Y8:mg bq W vq q)(Y7:zZ E p)(Y9:zZ E q)(hp12:p.length<=12)(hq12:q.length<=12)(hpt:∀c∈p++q,(txt E c.id).length<=40)(ht:t.length<=600)(hfp:bC t.length (-1) p=true)(hfq:bC (cO E t 0 p).length (-1) q=true)(hr1:(cO E t 0 p).length<=600)(hr2:(cO E (cO E t 0 p) 0 q).length<=600)(hE:E.length+89600<=1048575){len:Nat}(hlen:t.length=len):
    Calls Tryz.prog 26 #[.pointer (some ⟨B,0,none⟩),.int .i64 (len:Nat),vp,vq] W λe w'=>∃E' M v',e=.returned (.tuple #[v',.nilIface])/\mM n0 B g pa mb kb 89600 E E' W w'/\mg W.heap.size w' v' M/\M.length<=80/\zZ E' M/\bC t.length (-1) M=true/\cO E' t 0 M=cO E (cO E t 0 p) 0 q:=by
 have hlp:=A8 (E:=E) (t:=t) (by unfold dX;omega) hfp (by unfold dX;omega)
 have hlq:=A8 (E:=E) (t:=cO E t 0 p) (by unfold dX;omega) hfq (by unfold dX;omega)
 have hi1:=xU E p 40 (λc hc=>hpt c (ahd _ hc))
 have hi2:=xU E q 40 (λc hc=>hpt c (aiE _ hc))
 have hE1:E.length+89600<=1048576:=by omega
 have hMx:dN E p+dN E q<=960:=by omega
 have afY:∀d∈p,d.id<=E.length:=λd hd=>(Y7 d hd).1
 have afZ:∀d∈q,d.id<=E.length:=λd hd=>(Y9 d hd).1
 subst hlen
 refine(PV (D:=13) (Mx:=960) (k:=89600) abq h.st h.wf Y6 Y7 hp12 Y8 Y9 hq12 hlp hlq hMx (by omega) hpt abr hE1 hE1).mono ?_
 rintro e w' ⟨E',M,l,v',rfl,s',f',x',n',c',hex,hps,TM,hres,hM,bb,kk⟩
 have hp8:gK E' (t.length:Int) p=((((cO E t 0 p).length:Nat):Int),0):=by rw[JO x' afY];exact hlp
 have hq8:gK E' ((cO E t 0 p).length:Int) q=((((cO E (cO E t 0 p) 0 q).length:Nat):Int),0):=by rw[JO x' afZ];exact hlq
 have hi:∀c:bH,c.id<=E.length->fF E' c=fF E c:=λc h=>by unfold fF;rw[x'.txt h]
 have hcg:∀{α:Type} {i1 i2:bH->List α} {s:List α} (L:List bH) (f:Nat),(∀c∈L,i1 c=i2 c)->iA i1 s f L=iA i2 s f L:=by
  intro α i1 i2 s L
  induction L with
  |nil=>intro f _;rfl
  |cons c L ih=>
   intro f h
   show(s.drop f).take (c.pos.toNat-f)++(i1 c++iA i1 s (c.pos+c.n).toNat L)=(s.drop f).take (c.pos.toNat-f)++(i2 c++iA i2 s (c.pos+c.n).toNat L)
   rw[h c (by simp),ih _ (λd hd=>h d (by simp[hd]))]
 have hbx:nG E' t.length p q=nG E t.length p q:=by
  unfold nG
  rw[hcg q 0 (λc hc=>hi c (afZ c hc)),hcg (i1:=fF E') (i2:=fF E) p 0 (λc hc=>hi c (afY c hc))]
 have hcp:=(PD hp8 hq8 (by rw[hbx];exact hex) hps TM).1
 have hform:=(qA (E:=E') (len:=t.length) (L:=M) (by rw[hcp])).2.2.1
 exact⟨E',M,v',rfl,⟨h.ktp s' f' x' kk bb,x',n',bb,.ktp kk⟩,c',hM,TM.zV,hform,hres t rfl⟩
theorem WZ{most:Nat}{F:List Sy}(h:gV n0 B most g F E W):E.length<=F.length:=by
 have h1:=Nf (BU h.wf.wf h.nd) h.sub
 rwa [bN]at h1
theorem Uj(h:Wf E):∀y∈syms E,(aV y).length<=1152921504606846976:=λy hy=>by
 obtain⟨i,h0,hi,rfl⟩:=FD hy
 rw[MK h i h0 hi]
 exact(h.get i h0 hi).2.1
theorem Dm(hwf:iE E){i:Nat}{t:List Nat}(hb:fT E i t)(ht:t.length<=600):∃L:List Sy,L.length<=15600/\(∀y∈L,(aV y).length<=600)/\∀F:List Sy,(∀y∈L,y∈F)->i=0\/Need F E i:=by
 rcases agP i with h0|h0
 .exact⟨[],by simp,by simp,λ_ _=> .inl h0⟩
 .have hd:(aF E i).depth<=12:=by
   have h1:=(hb.Ig h0).least hwf
   apply ahk
   intro hn
   have h2:=o9 ((aF E i).depth-13) 13
   rw[show 13+((aF E i).depth-13)=(aF E i).depth by omega]at h2
   have h3:(Aw 13).1=610:=by decide
   omega
  obtain⟨L,l1,l2,l3⟩:=VN hwf 12 (hb.Ig h0) hd
  exact⟨L,by omega,λy hy=>af9 (l2 y hy) ht,λF hF=> .inr (l3 F hF)⟩
theorem GU(h:jO n0 W B g pa mb kb E){a b:Nat}{s t:List Nat}(hA:fT E a s)(hB:fT E b t)(hs:s.length<=600)(ht:t.length<=600)(hE:E.length+31200<=1048575):
    Calls Tryz.prog 27 #[.pointer (some ⟨mb,0,none⟩),vI a,vI b] W λe w'=>∃E',e=.returned (.tuple #[.bool (decide (s=t)),.nilIface])/\mM n0 B g pa mb kb 31200 E E' W w':=by
 obtain⟨L1,a1,a2,a3⟩:=Dm h.wf hA hs
 obtain⟨L2,b1,b2,b3⟩:=Dm h.wf hB ht
 obtain⟨K,hm⟩:=h.mem
 have hP:gV n0 B 1048576 g (syms E++(L1++L2)) E W:=h.pst (λy hy=>by simp[hy]) (by rw[af8,af8,bN];omega) (λy hy=>by
  rcases ags.1 hy with q|q
  .exact Uj h.wf.wf y q
  .rcases ags.1 q with q|q
   .have:=a2 y q;omega
   .have:=b2 y q;omega)
 have:=T9 hP hm (a3 _ (λy hy=>by simp[hy])) (by rw[hA.txt];omega) (b3 _ (λy hy=>by simp[hy])) (by rw[hB.txt];omega)
 rw[hA.txt,hB.txt]at this
 refine this.mono ?_
 rintro e w' ⟨E',K',rfl,hg,hm'⟩
 have dW:=WZ hg.st
 rw[af8,af8,bN]at dW
 exact⟨E',rfl,⟨⟨hg.st.st,hg.st.wf,hg.st.kt,K',hm'⟩,hg.ext,by omega,hg.below,.km hg.km⟩⟩
end
end M
end
section
open Go.ChangeShapes Go.WideShapes Go.ChangeAt Go.RowKit Go.OpenShut Go.ChangeMaps Go.Deep
namespace M
theorem PW:Tryz.prog.cellsOf 146=3:=by kernel_rfl
theorem JR:∃f0 f1 f2:Field,Tryz.prog.underlying 146=some (.struct #[f0,f1,f2])/\(f0.type=3/\f0.offset=0)/\(f1.type=3/\f1.offset=1)/\(f2.type=9/\f2.offset=2):=⟨_,_,_,Tryz.underlying146,⟨rfl,rfl⟩,⟨rfl,rfl⟩,⟨rfl,rfl⟩⟩
theorem cells3{l:List Value}(h:l.length=3):∃a b c,l=[a,b,c]:=by
 match l,h with
 | [a,b,c],_=>exact⟨a,b,c,rfl⟩
theorem add_succ'(b:Addr)(j:Nat):b.add (j+1)=⟨b.block,b.off+(j+1),none⟩:=by unfold Addr.add;simp
theorem add_zero'(b:Addr):b.add 0=b:=by unfold Addr.add;simp
theorem PX{H:Type}{enc:TypeId×Value->H}{W:World}{base:Nat}{sp:Nat->Bool}{hd:Bool}{n:Nat}{cs:List Value}{x:DataW H×List MemPlace}(h:DataW.trod enc Tryz.prog W base sp hd n 146 cs=some x)(hl:cs.length=3):
    ∃s:zx,cs=[.int .i64 s.pos,.int .i64 s.n,.string s.text]:=by
 obtain⟨f0,f1,f2,hs,⟨t0,o0⟩,⟨t1,o1⟩,⟨t2,o2⟩⟩:=JR
 obtain⟨a,b,c,rfl⟩:=cells3 hl
 obtain⟨xs,m,-,-,-,hx,hf⟩:=DataW.trod_struct hs h
 have hx2:xs.length=3:=hx
 have h0:=hf 0 f0 rfl;have h1:=hf 1 f1 rfl;have h2:=hf 2 f2 rfl
 have eS:Tryz.prog.cellsOf 9=1:=by kernel_rfl
 have eI:Tryz.prog.cellsOf 3=1:=by kernel_rfl
 rw[t0,o0,eI]at h0;rw[t1,o1,eI]at h1;rw[t2,o2,eS]at h2
 simp only[agj,agr,aiH,ah5]at h0 h1 h2
 rw[agt (by omega)]at h0 h1 h2
 obtain⟨y0,g0,-,-⟩:=DataW.trod_int Tryz.underlying3 h0
 obtain⟨y1,g1,-,-⟩:=DataW.trod_int Tryz.underlying3 h1
 obtain⟨y2,g2,-,-⟩:=DataW.trod_string Tryz.underlying9 h2
 simp only[ajG,aht]at g0 g1 g2
 subst g0 g1 g2
 exact⟨⟨y0,y1,y2⟩,rfl⟩
instance:Inhabited zx:=⟨⟨0,0,⟨#[]⟩⟩⟩
theorem Ma{W:World}{a:Addr}{v:Value}(h:W.cell? a=some v):a.block<W.heap.size:=by
 unfold World.cell? at h
 cases hh:W.heap[a.block]? with
 |none=>rw[hh]at h;cases h
 |some o=>exact(aga.1 hh).1
theorem Mc{H:Type}{enc:TypeId×Value->H}{W:World}{base:Nat}{sp:Nat->Bool}{hd:Bool}{fuel:Nat}{c0:Value}{x:DataW H×List MemPlace}(hf:DataW.trod enc Tryz.prog W base sp hd fuel 55 [c0]=some x):
    ∃S,qK W c0 S/\∀(a:Addr) n c,c0=.slice (some a) n c->0<n->a.block<W.heap.size:=by
 rcases open_slice Tryz.underlying55 hf with⟨e,-⟩|⟨a,len,cap,m,n,D,Pl,e,-,hl,hm,hmm,-,hi⟩
 .simp only[ajG,aht]at e
  subst e
  exact⟨[],⟨none,0,rfl,by simp,by unfold maxLen;omega,λi h=>by cases h⟩,λa n c h=>by cases h⟩
 .simp only[ajG,aht]at e
  subst e
  have hlm:len<=m:=by rw[hmm];split<;>omega
  have hall:∀i,i<len->∃x:zx,JL W (a.add (i*3)) x:=by
   intro i hil
   obtain⟨cs,hc,ht⟩:=hi i (by omega)
   rw[PW]at hc
   obtain⟨-,hcl,hat⟩:=World.cells?_some hc
   obtain⟨x,rfl⟩:=PX ht hcl
   have q0:=hat 0 (by omega);have q1:=hat 1 (by omega);have q2:=hat 2 (by omega)
   rw[add_succ']at q1 q2
   rw[add_zero']at q0
   exact⟨x,q0,q1,q2⟩
  have hbl:0<len->a.block<W.heap.size:=λh0=>by
   obtain⟨x,q,-⟩:=hall 0 h0
   have:=Ma q
   rwa [add_block]at this
  obtain⟨f,hf⟩:=choose_lt hall
  refine⟨(List.range len).map f,⟨some a,cap,by simp,by simpa using hl,hm,λi hil=>?_⟩,λb n c h h0=>?_⟩
  .have hil':i<len:=by simpa using hil
   refine⟨a,rfl,hbl (by omega),?_⟩
   simp only[aiK,aj3]
   exact hf i hil'
  .simp only[agn,agG]at h
   obtain⟨h1,h2,-⟩:=h
   rw[<-h1]
   exact hbl (by omega)
theorem Dn{H:Type}{enc:TypeId×Value->H}{W:World}{base:Nat}{sp:Nat->Bool}{hd:Bool}{v:Value}{d:DataW H}{p:List MemPlace}(hv:∃a0 len cap,v=.slice a0 len cap)(h:DataW.Trod enc Tryz.prog W base sp hd 55 v d p):
    ∃S,qK W v S/\∀(a:Addr) n c,v=.slice (some a) n c->0<n->a.block<W.heap.size:=by
 obtain⟨a0,len,cap,rfl⟩:=hv
 obtain⟨fuel,hf⟩:=h
 exact Mc hf
end M
end
section
open Go.RowKit Go.Lib
namespace M
attribute [local go_sem] Oper.semAt_some
def DkC(W:World)(gd B mb:Nat):Prop:=W.heap[gd]?=some (.cells #[.pointer (some ⟨B,0,none⟩),.pointer (some ⟨mb,0,none⟩)] 57 (0,0))
theorem DkC.cells{W:World}{gd B mb:Nat}(h:DkC W gd B mb):W.cell? ⟨gd,0,none⟩=some (.pointer (some ⟨B,0,none⟩))/\W.cell? ⟨gd,1,none⟩=some (.pointer (some ⟨mb,0,none⟩)):=by
 unfold DkC at h;simp[World.cell?,h]
theorem DkC.kd{A C:World}{gd B mb:Nat}(h:DkC A gd B mb)(hk:Kd A C):DkC C gd B mb:=hk _ (by decide) (by decide) _ _ _ h
theorem NT{W:World}{gd:Nat}(h:W.heap[gd]?=some (.cells #[.pointer none,.pointer none] 57 (0,0))):(W.cell? ⟨gd,0,none⟩=some (.pointer none)/\W.cell? ⟨gd,1,none⟩=some (.pointer none))/\W.frozen? ⟨gd,0,none⟩=false/\W.frozen? ⟨gd,1,none⟩=false:=by
 simp[World.cell?,World.frozen?,h]
theorem Zc(w:World)(B mb:Nat):∃wz w2,w.alloc (.cells #[.pointer none,.pointer none] 57)=wz/\(wz.setCell ⟨w.heap.size,0,none⟩ (.pointer (some ⟨B,0,none⟩))).setCell ⟨w.heap.size,1,none⟩ (.pointer (some ⟨mb,0,none⟩))=w2/\DkC w2 w.heap.size B mb/\Below w.heap.size w w2/\
    (wz.cell? ⟨w.heap.size,0,none⟩=some (.pointer none)/\wz.cell? ⟨w.heap.size,1,none⟩=some (.pointer none))/\(wz.frozen? ⟨w.heap.size,0,none⟩=false/\wz.frozen? ⟨w.heap.size,1,none⟩=false):=by
 have k0:(w.alloc (.cells #[.pointer none,.pointer none] 57)).heap[w.heap.size]?=some (.cells #[.pointer none,.pointer none] 57 (0,0)):=aD _ _;have b0:Below w.heap.size w (w.alloc (.cells #[.pointer none,.pointer none] 57)):=(af6 _ _).alloc (af7 _) _;exact⟨_,_,rfl,rfl,aC _ (aC _ k0),(b0.setCell (p:=⟨w.heap.size,0,none⟩) (af7 _) _).setCell (p:=⟨w.heap.size,1,none⟩) (af7 _) _,(NT k0).1,(NT k0).2⟩
theorem JQ{W:World}(ht:Tab W)(hg0:0<W.heap.size):Calls Tryz.prog 21 #[] W λe w'=>e=.returned (.bool true)/\Below W.heap.size W w':=by
 have HO:=ak (Fa ht hg0);go_enter Tryz.func21,Tryz.ntmps21;go_wp2_with fail
 refine HO.o.mono ?_;rintro e w1 ⟨B,g,pa,mb,kb,rfl,d1,b1⟩;obtain⟨wz,w2,hz,hs,k2,b2,⟨q0,q1⟩,r0,r1⟩:=Zc w1 B mb;obtain⟨gd,hgd⟩:=ay (w1.heap.size);rw[hgd]at hs k2 q0 q1 r0 r1;have vS:aA (∀w,Kd w2 w->w.cell? ⟨gd,0,none⟩=some (.pointer (some ⟨B,0,none⟩))/\w.cell? ⟨gd,1,none⟩=some (.pointer (some ⟨mb,0,none⟩))):=ak λw hw=>(k2.kd hw).cells;have d2:=d1.below b2;have HB2:aA (Below W.heap.size W w2):=ak (Below.after b1 b2);have M_:=ak (L8 d2 ⟨#[97,98,99]⟩ (by decide) (by decide));obtain⟨c0,c1⟩:=vS.o w2 (.of (af6 _ _));go_wp2_with fail
 refine M_.o.mono ?_;rintro e w3 ⟨E3,i3,rfl,d3,x3,n3,b3,z3,bb3,k3⟩;have qH:aA (Kd w2 w3):=ak (.kt k3);have HB3:=ak b3;obtain⟨c0,c1⟩:=vS.o w3 qH.o;obtain⟨w4,hw4⟩:=ay (w3.alloc (.cells #[.int .i64 1,.int .i64 1,.string ⟨#[120]⟩] 146));have h4:w4.heap[w3.heap.size]?=some (.cells #[.int .i64 1,.int .i64 1,.string ⟨#[120]⟩] 146 (0,0)):=by rw[<-hw4];exact aD _ _
 have b4:Below w3.heap.size w3 w4:=by rw[<-hw4];exact(af6 _ _).alloc (af7 _) _
 have hrow:qK w4 (.slice (some ⟨w3.heap.size,0,none⟩) 1 1) [⟨1,1,⟨#[120]⟩⟩]:=⟨some ⟨w3.heap.size,0,none⟩,1,rfl,af7 _,by unfold maxLen;decide,λi hi=>by
  obtain rfl:i=0:=by simpa using hi
  refine⟨_,rfl,(aga.1 h4).1,?_⟩;refine⟨?_,?_,?_⟩<;>simp[World.cell?,Addr.add,h4]⟩
 have d4:=d3.below b4;have HP:=ak (zB d4 ⟨#[97,98,99]⟩ (by decide) hrow (λa n c h _=> .inr (by
  simp only[agn,agG]at h;rw[<-h.1];exact⟨_,_,h4⟩)) (by
  have:E3.length<=0+2*3:=n3;omega))
 have WY:aA (E3.length<=6):=ak n3;have uF:aA (Kd w2 w4):=ak (qH.o.trans (.of b4));have cB:aA (Below W.heap.size W w4):=ak ((HB2.o.trans bb3).trans (b4.mono d3.st.lt));go_wp2_with fail
 refine HP.o.mono ?_;rintro e w5 ⟨E5,L,v5,m,rfl,d5,x5,n5,c5,mt5,zR,MQ,k5⟩;have abu:yg (⟨#[97,98,99]⟩:ByteArray).size [⟨1,1,⟨#[120]⟩⟩] 0 0=[(1,1,⟨#[120]⟩)]:=rfl;rw[abu]at zR;obtain rfl:m=⟨#[97,120,99]⟩:=NQ (zR.trans rfl);have hsm:=mt5.small (by unfold dX;decide);rw[abu]at mt5;have hpat:cO E5 [97,98,99] 0 L=[97,120,99]:=mt5.pat.trans rfl;have hLl:L.length=1:=mt5.len;have hb5:fT E5 i3 [97,98,99]:=HB3.o.ext x5;have HN5:aA (E5.length<=486):=ak (by have:=WY.o;omega);have HA:=ak (pU d5 hb5 c5 mt5.2.1 (by omega) hsm.form (by decide) (.inl (by rw[hpat];decide)) (k:=vN 13 1) (by rw[hLl];exact af7 _) (by
  have:=HN5.o;have e:vN 13 1=3360:=rfl;omega))
 rw[hpat]at HA;have uJ:aA (Kd w2 w5):=ak (uF.o.trans (.kt k5));have mG:aA (Below W.heap.size W w5):=ak (cB.o.trans MQ);obtain⟨c0,c1⟩:=vS.o w5 uJ.o;obtain⟨va,vn,vc,rfl⟩:∃va vn vc,v5=.slice va vn vc:=by
  obtain⟨a,b,c⟩:=c5.len;exact⟨a,_,b,c⟩
 go_wp2_with fail
 refine HA.o.mono ?_;rintro e w6 ⟨E6,j6,rfl,s6,b6⟩;have HTX:=ak (JK s6.dk b6.le (by rw[b6.txt];decide) (by
  have:=s6.few;have:=HN5.o;have e:vN 13 1=3360:=rfl;omega))
 rw[b6.txt]at HTX;have Sj:aA (Kd w2 w6):=ak (uJ.o.trans s6.kd);have zH:aA (Below W.heap.size W w6):=ak (mG.o.trans s6.Dx);have hstr:GN [97,120,99]=⟨#[97,120,99]⟩:=rfl;rw[hstr]at HTX;obtain⟨c0,c1⟩:=vS.o w6 Sj.o;have iI:aA (W.heap.size<=w6.heap.size):=ak s6.dk.st.lt;go_wp2_with fail
 refine HTX.o.mono ?_;rintro e w7 ⟨rfl,b7⟩;have Vu:aA (Below W.heap.size W w7):=ak (zH.o.trans (b7.mono iI.o));go_wp2_with fail
 exact af_ (v:=.bool true) (by simp[results,Tryz.results21,go_sem]) rfl ⟨rfl,Vu.o⟩
end M
end
section
open Go.ChangeShapes Go.WideShapes Go.RowKit
namespace M
def JU:List (String×DataW Unit):=[("math/bits.deBruijn64tab",Rows.laid_math_bits_deBruijn64tab)]
theorem gT:Tryz.prog.globalNamed "math/bits.deBruijn64tab" =some 0:=by kernel_rfl
theorem abv:(Tryz.prog.globals[0]?).map (·.type)=some 339:=by kernel_rfl
theorem Xh:Tryz.prog.cellsOf 5=1:=by kernel_rfl
theorem abw:Tryz.prog.cellsOf 339=64:=by kernel_rfl
theorem JV{W:World}(h:laidMetH Tryz.prog JU W):Tab W:=by
 have h':laidMet Tryz.prog (("math/bits.deBruijn64tab",Lib.tabData .u8 (Lib.deBruijn64tab.map λn:Nat=>(n:Int)))::[]) W:=h;have ht:=Lib.tabIs_of_head gT abv Tryz.underlying339 Tryz.underlying5 Xh abw h';intro j hj;have:=ht.cell gT j (by rw[agM];exact hj);rw[this];have hl:j<Lib.deBruijn64tab.length:=hj;rw[ah8,ah8,ahg,agt hl];rfl
noncomputable def Fb(os:Os):World:=
 let w0:=World.holding Tryz.prog os ⟨#[],#[],[]⟩
 { w0 with heap:=w0.heap.modify 0 fun
     | .cells _ t frozen=> .cells (Lib.deBruijn64tab.map λn:Nat=>Value.int .u8 (n:Int)).toArray t frozen
     |o=>o }
theorem D7(os:Os)(args:Array Value):laidMetH Tryz.prog JU ((Fb os).forCall (λ_ _=>0) ⟨#[],args,[]⟩).memory:=
 laidMetH_of_parts (laidMet_of_run' 8 (by kernel_rfl) (by kernel_rfl)) (by kernel_rfl)
end M
end
section
open Go.RowKit Go.Lib
namespace M
structure PL(E:List En)(w:World)(b0:Nat)(v:Value)(t:List Nat)(L:List bH)(u:List Nat)(n:Nat):Prop where
 Am:mg b0 w v L
 zV:zZ E L
 form:bC t.length (-1) L=true
 res:cO E t 0 L=u
 len:L.length<=n
 t40:n=12->∀c∈L,(txt E c.id).length<=40
theorem PL.ids{E:List En}{w:World}{b0:Nat}{v:Value}{t:List Nat}{L:List bH}{u:List Nat}{n:Nat}(h:PL E w b0 v t L u n):∀c∈L,c.id<=E.length:=λc hc=>(h.zV c hc).1
theorem PL.ext{E E2:List En}{w w2:World}{b0:Nat}{v:Value}{t:List Nat}{L:List bH}{u:List Nat}{n:Nat}(h:PL E w b0 v t L u n)(hx:Ext E E2)(hk:Kd w w2):PL E2 w2 b0 v t L u n:=
 ⟨hk.Am h.Am,λc hc=>⟨af9 (h.zV c hc).1 hx.le,by rw[hx.ent (h.zV c hc).1];exact(h.zV c hc).2⟩,h.form,by rw[CJ hx t L 0 h.ids];exact h.res,h.len,λq c hc=>by rw[hx.txt (h.ids c hc)];exact h.t40 q c hc⟩
theorem PL.ins{E:List En}{w:World}{b0:Nat}{v:Value}{t:List Nat}{L:List bH}{u:List Nat}(h:PL E w b0 v t L u 12):dN E L<=480:=by
 have:=xU E L 40 (h.t40 rfl)
 have:=h.len
 omega
theorem PL.Uk{E:List En}{w:World}{b0:Nat}{v:Value}{s m:ByteArray}{S:List zx}{L:List bH}(hc:mg b0 w v L)(hm:E9 E L (yg s.size S 0 0))(hr:jE m=UG (jE s) 0 (yg s.size S 0 0))(hs:(s.size:Int)<=dX):PL E w b0 v (jE s) L (jE m) 12/\∀c∈L,0<=c.n/\c.n<=6:=by
 have h:=hm.small hs
 exact⟨⟨hc,h.zV,by rw[aG];exact h.form,by rw[hm.pat,hr],h.Za,λ_ c hc=>by have:=h.t20 c hc;omega⟩,h.n6⟩
theorem PL.inv{E E2:List En}{w w2:World}{b0 b2:Nat}{v v2:Value}{t u:List Nat}{L R:List bH}{n:Nat}(h:PL E w b0 v t L u n)(hx:Ext E E2)(hwf:iE E2)(hc:mg b2 w2 v2 R)(hi:iT E2 t 0 L R)(ht:(t.length:Int)<=dX)(hu:(u.length:Int)<=dX)(h40:n=12->∀c∈L,c.n<=40):PL E2 w2 b2 v2 u R t n:=by
 have h2:=h.ext hx (w2:=w) (λ_ _ _ _ _ _ e=>e)
 have hr:cO E2 t 0 L=u:=h2.res
 have hlen:=pO (E:=E2) (t:=t) L (-1) 0 h.form (by omega) (agb _)
 rw[hr]at hlen
 have hmo:=jR E2 L 0
 refine⟨hc,hi.zV,?_,?_,by rw[hi.len];exact h.len,λq d hd=>?_⟩
 .exact hi.form hwf (len:=(t.length:Int)) (nl:=(u.length:Int)) rfl ⟨by omega,hu⟩ (last:= -1) (last2:= -1) h.form (λc hc e=>abp hwf.wf (h2.ids c hc) e) (by omega) (by omega) (.inr ⟨rfl,rfl⟩) (by rw[hmo];omega) (λk _=>by omega) (by omega)
 .have:=Uh (Ext.refl E2) hi h.form
  rw[hr]at this
  exact this
 .have key:∀{L R:List bH} {m:Int},iT E2 t m L R->(∀c∈L,c.n<=40)->∀d∈R,(txt E2 d.id).length<=40:=by
   intro L
   induction L with
   |nil=>intro R m h _ d hd;cases R with
    |nil=>simp at hd
    |cons=>cases h
   |cons c L ih=>intro R m h hc d hd;cases R with
    |nil=>simp at hd
    |cons e R=>
     rcases agm.1 hd with rfl|hd
     .rw[h.1.2.2.txt,agB]
      have:=hc c (by simp)
      omega
     .exact ih h.2 (λx hx=>hc x (by simp[hx])) d hd
  exact key hi (h40 q) d hd
theorem NU{s:ByteArray}{S:List zx}{E:List En}{L:List bH}(hm:E9 E L (yg s.size S 0 0))(hs:(s.size:Int)<=dX):(UG (jE s) 0 (yg s.size S 0 0)).length<=s.size+240:=by
 have h:=hm.small hs
 have hl:=pO (E:=E) (t:=jE s) L (-1) 0 (by rw[aG];exact h.form) (by omega) (agb _)
 have hd:=yF (len:=(s.size:Int)) (by omega) h.form
 rw[hm.pat,aG]at hl
 have:=h.ins
 omega
end M
end
section
open Go.RowKit Go.Lib
namespace M
attribute [local go_sem] Oper.semAt_some
theorem NV{n:Nat}(h:n<=12):vN 13 n<=28000:=by unfold vN;rw[GR];omega
theorem GV{n:Nat}(h:n<=80):vN 13 n<=180320:=by unfold vN;rw[GR];omega
theorem NW{n:Nat}(h:n<=12):n*bZ 13<=12960:=by rw[GR];omega
theorem W_{n:Nat}(h:n<=80):n*bZ 13<=86400:=by rw[GR];omega
theorem Ul(s:ByteArray):GN (jE s)=s:=NQ (Uc (EZ s))
theorem GX{W:World}(ht:Tab W)(hg0:0<W.heap.size)(s:ByteArray){v1 v2:Value}{S1 S2:List zx}(h1:qK W v1 S1)(l1:∀(a:Addr) n c,v1=.slice (some a) n c->0<n->a.block<W.heap.size)(h2:qK W v2 S2)(l2:∀(a:Addr) n c,v2=.slice (some a) n c->0<n->a.block<W.heap.size):
    Calls Tryz.prog 5 #[.string s,v1,v2] W λe w'=>e=.returned (.bool true)/\Below W.heap.size W w':=by
 have fV:=ak (JQ ht hg0)
 have HT:=ak (And.intro ht hg0)
 have HR1:=ak (And.intro h1 l1)
 have HR2:=ak (And.intro h2 l2)
 clear ht hg0 h1 l1 h2 l2
 by_cases hs:s.size<=120
 rotate_left
 .have g1:(s.size:Int)>120:=by omega
  clear hs
  go_enter Tryz.func5,Tryz.ntmps5
  go_wp2_with fail
  refine fV.o.mono ?_
  rintro e w1 ⟨rfl,b1⟩
  have HB1:=ak b1
  clear b1
  go_wp2_with fail
  exact af_ (v:=.bool true) (by simp[results,Tryz.results5,go_sem]) rfl ⟨rfl,HB1.o⟩
 have g1:¬(s.size:Int)>120:=by omega
 have iF:=ak hs
 clear hs
 go_enter Tryz.func5,Tryz.ntmps5
 go_wp2_with fail
 refine fV.o.mono ?_
 rintro e w1 ⟨rfl,b1⟩
 have HO:=ak (Fa (HT.o.1.below b1 HT.o.2) (ahm HT.o.2 b1.size))
 have HB1:=ak b1
 clear b1
 go_wp2_with fail
 clear g1
 refine HO.o.mono ?_
 rintro e w2 ⟨B,g,pa,mb,kb,rfl,d2,b2⟩
 obtain⟨wz,w3,hz,hss,k3,b3,⟨q0,q1⟩,r0,r1⟩:=Zc w2 B mb
 obtain⟨gd,hgd⟩:=ay (w2.heap.size)
 obtain⟨n0,hn0⟩:=ay (w1.heap.size)
 have HW3:aA (Below W.heap.size W w3):=ak (Below.after (Below.after HB1.o b2) b3)
 rw[hgd]at hss k3 q0 q1 r0 r1
 rw[hn0]at d2
 have gJ:aA (W.heap.size<=n0):=ak (by rw[<-hn0];exact HB1.o.size)
 have vS:aA (∀w,Kd w3 w->w.cell? ⟨gd,0,none⟩=some (.pointer (some ⟨B,0,none⟩))/\w.cell? ⟨gd,1,none⟩=some (.pointer (some ⟨mb,0,none⟩))):=ak λw hw=>(k3.kd hw).cells
 have JZ:aA (mM n0 B g pa mb kb 0 [] [] w3 w3):=ak (.of (d2.below b3) (af6 _ _))
 clear d2 b2 b3 k3
 obtain⟨c0,c1⟩:=vS.o w3 JZ.o.kd
 have dW:=JZ.o.few
 have hsz:=iF.o
 have HC:=ak (L8 JZ.o.dk s (by omega) (by simp;omega))
 clear dW hsz
 go_wp2_with fail
 clear hz hss q0 q1 r0 r1 hgd hn0
 clear c0 c1
 refine HC.o.mono ?_
 clear HC
 rintro e x1 ⟨E1,ix,rfl,hd,hx,hn,hb,-,bb,kk⟩
 have hst:mM n0 B g pa mb kb 240 [] E1 w3 x1:=⟨hd,hx,by rw[aG]at hn;have:=iF.o;omega,bb,.kt kk⟩
 have j_:aA (mM n0 B g pa mb kb 240 [] E1 w3 x1):=ak ((JZ.o.trans hst).mono (by omega))
 have HX:=ak hb
 clear hd hx hn hb bb kk hst
 obtain⟨c0,c1⟩:=vS.o x1 j_.o.kd
 have dW:=j_.o.few
 have hsz:=iF.o
 have hrow:=HR1.o.1.below (HW3.o.trans (j_.o.Dx.mono gJ.o))
 have HC:=ak (zB j_.o.dk s (by omega) hrow (λa n c h h0=> .inl (ahm (HR1.o.2 a n c h h0) gJ.o)) (by simp at dW;omega))
 clear dW hsz hrow
 go_wp2_with fail
 clear c0 c1
 refine HC.o.mono ?_
 clear HC
 rintro e x2 ⟨E2,pl,vp,md,rfl,hd,hx,hn,hc,hm,hr,bb,kk⟩
 have hst:mM n0 B g pa mb kb 480 E1 E2 x1 x2:=⟨hd,hx,hn,bb,.kt kk⟩
 have HS2:aA (mM n0 B g pa mb kb 720 [] E2 w3 x2):=ak ((j_.o.trans hst).mono (by omega))
 replace HX:=ak (HX.o.ext hst.ext)
 have hms:(s.size:Int)<=dX:=by have:=iF.o;unfold dX;omega
 obtain⟨hpl,hp6⟩:=PL.Uk hc hm hr hms
 have HP:=ak hpl
 have H6P:=ak hp6
 have HLmd:aA (md.size<=s.size+240):=ak (by have:=NU hm hms;rw[<-hr,aG]at this;exact this)
 clear hd hx hn hc hm hr bb kk hst hms hpl hp6
 have uh:aA (md.size<=360):=ak (by have:=HLmd.o;have:=iF.o;omega)
 obtain⟨c0,c1⟩:=vS.o x2 HS2.o.kd
 have dW:=HS2.o.few
 have hsz:=uh.o
 have hrow:=HR2.o.1.below (HW3.o.trans (HS2.o.Dx.mono gJ.o))
 have HC:=ak (zB HS2.o.dk md (by omega) hrow (λa n c h h0=> .inl (ahm (HR2.o.2 a n c h h0) gJ.o)) (by simp at dW;omega))
 clear dW hsz hrow
 go_wp2_with fail
 clear c0 c1
 refine HC.o.mono ?_
 clear HC
 rintro e x3 ⟨E3,ql,vq,en,rfl,hd,hx,hn,hc,hm,hr,bb,kk⟩
 have hst:mM n0 B g pa mb kb 480 E2 E3 x2 x3:=⟨hd,hx,hn,bb,.kt kk⟩
 have AO:aA (mM n0 B g pa mb kb 1200 [] E3 w3 x3):=ak ((HS2.o.trans hst).mono (by omega))
 replace HX:=ak (HX.o.ext hst.ext)
 replace HP:=ak (HP.o.ext hst.ext hst.kd)
 have hms:(md.size:Int)<=dX:=by have:=uh.o;unfold dX;omega
 obtain⟨hpl,hp6⟩:=PL.Uk hc hm hr hms
 have HQ:=ak hpl
 have H6Q:=ak hp6
 have HLen:aA (en.size<=md.size+240):=ak (by have:=NU hm hms;rw[<-hr,aG]at this;exact this)
 clear hd hx hn hc hm hr bb kk hst hms hpl hp6
 have zf:aA (en.size<=600):=ak (by have:=HLen.o;have:=uh.o;omega)
 obtain⟨c0,c1⟩:=vS.o x3 AO.o.kd
 have dW:=AO.o.few
 have z1:=iF.o
 have z2:=uh.o
 have z3:=zf.o
 have y1:=aG s
 have y2:=aG md
 have y3:=aG en
 have hres:=HP.o.res
 have HC:=ak (pU AO.o.dk HX.o HP.o.Am HP.o.zV (af9 HP.o.len (by decide)) HP.o.form (by omega) (.inr (by have:=HP.o.ins;omega)) (NV HP.o.len) (by simp at dW;omega))
 clear dW z1 z2 z3 y1 y2 y3
 go_wp2_with fail
 clear c0 c1
 refine HC.o.mono ?_
 clear HC
 rintro e x4 ⟨E4,iy,rfl,hst',hb⟩
 have hst:mM n0 B g pa mb kb 28000 E3 E4 x3 x4:=hst'
 have lU:aA (mM n0 B g pa mb kb 29200 [] E4 w3 x4):=ak ((AO.o.trans hst).mono (by omega))
 replace HX:=ak (HX.o.ext hst.ext)
 replace HP:=ak (HP.o.ext hst.ext hst.kd)
 replace HQ:=ak (HQ.o.ext hst.ext hst.kd)
 rw[hres]at hb
 have HY:=ak hb
 clear hst' hb hst hres
 obtain⟨c0,c1⟩:=vS.o x4 lU.o.kd
 have dW:=lU.o.few
 have z1:=iF.o
 have z2:=uh.o
 have z3:=zf.o
 have y1:=aG s
 have y2:=aG md
 have y3:=aG en
 have hres:=HQ.o.res
 have HC:=ak (pU lU.o.dk HY.o HQ.o.Am HQ.o.zV (af9 HQ.o.len (by decide)) HQ.o.form (by omega) (.inr (by have:=HQ.o.ins;omega)) (NV HQ.o.len) (by simp at dW;omega))
 clear dW z1 z2 z3 y1 y2 y3
 go_wp2_with fail
 clear c0 c1
 refine HC.o.mono ?_
 clear HC
 rintro e x5 ⟨E5,iz,rfl,hst',hb⟩
 have hst:mM n0 B g pa mb kb 28000 E4 E5 x4 x5:=hst'
 have qU:aA (mM n0 B g pa mb kb 57200 [] E5 w3 x5):=ak ((lU.o.trans hst).mono (by omega))
 replace HX:=ak (HX.o.ext hst.ext)
 replace HP:=ak (HP.o.ext hst.ext hst.kd)
 replace HQ:=ak (HQ.o.ext hst.ext hst.kd)
 replace HY:=ak (HY.o.ext hst.ext)
 rw[hres]at hb
 have HZ:=ak hb
 clear hst' hb hst hres
 obtain⟨c0,c1⟩:=vS.o x5 qU.o.kd
 have dW:=qU.o.few
 have z1:=iF.o
 have z2:=uh.o
 have z3:=zf.o
 have y1:=aG s
 have y2:=aG md
 have y3:=aG en
 have ra:=HP.o.res
 have rb:=HQ.o.res
 have HC:=ak (Dl qU.o.dk (t:=jE s) HP.o.Am HQ.o.Am HP.o.zV HQ.o.zV HP.o.len HQ.o.len (λc hc=>(ags.1 hc).elim (HP.o.t40 rfl c) (HQ.o.t40 rfl c)) (by omega) HP.o.form (by rw[ra];exact HQ.o.form) (by rw[ra];omega) (by rw[ra,rb];omega) (by simp at dW;omega) (aG s))
 clear dW z1 z2 z3 y1 y2 y3
 go_wp2_with fail
 clear c0 c1
 refine HC.o.mono ?_
 clear HC
 rintro e x6 ⟨E6,rl,vr,rfl,hst',hc,hM,htx,hf,hr⟩
 have hst:mM n0 B g pa mb kb 89600 E5 E6 x5 x6:=hst'
 have xX:aA (mM n0 B g pa mb kb 146800 [] E6 w3 x6):=ak ((qU.o.trans hst).mono (by omega))
 replace HX:=ak (HX.o.ext hst.ext)
 replace HP:=ak (HP.o.ext hst.ext hst.kd)
 replace HQ:=ak (HQ.o.ext hst.ext hst.kd)
 replace HY:=ak (HY.o.ext hst.ext)
 replace HZ:=ak (HZ.o.ext hst.ext)
 rw[ra,rb]at hr
 have HM:aA (PL E6 x6 x5.heap.size vr (jE s) rl (jE en) 80):=ak ⟨hc,htx,hf,hr,hM,λq=>absurd q (by decide)⟩
 clear hst' hc hM htx hf hr hst ra rb
 obtain⟨c0,c1⟩:=vS.o x6 xX.o.kd
 have dW:=xX.o.few
 have z1:=iF.o
 have z2:=uh.o
 have z3:=zf.o
 have y1:=aG s
 have y2:=aG md
 have y3:=aG en
 have hres:=HM.o.res
 have HC:=ak (pU xX.o.dk HX.o HM.o.Am HM.o.zV (af9 HM.o.len (by decide)) HM.o.form (by omega) (.inl (by rw[hres];omega)) (GV HM.o.len) (by simp at dW;omega))
 clear dW z1 z2 z3 y1 y2 y3
 go_wp2_with fail
 clear c0 c1
 refine HC.o.mono ?_
 clear HC
 rintro e x7 ⟨E7,iw,rfl,hst',hb⟩
 have hst:mM n0 B g pa mb kb 180320 E6 E7 x6 x7:=hst'
 have DN:aA (mM n0 B g pa mb kb 327120 [] E7 w3 x7):=ak ((xX.o.trans hst).mono (by omega))
 replace HX:=ak (HX.o.ext hst.ext)
 replace HP:=ak (HP.o.ext hst.ext hst.kd)
 replace HQ:=ak (HQ.o.ext hst.ext hst.kd)
 replace HY:=ak (HY.o.ext hst.ext)
 replace HZ:=ak (HZ.o.ext hst.ext)
 replace HM:=ak (HM.o.ext hst.ext hst.kd)
 rw[hres]at hb
 have HWW:=ak hb
 clear hst' hb hst hres
 obtain⟨c0,c1⟩:=vS.o x7 DN.o.kd
 have dW:=DN.o.few
 have z1:=iF.o
 have z2:=uh.o
 have z3:=zf.o
 have y1:=aG s
 have y2:=aG md
 have y3:=aG en
 have hsm:=GU DN.o.dk HWW.o HZ.o (by omega) (by omega) (by simp at dW;omega)
 rw[agw rfl]at hsm
 have HC:=ak (hsm)
 clear dW z1 z2 z3 y1 y2 y3 hsm
 go_wp2_with fail
 clear c0 c1
 refine HC.o.mono ?_
 clear HC
 rintro e x8 ⟨E8,rfl,hst'⟩
 have hst:mM n0 B g pa mb kb 31200 E7 E8 x7 x8:=hst'
 have Tp:aA (mM n0 B g pa mb kb 358320 [] E8 w3 x8):=ak ((DN.o.trans hst).mono (by omega))
 replace HX:=ak (HX.o.ext hst.ext)
 replace HP:=ak (HP.o.ext hst.ext hst.kd)
 replace HQ:=ak (HQ.o.ext hst.ext hst.kd)
 replace HY:=ak (HY.o.ext hst.ext)
 replace HZ:=ak (HZ.o.ext hst.ext)
 replace HM:=ak (HM.o.ext hst.ext hst.kd)
 clear hst' hst
 obtain⟨c0,c1⟩:=vS.o x8 Tp.o.kd
 have dW:=Tp.o.few
 have z1:=iF.o
 have z2:=uh.o
 have z3:=zf.o
 have y1:=aG s
 have y2:=aG md
 have y3:=aG en
 have htx:=JK Tp.o.dk HZ.o.le (by rw[HZ.o.txt];omega) (by simp at dW;omega)
 rw[HZ.o.txt,Ul]at htx
 have HC:=ak htx
 clear dW htx z1 z2 z3 y1 y2 y3
 go_wp2_with fail
 clear c0 c1
 refine HC.o.mono ?_
 clear HC
 rintro e x9 ⟨rfl,bb⟩
 have hst:=mM.of Tp.o.dk bb
 have J5:aA (mM n0 B g pa mb kb 358320 [] E8 w3 x9):=ak ((Tp.o.trans hst).mono (by omega))
 replace HP:=ak (HP.o.ext hst.ext hst.kd)
 replace HQ:=ak (HQ.o.ext hst.ext hst.kd)
 replace HM:=ak (HM.o.ext hst.ext hst.kd)
 clear bb hst
 obtain⟨c0,c1⟩:=vS.o x9 J5.o.kd
 have dW:=J5.o.few
 have z1:=iF.o
 have z2:=uh.o
 have z3:=zf.o
 have y1:=aG s
 have y2:=aG md
 have y3:=aG en
 have hres:=HP.o.res
 have HC:=ak (zC J5.o.dk HX.o HP.o.Am HP.o.zV (af9 HP.o.len (by decide)) HP.o.form (by omega) (by rw[hres];omega) (NW HP.o.len) (by simp at dW;omega))
 clear dW z1 z2 z3 y1 y2 y3
 go_wp2_with fail
 clear c0 c1
 refine HC.o.mono ?_
 clear HC
 rintro e x10 ⟨E10,pi,vpi,rfl,hst',hc,hi⟩
 have hst:mM n0 B g pa mb kb 12960 E8 E10 x9 x10:=hst'
 have Xa:aA (mM n0 B g pa mb kb 371280 [] E10 w3 x10):=ak ((J5.o.trans hst).mono (by omega))
 replace HX:=ak (HX.o.ext hst.ext)
 replace HP:=ak (HP.o.ext hst.ext hst.kd)
 replace HQ:=ak (HQ.o.ext hst.ext hst.kd)
 replace HY:=ak (HY.o.ext hst.ext)
 replace HZ:=ak (HZ.o.ext hst.ext)
 replace HM:=ak (HM.o.ext hst.ext hst.kd)
 have Qi:aA (PL E10 x10 x9.heap.size vpi (jE md) pi (jE s) 12):=ak (HP.o.inv (Ext.refl _) hst.dk.wf hc hi (by have:=iF.o;have:=uh.o;rw[aG];unfold dX;omega) (by have:=uh.o;have:=zf.o;rw[aG];unfold dX;omega) (λ_ c hc=>by have:=H6P.o c hc;omega))
 clear hst' hc hi hst hres
 obtain⟨c0,c1⟩:=vS.o x10 Xa.o.kd
 have dW:=Xa.o.few
 have z1:=iF.o
 have z2:=uh.o
 have z3:=zf.o
 have y1:=aG s
 have y2:=aG md
 have y3:=aG en
 have hres:=HQ.o.res
 have HC:=ak (zC Xa.o.dk HY.o HQ.o.Am HQ.o.zV (af9 HQ.o.len (by decide)) HQ.o.form (by omega) (by rw[hres];omega) (NW HQ.o.len) (by simp at dW;omega))
 clear dW z1 z2 z3 y1 y2 y3
 go_wp2_with fail
 clear c0 c1
 refine HC.o.mono ?_
 clear HC
 rintro e vV ⟨E11,qi,vqi,rfl,hst',hc,hi⟩
 have hst:mM n0 B g pa mb kb 12960 E10 E11 x10 vV:=hst'
 have Xb:aA (mM n0 B g pa mb kb 384240 [] E11 w3 vV):=ak ((Xa.o.trans hst).mono (by omega))
 replace HX:=ak (HX.o.ext hst.ext)
 replace HQ:=ak (HQ.o.ext hst.ext hst.kd)
 replace HY:=ak (HY.o.ext hst.ext)
 replace HZ:=ak (HZ.o.ext hst.ext)
 replace HM:=ak (HM.o.ext hst.ext hst.kd)
 replace Qi:=ak (Qi.o.ext hst.ext hst.kd)
 have UH:aA (PL E11 vV x10.heap.size vqi (jE en) qi (jE md) 12):=ak (HQ.o.inv (Ext.refl _) hst.dk.wf hc hi (by have:=iF.o;have:=uh.o;rw[aG];unfold dX;omega) (by have:=uh.o;have:=zf.o;rw[aG];unfold dX;omega) (λ_ c hc=>by have:=H6Q.o c hc;omega))
 clear hst' hc hi hst hres
 obtain⟨c0,c1⟩:=vS.o vV Xb.o.kd
 have dW:=Xb.o.few
 have z1:=iF.o
 have z2:=uh.o
 have z3:=zf.o
 have y1:=aG s
 have y2:=aG md
 have y3:=aG en
 have hres:=HM.o.res
 have HC:=ak (zC Xb.o.dk HX.o HM.o.Am HM.o.zV (af9 HM.o.len (by decide)) HM.o.form (by omega) (by rw[hres];omega) (W_ HM.o.len) (by simp at dW;omega))
 clear dW z1 z2 z3 y1 y2 y3
 go_wp2_with fail
 clear c0 c1
 refine HC.o.mono ?_
 clear HC
 rintro e vW ⟨E12,ri,vri,rfl,hst',hc,hi⟩
 have hst:mM n0 B g pa mb kb 86400 E11 E12 vV vW:=hst'
 have Xc:aA (mM n0 B g pa mb kb 470640 [] E12 w3 vW):=ak ((Xb.o.trans hst).mono (by omega))
 replace HX:=ak (HX.o.ext hst.ext)
 replace HZ:=ak (HZ.o.ext hst.ext)
 replace HM:=ak (HM.o.ext hst.ext hst.kd)
 replace Qi:=ak (Qi.o.ext hst.ext hst.kd)
 replace UH:=ak (UH.o.ext hst.ext hst.kd)
 have Qj:aA (PL E12 vW vV.heap.size vri (jE en) ri (jE s) 80):=ak (HM.o.inv (Ext.refl _) hst.dk.wf hc hi (by have:=iF.o;have:=uh.o;rw[aG];unfold dX;omega) (by have:=uh.o;have:=zf.o;rw[aG];unfold dX;omega) (λq=>absurd q (by decide)))
 clear hst' hc hi hst hres
 obtain⟨c0,c1⟩:=vS.o vW Xc.o.kd
 have dW:=Xc.o.few
 have z1:=iF.o
 have z2:=uh.o
 have z3:=zf.o
 have y1:=aG s
 have y2:=aG md
 have y3:=aG en
 have ra:=UH.o.res
 have rb:=Qi.o.res
 have HC:=ak (Dl Xc.o.dk (t:=jE en) UH.o.Am Qi.o.Am UH.o.zV Qi.o.zV UH.o.len Qi.o.len (λc hc=>(ags.1 hc).elim (UH.o.t40 rfl c) (Qi.o.t40 rfl c)) (by omega) UH.o.form (by rw[ra];exact Qi.o.form) (by rw[ra];omega) (by rw[ra,rb];omega) (by simp at dW;omega) (aG en))
 clear dW z1 z2 z3 y1 y2 y3
 go_wp2_with fail
 clear c0 c1
 refine HC.o.mono ?_
 clear HC
 rintro e x13 ⟨E13,bl,vb,rfl,hst',hc,hM,htx,hf,hr⟩
 have hst:mM n0 B g pa mb kb 89600 E12 E13 vW x13:=hst'
 have Xd:aA (mM n0 B g pa mb kb 560240 [] E13 w3 x13):=ak ((Xc.o.trans hst).mono (by omega))
 replace HX:=ak (HX.o.ext hst.ext)
 replace HZ:=ak (HZ.o.ext hst.ext)
 replace Qi:=ak (Qi.o.ext hst.ext hst.kd)
 replace UH:=ak (UH.o.ext hst.ext hst.kd)
 replace Qj:=ak (Qj.o.ext hst.ext hst.kd)
 rw[ra,rb]at hr
 have Uq:aA (PL E13 x13 vW.heap.size vb (jE en) bl (jE s) 80):=ak ⟨hc,htx,hf,hr,hM,λq=>absurd q (by decide)⟩
 clear hst' hc hM htx hf hr hst ra rb
 obtain⟨c0,c1⟩:=vS.o x13 Xd.o.kd
 have dW:=Xd.o.few
 have z1:=iF.o
 have z2:=uh.o
 have z3:=zf.o
 have y1:=aG s
 have y2:=aG md
 have y3:=aG en
 have hres:=Uq.o.res
 have HC:=ak (pU Xd.o.dk HZ.o Uq.o.Am Uq.o.zV (af9 Uq.o.len (by decide)) Uq.o.form (by omega) (.inl (by rw[hres];omega)) (GV Uq.o.len) (by simp at dW;omega))
 clear dW z1 z2 z3 y1 y2 y3
 go_wp2_with fail
 clear c0 c1
 refine HC.o.mono ?_
 clear HC
 rintro e x14 ⟨E14,iu,rfl,hst',hb⟩
 have hst:mM n0 B g pa mb kb 180320 E13 E14 x13 x14:=hst'
 have Xe:aA (mM n0 B g pa mb kb 740560 [] E14 w3 x14):=ak ((Xd.o.trans hst).mono (by omega))
 replace HX:=ak (HX.o.ext hst.ext)
 replace HZ:=ak (HZ.o.ext hst.ext)
 replace Qj:=ak (Qj.o.ext hst.ext hst.kd)
 replace Uq:=ak (Uq.o.ext hst.ext hst.kd)
 rw[hres]at hb
 have HU:=ak hb
 clear hst' hb hst hres
 obtain⟨c0,c1⟩:=vS.o x14 Xe.o.kd
 have dW:=Xe.o.few
 have z1:=iF.o
 have z2:=uh.o
 have z3:=zf.o
 have y1:=aG s
 have y2:=aG md
 have y3:=aG en
 have hres:=Qj.o.res
 have HC:=ak (pU Xe.o.dk HZ.o Qj.o.Am Qj.o.zV (af9 Qj.o.len (by decide)) Qj.o.form (by omega) (.inl (by rw[hres];omega)) (GV Qj.o.len) (by simp at dW;omega))
 clear dW z1 z2 z3 y1 y2 y3
 go_wp2_with fail
 clear c0 c1
 refine HC.o.mono ?_
 clear HC
 rintro e x15 ⟨E15,iv,rfl,hst',hb⟩
 have hst:mM n0 B g pa mb kb 180320 E14 E15 x14 x15:=hst'
 have Xf:aA (mM n0 B g pa mb kb 920880 [] E15 w3 x15):=ak ((Xe.o.trans hst).mono (by omega))
 replace HX:=ak (HX.o.ext hst.ext)
 replace HZ:=ak (HZ.o.ext hst.ext)
 replace Qj:=ak (Qj.o.ext hst.ext hst.kd)
 replace HU:=ak (HU.o.ext hst.ext)
 rw[hres]at hb
 have HV:=ak hb
 clear hst' hb hst hres
 obtain⟨c0,c1⟩:=vS.o x15 Xf.o.kd
 have dW:=Xf.o.few
 have z1:=iF.o
 have z2:=uh.o
 have z3:=zf.o
 have y1:=aG s
 have y2:=aG md
 have y3:=aG en
 have hsm:=GU Xf.o.dk HU.o HX.o (by omega) (by omega) (by simp at dW;omega)
 rw[agw rfl]at hsm
 have HC:=ak (hsm)
 clear dW z1 z2 z3 y1 y2 y3 hsm
 go_wp2_with fail
 clear c0 c1
 refine HC.o.mono ?_
 clear HC
 rintro e x16 ⟨E16,rfl,hst'⟩
 have hst:mM n0 B g pa mb kb 31200 E15 E16 x15 x16:=hst'
 have Xg:aA (mM n0 B g pa mb kb 952080 [] E16 w3 x16):=ak ((Xf.o.trans hst).mono (by omega))
 replace HX:=ak (HX.o.ext hst.ext)
 replace HV:=ak (HV.o.ext hst.ext)
 clear hst' hst
 obtain⟨c0,c1⟩:=vS.o x16 Xg.o.kd
 have dW:=Xg.o.few
 have z1:=iF.o
 have z2:=uh.o
 have z3:=zf.o
 have y1:=aG s
 have y2:=aG md
 have y3:=aG en
 have hsm:=GU Xg.o.dk HV.o HX.o (by omega) (by omega) (by simp at dW;omega)
 rw[agw rfl]at hsm
 have HC:=ak (hsm)
 clear dW z1 z2 z3 y1 y2 y3 hsm
 go_wp2_with fail
 clear c0 c1
 refine HC.o.mono ?_
 clear HC
 rintro e x17 ⟨E17,rfl,hst'⟩
 have hst:mM n0 B g pa mb kb 31200 E16 E17 x16 x17:=hst'
 have HS17:aA (mM n0 B g pa mb kb 983280 [] E17 w3 x17):=ak ((Xg.o.trans hst).mono (by omega))
 clear hst' hst
 have HB:aA (Below W.heap.size W x17):=ak (HW3.o.trans (HS17.o.Dx.mono gJ.o))
 go_wp2_with fail
 exact af_ (v:=.bool true) (by simp[results,Tryz.results5,go_sem]) rfl ⟨rfl,HB.o⟩
end M
end
end Go.Proofs.YtgbhohfabhilgaaGreatDoor
