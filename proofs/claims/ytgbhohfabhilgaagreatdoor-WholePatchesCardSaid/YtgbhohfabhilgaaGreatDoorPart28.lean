import Derived.Test.YtgbhohfabhilgaaGreatDoorPart27
set_option maxRecDepth 100000
set_option maxHeartbeats 8000000
set_option linter.unusedVariables false
set_option linter.unusedSimpArgs false
namespace Go.Proofs.YtgbhohfabhilgaaGreatDoor
section
open Go.RowKit Go.Lib
namespace M
attribute [local go_sem] Oper.semAt_some
def Qa(W:World)(b:Nat)(t:List Nat):Prop:=∃(cs:Array Value) (fz:Nat×Nat),W.heap[b]?=some (.cells cs 5 fz)/\∀(i x:Nat),t[i]?=some x->cs[i]?=some (.int .u8 x)
theorem Qa.kp{B':Nat}{X:Nat->Prop}{A C:World}{b:Nat}{t:List Nat}(h:Qa A b t)(hk:Kp B' X A C)(hX:¬X b):Qa C b t:=by
 obtain⟨cs,fz,h1,h2⟩:=h
 exact⟨cs,fz,hk.cells _ (by decide) _ hX _ _ h1,h2⟩
theorem Qa.cell{W:World}{b:Nat}{t:List Nat}(h:Qa W b t){i x:Nat}(hx:t[i]?=some x):W.cell? ⟨b,i,none⟩=some (.int .u8 x):=by
 obtain⟨cs,fz,h1,h2⟩:=h
 have:=h2 i x hx
 simp only[World.cell?,h1]
 simpa using this
theorem Qa.lt{W:World}{b:Nat}{t:List Nat}(h:Qa W b t):b<W.heap.size:=by
 obtain⟨cs,fz,h1,h2⟩:=h
 exact(aga.1 h1).1
theorem iW.lt{W:World}{p B g:Nat}(h:iW W p B g):p<W.heap.size:=(aga.1 h).1
def PPl(n c:Nat):Nat->Value->World->Prop
 |2,v,w=>∃b,v=.slice (some ⟨b,0,none⟩) 0 c/\n<=b/\Hs w 27 b c [] 0 []
 |5,v,w=>∃b,v=.slice (some ⟨b,0,none⟩) 0 c/\n<=b/\Hs w 88 b c [] 0 []
 |6,v,w=>∃b1 b2,v=.agg #[.slice (some ⟨b1,0,none⟩) 0 c,.slice (some ⟨b2,0,none⟩) 0 c]/\(n<=b1/\n<=b2)/\Hs w 27 b1 c [] 0 []/\Hs w 88 b2 c [] 0 []
 |7,v,w=>∃b,v=.pointer (some ⟨b,0,none⟩)/\n<=b/\jM w b (.slice none 0 0) (.slice none 0 0)
 |_,_,_=>True
theorem PPl.mono{n c:Nat}:∀(x:Nat) (v:Value) (w w':World),PPl n c x v w->Below w.heap.size w w'->PPl n c x v w'
 |2,v,w,w',h,hb=>by obtain⟨b,h1,h2,h3⟩:=h;exact⟨b,h1,h2,h3.below hb⟩
 |5,v,w,w',h,hb=>by obtain⟨b,h1,h2,h3⟩:=h;exact⟨b,h1,h2,h3.below hb⟩
 |6,v,w,w',h,hb=>by obtain⟨b1,b2,h1,h2,h3,h4⟩:=h;exact⟨b1,b2,h1,h2,h3.below hb,h4.below hb⟩
 |7,v,w,w',h,hb=>by obtain⟨b,h1,h2,h3⟩:=h;exact⟨b,h1,h2,au hb h3⟩
 |0,_,_,_,_,_=>trivial
 |1,_,_,_,_,_=>trivial
 |3,_,_,_,_,_=>trivial
 |4,_,_,_,_,_=>trivial
 |_+8,_,_,_,_,_=>trivial
theorem Nh(w:World)(e:TypeId)(z:Value)(c:Nat):Hs (w.alloc (.cells (madeCells #[z] c) e)) e w.heap.size c [] 0 []:=
 ⟨_,aD _ _,by rw[size_madeCells],λi v h=>by simp at h,λi v _ h=>by simp at h⟩
theorem I8{n0 B most g:Nat}{F:List Sy}{E:List En}{W:World}(h:gV n0 B most g F E W){p:Nat}(hp:iW W p B g){gt ct n:Nat}{t:List Nat}(ht:Qa W gt t)(hn:t.length=n)(hlen:n<=65536)(hb:∀b∈t,b<256)(hF:∀b∈t,.lt b∈F):
    Calls Tryz.prog 138 #[.pointer (some ⟨p,0,none⟩),.slice (some ⟨gt,0,none⟩) n ct] W λe w'=>∃b1 b2 E',e=.returned (.tuple #[.agg #[.slice (some ⟨b1,0,none⟩) n n,.slice (some ⟨b2,0,none⟩) n n],.nilIface])/\
     (W.heap.size<=b1/\W.heap.size<=b2)/\Gw n0 B most g F (λ_=>False) E E' W w'/\Row w' E' b1 b2 n (t.map .lt):=by
 have HF:∀f,Fence.wide.fn f:=λ_=>trivial
 have HP:=ak h;have fV:=ak hp;have HT:=ak ht;have HN:=ak hn
 have HBF:=ak (And.intro hb hF)
 have hn0:=h.lt
 clear h hp ht hn hb hF
 have hm1:∀w:World,(Instr.makeSlice 30 (.int .i64 0) (.int .i64 (n:Int))).run Tryz.prog w=.ok (.slice (some ⟨w.heap.size,0,none⟩) 0 n) (w.alloc (.cells (madeCells #[.int .i64 0] n) 27)):=λw=>by
  have:=Ba (P:=Tryz.prog) (w:=w) Tryz.underlying30 (e:=27) (z:=.int .i64 0) (size:=1) (bytes:=8) (by kernel_rfl) 0 n (by omega) (by omega) (by omega)
  rw[ag3]at this
  exact this
 have hm2:∀w:World,(Instr.makeSlice 133 (.int .i64 0) (.int .i64 (n:Int))).run Tryz.prog w=.ok (.slice (some ⟨w.heap.size,0,none⟩) 0 n) (w.alloc (.cells (madeCells #[.int .u64 0] n) 88)):=λw=>by
  have:=Ba (P:=Tryz.prog) (w:=w) Tryz.underlying133 (e:=88) (z:=.int .u64 0) (size:=1) (bytes:=8) (by kernel_rfl) 0 n (by omega) (by omega) (by omega)
  rw[ag3]at this
  exact this
 obtain⟨W1,hW1⟩:=ay (W.alloc (.cells #[.slice none 0 0,.slice none 0 0] 237))
 have k1:jM W1 W.heap.size (.slice none 0 0) (.slice none 0 0):=by rw[<-hW1];exact aD _ _
 have b1:Below W.heap.size W W1:=by rw[<-hW1];exact(af6 _ _).alloc (af7 _) _
 have s1:W1.heap.size=W.heap.size+1:=by rw[<-hW1,ag1]
 have K1:=ak k1;have B1:=ak b1
 clear k1 b1
 go_enter Tryz.func138,Tryz.ntmps138
 go_wp2_with fail
 refine aU (Below W1.heap.size W1) ?_
 have S0:Below W1.heap.size W1 W1.drew:=(af6 _ _).drew
 refine tk4 0 1 3 4 ?_
 refine aJ.Kj [2,5,6,7] 8 (λx=>match x with|6=>[2,5]|_=>[]) (λx=>match x with|2=>14|5=>17|6=>18|_=>6) (PPl W1.heap.size n) (λx=>x==7) (by kernel_rfl) (by kernel_rfl) (aju (by kernel_rfl)) HF S0 (λx _ v w w' h hb=>PPl.mono x v w w' h hb) ?box ?step ?tail
 case box=>
  intro x hx hal v w h
  simp only[agm,ahA,ahD]at hx
  rcases hx with rfl|rfl|rfl|rfl
  .cases hal
  .cases hal
  .cases hal
  .obtain⟨b,h1,h2,h3⟩:=h;exact⟨b,h1,(aga.1 h3).1⟩
 case step=>
  intro x hx vs w hS hP K hK
  simp only[agm,ahA,ahD]at hx
  rcases hx with rfl|rfl|rfl|rfl
  .refine iH.mk rfl (by rfl) ?_
   simp only[mP,aho,ag5,Act.put,agx,agu,agv]at hK⊢
   go_simp
   exact hK _ _ (hS.alloc hS.size _) ((af6 _ _).alloc (af7 _) _) ⟨_,rfl,hS.size,Nh _ _ _ _⟩ (λh=>absurd h (by decide))
  .refine iH.mk rfl (by rfl) ?_
   simp only[mP,aho,ag5,Act.put,agx,agu,agv]at hK⊢
   go_simp
   exact hK _ _ (hS.alloc hS.size _) ((af6 _ _).alloc (af7 _) _) ⟨_,rfl,hS.size,Nh _ _ _ _⟩ (λh=>absurd h (by decide))
  .obtain⟨q1,e1,l1,t1⟩:∃b,vs 2=.slice (some ⟨b,0,none⟩) 0 n/\W1.heap.size<=b/\Hs w 27 b n [] 0 []:=hP 2 (by simp)
   obtain⟨q2,e2,l2,t2⟩:∃b,vs 5=.slice (some ⟨b,0,none⟩) 0 n/\W1.heap.size<=b/\Hs w 88 b n [] 0 []:=hP 5 (by simp)
   refine iH.mk rfl (by rfl) ?_
   simp only[mP,aho,ag5,e1,e2,Act.put,agx,agu,agv]at hK⊢
   go_simp
   exact hK _ _ hS (af6 _ _) ⟨_,_,rfl,⟨l1,l2⟩,t1,t2⟩ (λh=>absurd h (by decide))
  .refine iH.mk rfl (by rfl) ?_
   simp only[mP,aho,ag5,Act.put,agx,agu,agv]at hK⊢
   go_simp
   exact hK _ _ (hS.alloc hS.size _) ((af6 _ _).alloc (af7 _) _) ⟨_,rfl,hS.size,aD _ _⟩ (λ_=>rfl)
 case tail=>
  intro vs w hS hP hD
  obtain⟨b1,b2,e6,⟨l1,l2⟩,t1,t2⟩:∃b1 b2,vs 6=.agg #[.slice (some ⟨b1,0,none⟩) 0 n,.slice (some ⟨b2,0,none⟩) 0 n]/\(W1.heap.size<=b1/\W1.heap.size<=b2)/\Hs w 27 b1 n [] 0 []/\Hs w 88 b2 n [] 0 []:=hP 6 (by simp)
  obtain⟨b6,e7,l6,q6⟩:∃b,vs 7=.pointer (some ⟨b,0,none⟩)/\W1.heap.size<=b/\jM w b (.slice none 0 0) (.slice none 0 0):=hP 7 (by simp)
  clear hP hD
  simp only[mP,aho,ag5,e6,e7,Act.put,agx,agu,agv,agr,agj]
  clear e6 e7
  generalize vs 2=v2
  generalize vs 5=v5
  clear vs hm1 hm2 S0
  obtain⟨c0,c1,f6⟩:=q6.cells
  have f0:=f6 0;have f1:=f6 1
  clear f6
  obtain⟨w2,hw2⟩:∃w',(w.setCell ⟨b6,0,none⟩ (.slice (some ⟨b1,0,none⟩) 0 n)).setCell ⟨b6,1,none⟩ (.slice (some ⟨b2,0,none⟩) 0 n)=w':=⟨_,rfl⟩
  have g2:w.grownBy w2 (some b6):=by rw[<-hw2];exact aM (aK _ _ _) (aK _ ⟨b6,1,none⟩ _)
  have q2:jM w2 b6 (.slice (some ⟨b1,0,none⟩) 0 n) (.slice (some ⟨b2,0,none⟩) 0 n):=by rw[<-hw2];exact(q6.set0 _).set1 _
  have hne1:=t1.Dv q6 (by decide)
  have hne2:=t2.Dv q6 (by decide)
  have HW2:aA (Below W.heap.size W w2):=ak ((Below.after B1.o hS).trans (bL g2 (by omega) (af9 B1.o.size hS.size)))
  have DJ:=ak q2;have HT1:=ak (t1.other g2 hne1);have HT2:=ak (t2.other g2 hne2)
  have nY:aA (jM w2 W.heap.size (.slice none 0 0) (.slice none 0 0)):=ak (aI g2 (au hS K1.o) (by omega))
  have HL:=ak (show W.heap.size<b1/\W.heap.size<b2/\W.heap.size<b6 by omega)
  clear g2 q2 q6 hne1 hne2 t1 t2 l1 l2 l6 hS
  gi_wp2_with fail
  clear hw2 c0 c1 f0 f1
  go_wp2_with fail
  go_loopw [21] (λiv wr=>∃(j:Nat) (E1:List En),iv=.int .i64 j/\j<=n/\Gw n0 B most g F (λk=>W.heap.size<=k) E E1 W wr/\jM wr b6 (.slice (some ⟨b1,0,none⟩) j n) (.slice (some ⟨b2,0,none⟩) j n)/\jM wr W.heap.size (.slice none 0 0) (.slice none 0 0)/\(∀y∈(t.take j).map Sy.lt,y∈syms E1)/\Hs wr 27 b1 n (xx E1 ((t.take j).map Sy.lt)) n []/\Hs wr 88 b2 n (yU ((t.take j).map Sy.lt)) n []) (λiv _=>n-(intOf iv).toNat)
  case atStart=>
   exact⟨0,E,rfl,agb _,Gw.of HP.o HW2.o,DJ.o,nY.o,λy hy=>by simp at hy,HT1.o.fin,HT2.o.fin⟩
  case round=>
   obtain⟨j,E1,rfl,hj,hG,hq,hk,hm,h1,h2⟩:=hrel
   have hpl:=fV.o.lt
   have hgl:=HT.o.lt
   by_cases hjn:j<n
   .have l1:(j:Int)<(n:Int):=by omega
    have l0:(0:Int)<=(j:Int):=by omega
    obtain⟨x,hx⟩:∃x,t[j]?=some x:=⟨_,agt (by rw[HN.o];exact hjn)⟩
    have hxt:x∈t:=agE hx
    have ca:=(HT.o.kp hG.kp (by omega)).cell hx
    obtain⟨p0,p1⟩:=(fV.o.kp hG.kp (by omega)).cells
    have htk:(t.take (j+1)).map Sy.lt=(t.take j).map Sy.lt++[Sy.lt x]:=by rw[ajB,hx,ag2];rfl
    have htl:((t.take j).map Sy.lt).length=j:=by rw[agM,agB,HN.o];omega
    have aag:=ak (ac9 hG.st (HBF.o.1 x hxt) (HBF.o.2 x hxt))
    obtain⟨T,hT⟩:=ay ((t.take j).map Sy.lt)
    rw[hT]at hm h1 h2 htk htl
    have HG:=ak hG;have HQ:=ak hq;have HK:=ak hk;have HM:=ak hm;have Ur:=ak h1;have P_:=ak h2
    have I9:=ak (And.intro htk htl);have HJ:=ak (And.intro hj hjn)
    have uq:=ak (And.intro hpl hgl)
    clear hG hq hk hm h1 h2 htk htl hx hxt hT hpl hgl
    go_wp2_with fail
    refine aag.o.mono ?_
    rintro r w1 ⟨E2,rfl,hG2,hm2⟩
    clear p0 p1 ca
    have hl6:=HL.o
    have q2:=HQ.o.kp hG2.kp (λq=>q)
    have k2:=HK.o.kp hG2.kp (λq=>q)
    have t1:=Ur.o.kp hG2.kp (by decide) (λq=>q)
    have t2:=P_.o.kp hG2.kp (by decide) (λq=>q)
    rw[<-tT hG2.ext HM.o]at t1
    have hpa:iW w1 p B g:=(fV.o.kp HG.o.kp (by have:=uq.o;omega)).kp hG2.kp (λq=>q)
    have hn1:=HP.o.lt
    have Vy:=ak (R6 hG2.st hpa q2 t1 t2 I9.o.2 (by omega) (by omega) hm2 (by omega) (by omega) (by omega))
    have HG2:=ak hG2;have nY:=ak k2;have kZ:=ak hm2
    clear q2 k2 t1 t2 hpa hG2 hm2 hl6
    go_wp2_with fail
    refine Vy.o.mono ?_
    rintro r w4 ⟨rfl,hG3,q3,t3,t4⟩
    have HR:aA (Gw n0 B most g F (λk=>W.heap.size<=k) E E2 W w4):=ak ((HG.o.trans HG2.o.free).trans (hG3.mono λk _ hk=>by have:=HL.o;omega))
    have HQ3:=ak q3;have HT3:=ak t3;have qG:=ak t4
    have qH:=ak (nY.o.kp hG3.kp (by have:=HL.o;omega))
    clear hG3 q3 t3 t4
    go_wp2_with fail
    go_roundw
    case rel=>
     refine⟨j+1,E2,by go_num,by have:=HJ.o;omega,HR.o,HQ3.o,qH.o,λy hy=>?_,?_,?_⟩
     .rw[I9.o.1]at hy
      rcases ags.1 hy with hy|hy
      .exact HG2.o.ext.mem (HM.o y hy)
      .rw[agl.1 hy];exact kZ.o
     .rw[I9.o.1];exact HT3.o
     .rw[I9.o.1];exact qG.o
    case measure=>have:=HJ.o;simp[intOf];omega
   .have l1:¬(j:Int)<(n:Int):=by omega
    obtain rfl:j=n:=by omega
    have htk:t.take j=t:=agI (by rw[HN.o];omega)
    rw[htk]at hm h1 h2
    obtain⟨d0,d1,-⟩:=hq.cells
    obtain⟨c0,c1,f6⟩:=hk.cells
    have f0:=f6 0;have f1:=f6 1
    obtain⟨w3,hw3⟩:∃w',(wr.setCell ⟨W.heap.size,0,none⟩ (.slice (some ⟨b1,0,none⟩) j j)).setCell ⟨W.heap.size,1,none⟩ (.slice (some ⟨b2,0,none⟩) j j)=w':=⟨_,rfl⟩
    have g3:wr.grownBy w3 (some W.heap.size):=by rw[<-hw3];exact aM (aK _ _ _) (aK _ ⟨W.heap.size,1,none⟩ _)
    have q3:jM w3 W.heap.size (.slice (some ⟨b1,0,none⟩) j j) (.slice (some ⟨b2,0,none⟩) j j):=by rw[<-hw3];exact(hk.set0 _).set1 _
    have HR:aA (Gw n0 B most g F (λ_=>False) E E1 W w3):=ak ((hG.trans (Gw.put hG.st g3 hk (by decide) HP.o.lt (af7 _))).mono λk hk h=>by omega)
    have HT3:=ak (h1.other g3 (by have:=HL.o;omega) |>.fin (k2:=0));have qG:=ak (h2.other g3 (by have:=HL.o;omega) |>.fin (k2:=0))
    have HM:=ak hm;have HQ3:=ak q3
    clear hG hq hk hm h1 h2 g3 q3 f6 htk
    go_wp2_with fail
    obtain⟨x0,x1,-⟩:=HQ3.o.cells
    refine af_ (v:=.tuple #[.agg #[.slice (some ⟨b1,0,none⟩) j j,.slice (some ⟨b2,0,none⟩) j j],.nilIface]) (by simp[results,Tryz.results138,go_sem,x0,x1]) rfl ?_
    exact⟨b1,b2,rfl,by have:=HL.o;omega,E1,HR.o,HM.o,HT3.o,qG.o⟩
def VY(E:List En):Option Sy->Nat
 |none=>0
 |some y=>num E y
def jK(E:List En)(i:It):List Value:=[vI (num E i.x),vI (VY E i.nx),vK (key i.x),vI i.times]
theorem bG(E:List En)(i:It):(jK E i).length=4:=rfl
theorem eF(E:List En)(i:It):∀u∈jK E i,u.oneCell'=true:=by simp[jK,Value.oneCell']
def r_(E:List En)(l:List It):Prop:=∀i∈l,i.x∈syms E/\(∀y,i.nx=some y->y∈syms E)/\i.times<=1152921504606846976
abbrev Its(lo:Nat)(W:World)(E:List En)(v:Value)(l:List It):Prop:=aP lo W 254 4 (jK E) v l
theorem Pd{A B:List En}(h:Ext A B){i:It}(hi:i.x∈syms A/\(∀y,i.nx=some y->y∈syms A)/\i.times<=1152921504606846976):jK B i=jK A i:=by
 obtain⟨x,nx,t⟩:=i
 unfold jK
 rw[eZ h hi.1]
 cases nx with
 |none=>rfl
 |some y=>show[_,vI (num B y),_,_]=[_,vI (num A y),_,_];rw[eZ h (hi.2.1 y rfl)]
theorem r_.ext{A B:List En}{l:List It}(h:r_ A l)(hx:Ext A B):r_ B l:=λi hi=>⟨hx.mem (h i hi).1,λy e=>hx.mem ((h i hi).2.1 y e),(h i hi).2.2⟩
theorem r_.app{E:List En}{l m:List It}(h:r_ E l)(k:r_ E m):r_ E (l++m):=λi hi=>by
 rcases ags.1 hi with q|q
 .exact h i q
 .exact k i q
theorem Its.gw{n0 B most g lo:Nat}{F:List Sy}{X:Nat->Prop}{E E':List En}{W w':World}{v:Value}{l:List It}(h:Its lo W E v l)(hg:Gw n0 B most g F X E E' W w')(hm:r_ E l)(hX:∀q,v.ownBlock=some q->¬X q):Its lo w' E' v l:=
 (hg.kp.sl h (by decide) hX).congr λi hi=>Pd hg.ext (hm i hi)
theorem Gw.item{n0 B most g lo:Nat}{F:List Sy}{E:List En}{W w':World}(h:gV n0 B most g F E W)(ho:bS [254] W w')(hb:Below lo W w')(hlo:n0<=lo):Gw n0 B most g F (λq=>lo<=q) E E W w':=by
 have hb0:=hb.mono hlo
 refine⟨Ext.refl _,⟨h.st.OG ho (by decide) (by decide),h.wf,h.kt.Vs ho hb0 (by decide) (by decide),h.sub,h.len,h.most,h.txt⟩,hb0,⟨λt _ k hk cs fz e=>?_,λv ⟨cs,fz,e1,e2⟩=>⟨cs,fz,ho.cells e1 (by decide),e2⟩,λk es c e _=>ho.block k _ e (λ_ _ _ q=>by cases q)⟩⟩
 rw[hb.block k (by omega)];exact e
structure bQ(W:World)(E:List En)(lo sb pa:Nat)(s:iD)(cs:Array Value)(vL vR vM:Value):Prop where
 left:J6 W E 251 lo sb 1 pa false s.L cs vL
 right:J6 W E 251 lo sb 6 pa true s.R cs vR
 c0:cs[0]?=some (ku pa)
 c11:cs[11]?=some vM
 mid:Its lo W E vM s.mid
 mem:r_ E s.mid
 VZ:∀q,vL.ownBlock=some q->vR.ownBlock≠some q
 low:lo<=sb
theorem fO{n0 lo sb:Nat}(h:n0<=lo)(k:lo<=sb):EdL n0 lo sb 251:=⟨h,k,by decide,by decide,by decide⟩
section
variable {W w':World} {E:List En} {lo sb pa:Nat} {s:iD} {cs:Array Value} {vL vR vM:Value}
theorem bQ.blk(h:bQ W E lo sb pa s cs vL vR vM):W.heap[sb]?=some (.cells cs 251 (0,0)):=h.left.r.blk
theorem bQ.lt(h:bQ W E lo sb pa s cs vL vR vM):sb<W.heap.size:=h.left.r.lt
theorem bQ.cell0(h:bQ W E lo sb pa s cs vL vR vM):W.cell? ⟨sb,0,none⟩=some (ku pa):=by
 simp only[World.cell?,h.blk];simpa using h.c0
theorem bQ.jD(h:bQ W E lo sb pa s cs vL vR vM):W.cell? ⟨sb,11,none⟩=some vM:=by
 simp only[World.cell?,h.blk];simpa using h.c11
theorem bQ.free(h:bQ W E lo sb pa s cs vL vR vM)(j:Nat):W.frozen? ⟨sb,j,none⟩=false:=by simp[World.frozen?,h.blk]
theorem bQ.sj(h:bQ W E lo sb pa s cs vL vR vM){q:Nat}(hq:vM.ownBlock=some q):q≠sb/\vL.ownBlock≠some q/\vR.ownBlock≠some q/\lo<=q/\q<W.heap.size:=by
 obtain⟨a,cur,hc⟩:=h.mid.blk hq
 refine⟨?_,λe=>?_,λe=>?_,a,(aga.1 hc).1⟩
 .rintro rfl
  have:=h.blk
  rw[hc]at this
  injection this with this;injection this with _ this _
  exact absurd this (by decide)
 .obtain⟨-,cur',hc'⟩:=h.left.r.path.blk e
  rw[hc]at hc'
  injection hc' with hc';injection hc' with _ hc' _
  exact absurd hc' (by decide)
 .obtain⟨-,cur',hc'⟩:=h.right.r.path.blk e
  rw[hc]at hc'
  injection hc' with hc';injection hc' with _ hc' _
  exact absurd hc' (by decide)
theorem bQ.call{n0 B most g:Nat}{F:List Sy}{E':List En}(h:bQ W E lo sb pa s cs vL vR vM)(hwf:Wf E)(hg:Gw n0 B most g F (λ_=>False) E E' W w'):bQ w' E' lo sb pa s cs vL vR vM:=
 ⟨h.left.gw hg hwf (by decide) (λq=>q) (λ_ _ q=>q),h.right.gw hg hwf (by decide) (λq=>q) (λ_ _ q=>q),h.c0,h.c11,h.mid.gw hg h.mem (λ_ _ q=>q),h.mem.ext hg.ext,h.VZ,h.low⟩
theorem bQ.below(h:bQ W E lo sb pa s cs vL vR vM)(hb:Below W.heap.size W w'):bQ w' E lo sb pa s cs vL vR vM:=
 ⟨h.left.below hb,h.right.below hb,h.c0,h.c11,h.mid.below hb,h.mem,h.VZ,h.low⟩
theorem bQ.opL{n0 B most g:Nat}{F:List Sy}(h:bQ W E lo sb pa s cs vL vR vM)(hwf:Wf E){e:Ed}(hE:He n0 B most g F E W 251 lo sb 1 pa false cs vL e w'):∃cs' vL',bQ w' E lo sb pa ⟨e,s.mid,s.R⟩ cs' vL' vR vM/\Gw n0 B most g F (λq=>lo<=q) E E W w':=by
 obtain⟨cs',v',he,hb,ho,hg⟩:=hE
 have hneR:∀q,vR.ownBlock=some q->¬G_ sb vL W.heap.size q:=λq hq=>by
  have h1:=h.right.r.ne (by decide) hq
  have h2:=(h.right.r.Ux hq).2
  rintro(e|e|e)
  .exact h1 e
  .exact h.VZ q e hq
  .omega
 have aaB:∀q,vM.ownBlock=some q->¬G_ sb vL W.heap.size q:=λq hq=>by
  obtain⟨a,b,c,d,e⟩:=h.sj hq
  rintro(q1|q1|q1)
  .exact a q1
  .exact b q1
  .omega
 refine⟨cs',v',⟨he,⟨⟨he.r.blk,by rw[hb.get _ (.inr (by omega))];exact h.right.r.c0,by rw[hb.get _ (.inr (by omega))];exact h.right.r.c1,by rw[hb.get _ (.inr (by omega))];exact h.right.r.c2,by rw[hb.get _ (.inr (by omega))];exact h.right.r.c3,by rw[hb.get _ (.inr (by omega))];exact h.right.r.c4,hg.kp.sl h.right.r.path (by decide) hneR,h.right.r.mem⟩,h.right.sym⟩,by rw[hb.get _ (.inl (by omega))];exact h.c0,by rw[hb.get _ (.inr (by omega))];exact h.c11,h.mid.gw hg h.mem aaB,h.mem,λq hq hq2=>?_,h.low⟩,hg.mono λq _ hq=>?_⟩
 .rcases ho with e|⟨r,e,hr⟩
  .exact h.VZ q (by rw[<-e];exact hq) hq2
  .rw[hq]at e
   cases e
   have:=(h.right.r.Ux hq2).2
   omega
 .have:=h.low
  rcases hq with q1|q1|q1
  .omega
  .exact(h.left.r.Ux q1).1
  .have:=h.lt;omega
theorem bQ.UC{n0 B most g:Nat}{F:List Sy}(h:bQ W E lo sb pa s cs vL vR vM)(hwf:Wf E){e:Ed}(hE:He n0 B most g F E W 251 lo sb 6 pa true cs vR e w'):∃cs' vR',bQ w' E lo sb pa ⟨s.L,s.mid,e⟩ cs' vL vR' vM/\Gw n0 B most g F (λq=>lo<=q) E E W w':=by
 obtain⟨cs',v',he,hb,ho,hg⟩:=hE
 have hneL:∀q,vL.ownBlock=some q->¬G_ sb vR W.heap.size q:=λq hq=>by
  have h1:=h.left.r.ne (by decide) hq
  have h2:=(h.left.r.Ux hq).2
  rintro(e|e|e)
  .exact h1 e
  .exact h.VZ q hq e
  .omega
 have aaB:∀q,vM.ownBlock=some q->¬G_ sb vR W.heap.size q:=λq hq=>by
  obtain⟨a,b,c,d,e⟩:=h.sj hq
  rintro(q1|q1|q1)
  .exact a q1
  .exact c q1
  .omega
 refine⟨cs',v',⟨⟨⟨he.r.blk,by rw[hb.get _ (.inl (by omega))];exact h.left.r.c0,by rw[hb.get _ (.inl (by omega))];exact h.left.r.c1,by rw[hb.get _ (.inl (by omega))];exact h.left.r.c2,by rw[hb.get _ (.inl (by omega))];exact h.left.r.c3,by rw[hb.get _ (.inl (by omega))];exact h.left.r.c4,hg.kp.sl h.left.r.path (by decide) hneL,h.left.r.mem⟩,h.left.sym⟩,he,by rw[hb.get _ (.inl (by omega))];exact h.c0,by rw[hb.get _ (.inr (by omega))];exact h.c11,h.mid.gw hg h.mem aaB,h.mem,λq hq hq2=>?_,h.low⟩,hg.mono λq _ hq=>?_⟩
 .rcases ho with e|⟨r,e,hr⟩
  .exact h.VZ q hq (by rw[<-e];exact hq2)
  .rw[hq2]at e
   cases e
   have:=(h.left.r.Ux hq).2
   omega
 .have:=h.low
  rcases hq with q1|q1|q1
  .omega
  .exact(h.right.r.Ux q1).1
  .have:=h.lt;omega
theorem bQ.SK{n0 B most g:Nat}{F:List Sy}(h:bQ W E lo sb pa s cs vL vR vM)(hP:gV n0 B most g F E W)(hlo:n0<=lo)(ho:bS [254] W w')(hb:Below lo W w'){v:Value}{l:List It}(hs:Its lo w' E v l)(hm:r_ E l):
    bQ (w'.setCell ⟨sb,11,none⟩ v) E lo sb pa ⟨s.L,l,s.R⟩ (cs.setIfInBounds 11 v) vL vR v/\Gw n0 B most g F (λq=>lo<=q) E E W (w'.setCell ⟨sb,11,none⟩ v)/\w'.heap[sb]?=some (.cells cs 251 (0,0)):=by
 have hblk:w'.heap[sb]?=some (.cells cs 251 (0,0)):=ho.cells h.blk (by decide)
 have hpk:∀{u:Value} {p:gI},G9 lo W E u p->G9 lo w' E u p:=λhp=>by
  refine⟨hp.1,?_⟩
  rcases hp.2 with hn|⟨g,cap,cur,rfl,hb,hg,rest⟩
  .exact .inl hn
  .exact .inr ⟨g,cap,cur,rfl,hb,ho.cells hg (by decide),rest⟩
 have hne:∀{j:Nat},j≠11->(cs.setIfInBounds 11 v)[j]?=cs[j]?:=λhj=>iP (λe=>hj e.symm)
 have hg1:=Gw.item hP ho hb hlo
 refine⟨⟨⟨⟨aC _ hblk,by rw[hne (by omega)];exact h.left.r.c0,by rw[hne (by omega)];exact h.left.r.c1,by rw[hne (by omega)];exact h.left.r.c2,by rw[hne (by omega)];exact h.left.r.c3,by rw[hne (by omega)];exact h.left.r.c4,(hpk h.left.r.path).setCell _ hblk (by decide),h.left.r.mem⟩,h.left.sym⟩,
  ⟨⟨aC _ hblk,by rw[hne (by omega)];exact h.right.r.c0,by rw[hne (by omega)];exact h.right.r.c1,by rw[hne (by omega)];exact h.right.r.c2,by rw[hne (by omega)];exact h.right.r.c3,by rw[hne (by omega)];exact h.right.r.c4,(hpk h.right.r.path).setCell _ hblk (by decide),h.right.r.mem⟩,h.right.sym⟩,
  by rw[hne (by omega)];exact h.c0,Cn h.c11,hs.setCell _ hblk (by decide),hm,h.VZ,h.low⟩,hg1.trans (Gw.put hg1.st (aK _ _ _) hblk (by decide) (af9 hlo h.low) h.low),hblk⟩
end
def kC(n0 B most g:Nat)(F:List Sy)(E:List En)(W:World)(lo sb pa:Nat)(s:iD)(E':List En)(w':World):Prop:=∃cs vL vR vM,bQ w' E' lo sb pa s cs vL vR vM/\Gw n0 B most g F (λq=>lo<=q) E E' W w'
def SL:Option Sy->Nat
 |none=>0
 |some x=>key x
theorem AV(E:List En)(e:Ed):Uw E e=VY E (e.map (·.2))/\O7 e=SL (e.map (·.2)):=by
 cases e with
 |none=>exact⟨rfl,rfl⟩
 |some q=>exact⟨rfl,rfl⟩
section
variable {W:World} {E:List En} {lo sb pa:Nat} {s:iD} {cs:Array Value} {vL vR vM:Value}
theorem bQ.cL(h:bQ W E lo sb pa s cs vL vR vM):W.cell? ⟨sb,4,none⟩=some (vI (Uw E s.L))/\W.cell? ⟨sb,5,none⟩=some (vK (O7 s.L)):=⟨h.left.r.cells.2.2.2.1,h.left.r.cells.2.2.2.2.1⟩
theorem bQ.cR(h:bQ W E lo sb pa s cs vL vR vM):W.cell? ⟨sb,9,none⟩=some (vI (Uw E s.R))/\W.cell? ⟨sb,10,none⟩=some (vK (O7 s.R)):=⟨h.right.r.cells.2.2.2.1,h.right.r.cells.2.2.2.2.1⟩
theorem bQ.Gc(h:bQ W E lo sb pa s cs vL vR vM)(hm:s.mid=[]):∃a cap,vM=.slice a 0 cap:=by
 obtain⟨a,c,e⟩:=h.mid.len
 rw[hm]at e
 exact⟨a,c,e⟩
theorem bQ.xI(h:bQ W E lo sb pa s cs vL vR vM)(hm:s.mid≠[]):∃g cap,vM=.slice (some ⟨g,0,none⟩) s.mid.length cap/\s.mid.length<=cap/\∀(W':World),Below W.heap.size W W'->∀(j:Nat) (i:It),s.mid[j]?=some i->W'.cell? ⟨g,j*4,none⟩=some (vI (num E i.x))/\W'.cell? ⟨g,j*4+1,none⟩=some (vI (VY E i.nx))/\W'.cell? ⟨g,j*4+2,none⟩=some (vK (key i.x))/\W'.cell? ⟨g,j*4+3,none⟩=some (vI i.times):=by
 have hmid:=h.mid
 rcases hmid.shape with⟨-,e⟩|⟨g,cap,rfl,h1,h2⟩
 .exact absurd e hm
 .refine⟨g,cap,rfl,h1,λW' hb j i hj=>?_⟩
  obtain⟨hlt,he⟩:=agA.1 hj
  have hs:=hmid.below hb
  have c0:=aP.cell (bG E) hs hlt (j:=0) (by omega)
  have c1:=aP.cell (bG E) hs hlt (j:=1) (by omega)
  have c2:=aP.cell (bG E) hs hlt (j:=2) (by omega)
  have c3:=aP.cell (bG E) hs hlt (j:=3) (by omega)
  rw[he]at c0 c1 c2 c3
  exact⟨c0,c1,c2,c3⟩
theorem za(h:bQ W E lo sb pa s cs vL vR vM)(hl:s.mid.length<=1000000):
    Calls Tryz.prog 207 #[.pointer (some ⟨sb,0,none⟩)] W λe w'=>e=.returned (.tuple #[vI (VY E (j5 s)),vK (SL (j5 s))])/\Below W.heap.size W w':=by
 have HF:∀f,Fence.wide.fn f:=λ_=>trivial
 cases hm:s.mid with
 |nil=>
  obtain⟨a,cap,rfl⟩:=h.Gc hm
  have hf:j5 s=s.R.map (·.2):=by unfold j5;rw[hm]
  rw[hf,<-(AV E s.R).1,<-(AV E s.R).2]
  obtain⟨i,hi⟩:=ay (Uw E s.R)
  obtain⟨k,hk⟩:=ay (O7 s.R)
  rw[hi,hk]
  have c11:=h.jD
  have e9:∀w,Below W.heap.size W w->w.cell? ⟨sb,9,none⟩=some (.int .i64 i):=λw hw=>by rw[<-hi];exact(h.below hw).cR.1
  have e10:∀w,Below W.heap.size W w->w.cell? ⟨sb,10,none⟩=some (.int .u64 k):=λw hw=>by rw[<-hk];exact(h.below hw).cR.2
  clear h hm hl hf hi hk
  go_enter Tryz.func207,Tryz.ntmps207
  go_wp2_with fail
  refine aU (Below W.heap.size W) ?_
  have S0:Below W.heap.size W W.drew:=(af6 _ _).drew
  obtain⟨we,bU⟩:=ay (W.drew)
  rw[bU]at S0⊢
  refine bJ 0 1 2 3 4 5 ?_
  refine bJ 6 7 8 9 10 11 ?_
  refine aO ?_
  go_wp2_with fail
  exact af_ (v:=.tuple #[.int .i64 i,.int .u64 k]) (by simp[results,Tryz.results207,go_sem]) rfl ⟨rfl,S0⟩
 |cons it l=>
  obtain⟨g,cap,rfl,hc,hat⟩:=h.xI (by rw[hm];simp)
  have hf:j5 s=some it.x:=by unfold j5;rw[hm]
  rw[hf]
  show Calls _ _ _ _ λe w'=>e=.returned (.tuple #[vI (num E it.x),vK (key it.x)])/\_
  obtain⟨i,hi⟩:=ay (num E it.x)
  obtain⟨k,hk⟩:=ay (key it.x)
  rw[hi,hk]
  have c11:=h.jD
  have e9:∀w,Below W.heap.size W w->w.cell? ⟨g,0,none⟩=some (.int .i64 i):=λw hw=>by
   have:=(hat w hw 0 it (by rw[hm];rfl)).1
   rw[<-hi];exact this
  have e10:∀w,Below W.heap.size W w->w.cell? ⟨g,2,none⟩=some (.int .u64 k):=λw hw=>by
   have:=(hat w hw 0 it (by rw[hm];rfl)).2.2.1
   rw[<-hk];exact this
  have e11:∀w,Below W.heap.size W w->w.cell? ⟨sb,11,none⟩=some (.slice (some ⟨g,0,none⟩) s.mid.length cap):=λw hw=>(h.below hw).jD
  obtain⟨n,hn⟩:=ay (s.mid.length)
  rw[hn]at c11 e11 hl
  have hn1:(n:Int)>0:=by rw[hm]at hn;simp at hn;omega
  have hn2:0<n:=by omega
  clear h hm hf hi hk hat hc hn
  go_enter Tryz.func207,Tryz.ntmps207
  go_wp2_with fail
  refine aU (Below W.heap.size W) ?_
  have S0:Below W.heap.size W W.drew:=(af6 _ _).drew
  obtain⟨we,bU⟩:=ay (W.drew)
  rw[bU]at S0⊢
  refine bJ 0 1 2 3 4 5 ?_
  refine bJ 6 7 8 9 10 11 ?_
  refine tk4 12 13 14 15 ?_
  refine aO ?_
  go_wp2_with fail
  exact af_ (v:=.tuple #[.int .i64 i,.int .u64 k]) (by simp[results,Tryz.results207,go_sem]) rfl ⟨rfl,S0⟩
theorem Cu(h:bQ W E lo sb pa s cs vL vR vM)(hl:s.mid.length<=1000000):
    Calls Tryz.prog 211 #[.pointer (some ⟨sb,0,none⟩)] W λe w'=>e=.returned (.tuple #[vI (VY E (jT s)),vK (SL (jT s))])/\Below W.heap.size W w':=by
 have HF:∀f,Fence.wide.fn f:=λ_=>trivial
 rcases agR s.mid with hm|⟨l,it,hm⟩
 case' _=>
  obtain⟨a,cap,rfl⟩:=h.Gc hm
  have hf:jT s=s.L.map (·.2):=by unfold jT;rw[hm];rfl
  rw[hf,<-(AV E s.L).1,<-(AV E s.L).2]
  obtain⟨i,hi⟩:=ay (Uw E s.L)
  obtain⟨k,hk⟩:=ay (O7 s.L)
  rw[hi,hk]
  have c11:=h.jD
  have e9:∀w,Below W.heap.size W w->w.cell? ⟨sb,4,none⟩=some (.int .i64 i):=λw hw=>by rw[<-hi];exact(h.below hw).cL.1
  have e10:∀w,Below W.heap.size W w->w.cell? ⟨sb,5,none⟩=some (.int .u64 k):=λw hw=>by rw[<-hk];exact(h.below hw).cL.2
  clear h hm hl hf hi hk
 rotate_left
 case' _=>
  rw[agO]at hm
  obtain⟨g,cap,rfl,hc,hat⟩:=h.xI (by rw[hm];simp)
  have hf:jT s=some it.x:=by unfold jT;rw[hm,ahy]
  rw[hf]
  show Calls _ _ _ _ λe w'=>e=.returned (.tuple #[vI (num E it.x),vK (key it.x)])/\_
  obtain⟨i,hi⟩:=ay (num E it.x)
  obtain⟨k,hk⟩:=ay (key it.x)
  rw[hi,hk]
  obtain⟨m,hlm⟩:=ay (l.length)
  have hn:s.mid.length=m+1:=by rw[hm,af8,hlm];rfl
  have c11:=h.jD
  have hg:s.mid[m]?=some it:=by rw[hm,agN (by omega),hlm];simp
  have e9:∀w,Below W.heap.size W w->w.cell? ⟨g,m*4,none⟩=some (.int .i64 i):=λw hw=>by
   rw[<-hi];exact(hat w hw m it hg).1
  have e10:∀w,Below W.heap.size W w->w.cell? ⟨g,m*4+2,none⟩=some (.int .u64 k):=λw hw=>by
   rw[<-hk];exact(hat w hw m it hg).2.2.1
  have e11:∀w,Below W.heap.size W w->w.cell? ⟨sb,11,none⟩=some (.slice (some ⟨g,0,none⟩) (m+1) cap):=λw hw=>by rw[<-hn];exact(h.below hw).jD
  rw[hn]at c11 hl
  have hm1:m<=1000000:=by omega
  have l1:IntKind.i64.wrap (m:Int)=(m:Int):=by rw[agd];omega
  have l0:(0:Int)<=(m:Int):=by omega
  have l2:(m:Int)<(m:Int)+1:=by omega
  clear h hm hf hi hk hat hc hn hg hlm hl
 rotate_left
 all_goals
  go_enter Tryz.func211,Tryz.ntmps211
  go_wp2_with fail
  refine aU (Below W.heap.size W) ?_
  have S0:Below W.heap.size W W.drew:=(af6 _ _).drew
  obtain⟨we,bU⟩:=ay (W.drew)
  rw[bU]at S0⊢
  refine bJ 0 1 2 3 4 5 ?_
  refine bJ 6 7 8 9 10 11 ?_
 rotate_left
 case' _=>
  refine bJ 12 13 14 15 16 17 ?_
  refine tk2 18 19 ?_
 all_goals
  refine aO ?_
  go_wp2_with fail
  exact af_ (v:=.tuple #[.int .i64 i,.int .u64 k]) (by simp[results,Tryz.results211,go_sem]) rfl ⟨rfl,S0⟩
end
theorem mK(W:World)(x y n:Nat)(hx:x<18446744073709551616)(hy:y<18446744073709551616)(hn:n<=9223372036854775807):
    Calls Tryz.prog 212 #[.int .u64 x,.int .u64 y,.int .i64 n] W λe w'=>e=.returned (.bool (fits n x y))/\w'=W:=by
 have A1:=ak (Qw W x y n hx hy hn)
 clear hx hy hn
 go_enter Tryz.func212,Tryz.ntmps212
 go_wp2_with fail
 refine A1.o.mono ?_
 rintro e w ⟨rfl,rfl⟩
 go_wp2_with fail
 exact af_ (v:=.bool (fits n x y)) (by simp[results,Tryz.results212,go_sem]) rfl ⟨rfl,rfl⟩
theorem zP(W:World)(n:Nat)(hn:n<=9223372036854775807):
    Calls Tryz.prog 180 #[.int .i64 n] W λe w'=>e=.returned (.tuple #[.int .i64 (Au n).1,.int .u64 (Au n).2.1,.bool (Au n).2.2])/\w'=W:=by
 have A1:=ak (uR W n hn)
 clear hn
 go_enter Tryz.func180,Tryz.ntmps180
 go_wp2_with fail
 refine A1.o.mono ?_
 rintro e w ⟨rfl,rfl⟩
 go_wp2_with fail
 exact af_ (v:=.tuple #[.int .i64 (Au n).1,.int .u64 (Au n).2.1,.bool (Au n).2.2]) (by simp[results,Tryz.results180,go_sem]) rfl ⟨rfl,rfl⟩
theorem Nr{n:Nat}(h:n%2=0)(h2:2<=n):(Au n).2.2=f_ n:=by
 have e:xV n=((n/2-1)%123,true):=by unfold xV;rw[af4 (by omega)]
 unfold Au f_
 rw[e]
 dsimp only
 by_cases q:(n/2-1)%123=122
 .rw[af4 (by simp),af5 q]
  exact(agw ⟨h,h2,q⟩).symm
 .rw[af4 (by simp),af4 q]
  exact(agD (λe=>q e.2.2)).symm
def iC(sb:Nat)(cs:Array Value)(w:World):Prop:=w.heap[sb]?=some (.cells cs 251 (0,0))
def Qf(e:Ed):Prop:=∀p x,e=some (p,x)->EK p/\(∀f∈p,aQ f.1+p.length<=1000000)/\p.length<=1000000
theorem iC.at{sb:Nat}{cs:Array Value}{w:World}(h:iC sb cs w){j:Nat}{v:Value}(hj:cs[j]?=some v):w.cell? ⟨sb,j,none⟩=some v:=by
 simp only[World.cell?,show w.heap[sb]?=_ from h]
 simpa using hj
theorem kU(n:Nat)(p:gI):(gD n p=0/\∀y h q,p=(y,h)::q->aQ y≠n)\/(∃y h q,p=(y,h)::q/\aQ y=n/\gD n p=h):=by
 cases p with
 |nil=>exact .inl ⟨rfl,λy h q e=>by cases e⟩
 |cons f q=>
  obtain⟨y,h⟩:=f
  by_cases hl:aQ y=n
  .exact .inr ⟨y,h,q,rfl,hl,by rw[tu,af5 hl]⟩
  .exact .inl ⟨by rw[tu,af4 hl],λy' h' q' e=>by injection e with e1 _;injection e1 with e3 _;rw[<-e3];exact hl⟩
theorem su{p:gI}{x:Sy}(h:Qf (some (p,x))):EK p/\(∀y h q,p=(y,h)::q->1<=h)/\(∀y h q,p=(y,h)::q->p.length+aQ y<=1000000)/\∀f∈p,aQ f.1+p.length<=1000000:=by
 obtain⟨a,b,c⟩:=h p x rfl
 exact⟨a,λy h q e=>(a (y,h) (by rw[e];simp)).1,λy h q e=>by
  have h1:aQ y+p.length<=1000000:=b (y,h) (by rw[e];simp)
  omega,b⟩
theorem jy{W w1:World}{n0 B most g:Nat}{F:List Sy}{E:List En}{lo sb pa:Nat}{s:iD}{cs:Array Value}{vL vR vM:Value}(hS:bQ W E lo sb pa s cs vL vR vM)(hP:gV n0 B most g F E W)(hlo:n0<=lo)(hb:Below W.heap.size W w1){l:List It}{e:Ending}{w2:World}(hI:vD lo (jK E) w1 l e w2)(hm:r_ E l):
    ∃a m c,e=.returned (.slice a m c)/\iC sb cs w2/\bQ (w2.setCell ⟨sb,11,none⟩ (.slice a m c)) E lo sb pa ⟨s.L,l,s.R⟩ (cs.setIfInBounds 11 (.slice a m c)) vL vR (.slice a m c)/\Gw n0 B most g F (λq=>lo<=q) E E W (w2.setCell ⟨sb,11,none⟩ (.slice a m c)):=by
 obtain⟨v',rfl,hs,ho,hbl⟩:=hI
 obtain⟨a,c,e⟩:=hs.len
 have hS1:=hS.below hb
 have h:=hS1.SK (hP.below hb) hlo ho hbl hs hm
 subst e
 exact⟨a,l.length,c,rfl,h.2.2,h.1,(Gw.of hP hb).trans h.2.1⟩
theorem Cv{n0 B most g:Nat}{F:List Sy}{E:List En}{W:World}(h:gV n0 B most g F E W){lo sb pa n:Nat}{s:iD}{cs:Array Value}{vL vR vM:Value}(hlo:n0<=lo)(hp:iW W pa B g)(hpa:pa<lo)(hS:bQ W E lo sb pa s cs vL vR vM)(hB:Qf s.L)(kM:s.mid.length<=900000)(hn:n<=100000):
    Calls Tryz.prog 181 #[.pointer (some ⟨sb,0,none⟩),.int .i64 ((n+1:Nat):Int)] W λe w'=>e=.returned (.tuple #[])/\kC n0 B most g F E W lo sb pa (bI n s) E w':=by
 have HF:∀f,Fence.wide.fn f:=λ_=>trivial
 have jW:aA (∀w',Below W.heap.size W w'->bI n s=s->kC n0 B most g F E W lo sb pa (bI n s) E w'):=ak λw' hb e=>by rw[e];exact⟨_,_,_,_,hS.below hb,Gw.of h hb⟩
 cases hL:s.L with
 |none=>
  have c4:=hS.cL.1
  rw[hL]at c4
  replace c4:W.cell? ⟨sb,4,none⟩=some (.int .i64 0):=c4
  have he:bI n s=s:=by unfold bI;rw[hL]
  have HR:=ak (jW.o W (af6 _ _) he)
  clear h hlo hp hpa hS hB kM hL he jW
  go_enter Tryz.func181,Tryz.ntmps181
  go_wp2_with fail
  exact af_ (v:=.tuple #[]) (by simp[results,Tryz.results181,go_sem]) rfl ⟨rfl,HR.o⟩
 |some q0=>
  obtain⟨p,x⟩:=q0
  rw[hL]at hB
  have hx:=hS.left.sym p x hL
  have DX:J6 W E 251 lo sb 1 pa false (some (p,x)) cs vL:=by rw[<-hL];exact hS.left
  have hr:iq W E 251 lo sb 1 pa false p (num E x) (key x) cs vL:=DX.r
  obtain⟨d1,d2,d3,d4⟩:=su hB
  obtain⟨ix,hix⟩:=ay (num E x)
  obtain⟨kx,hkx⟩:=ay (key x)
  have c4:=hS.cL.1;have c5:=hS.cL.2
  rw[hL]at c4 c5
  replace c4:W.cell? ⟨sb,4,none⟩=some (.int .i64 ix):=by rw[<-hix];exact c4
  replace c5:W.cell? ⟨sb,5,none⟩=some (.int .u64 kx):=by rw[<-hkx];exact c5
  have hi0:¬(ix:Int)=0:=by have:=(aS hx.1).1;omega
  have Gf:((ix:Int)==0)=false:=agh.2 hi0
  have hkl:kx<18446744073709551616:=by have:=lT x;omega
  have hpl:=(hB p x rfl).2.2
  have HS:=ak hS;have HP:=ak h;have fV:=ak hp;have eG:=ak (And.intro hlo hpa)
  have HX:=ak (And.intro hix (And.intro hkx hx));have HL:=ak hL
  have HD:=ak (And.intro d1 (And.intro d2 (And.intro d3 d4)))
  have XM:=ak (hr.pa (fO hlo hS.low) hp)
  by_cases hgo:gD (n+1) p=2\/(gD (n+1) p=0/\¬(∃z,j5 s=some z/\fits (n+1) (key x) (key z)=true))
  .have he:bI n s=s:=by
    unfold bI
    rw[hL]
    dsimp only
    rcases hgo with q|q
    .rw[af5 q]
    .by_cases q2:gD (n+1) p=2
     .rw[af5 q2]
     .rw[af4 q2,af5 q]
   have HR:aA (∀w',Below W.heap.size W w'->kC n0 B most g F E W lo sb pa (bI n s) E w'):=ak λw' hb=>jW.o w' hb he
   rcases kU (n+1) p with⟨h0,hno⟩|⟨y,h',q,hpq,pK,hh⟩
   .have hfs:¬(∃z,j5 s=some z/\fits (n+1) (key x) (key z)=true):=by
     rcases hgo with q|q
     .omega
     .exact q.2
    have jg:=ak (d9 hr hpl hno)
    have jZ:=ak (za hS (by omega))
    cases hz:j5 s with
    |none=>
     rw[hz]at jZ
     replace jZ:aA (Calls Tryz.prog 207 #[.pointer (some ⟨sb,0,none⟩)] W λe w'=>e=.returned (.tuple #[.int .i64 0,.int .u64 0])/\Below W.heap.size W w'):=jZ
     clear h hlo hp hpa hS hB kM hL he jW hgo hx DX hr d1 d2 d3 d4 hix hkx hfs hz h0 hno hpl
     go_enter Tryz.func181,Tryz.ntmps181
     go_wp2_with fail
     refine jg.o.mono ?_
     rintro r w1 ⟨rfl,rfl⟩
     go_wp2_with fail
     refine jZ.o.mono ?_
     rintro r w2 ⟨rfl,hb⟩
     have HB:=ak hb
     clear hb c4 c5
     go_wp2_with fail
     exact af_ (v:=.tuple #[]) (by simp[results,Tryz.results181,go_sem]) rfl ⟨rfl,HR.o _ HB.o⟩
    |some z=>
     have pW:fits (n+1) (key x) (key z)=false:=by
      cases hq:fits (n+1) (key x) (key z)with
      |false=>rfl
      |true=>exact absurd ⟨z,hz,hq⟩ hfs
     have Lj:z∈syms E:=by
      unfold j5 at hz
      split at hz
      .obtain⟨q2,hq2,e2⟩:=ahx.1 hz
       rw[<-e2];exact(hS.right.sym q2.1 q2.2 hq2).1
      .next i l hm=>injection hz with hz;rw[<-hz];exact(hS.mem i (by rw[hm];simp)).1
     obtain⟨iz,hiz⟩:=ay (num E z)
     obtain⟨kz,hkz⟩:=ay (key z)
     have hz0:¬(iz:Int)=0:=by have:=(aS Lj).1;omega
     have hz0':((iz:Int)==0)=false:=agh.2 hz0
     rw[hz]at jZ
     replace jZ:aA (Calls Tryz.prog 207 #[.pointer (some ⟨sb,0,none⟩)] W λe w'=>e=.returned (.tuple #[.int .i64 iz,.int .u64 kz])/\Below W.heap.size W w'):=ak (by rw[<-hiz,<-hkz];exact jZ.o)
     have Jk:=ak (λw=>mK w kx kz (n+1) hkl (by have:=lT z;omega) (by omega))
     rw[<-hkx,<-hkz,pW,hkx,hkz]at Jk
     clear h hlo hp hpa hS hB kM hL he jW hgo hx DX hr d1 d2 d3 d4 hix hkx hfs hz h0 hno hpl pW hiz hkz Lj hkl
     go_enter Tryz.func181,Tryz.ntmps181
     go_wp2_with fail
     refine jg.o.mono ?_
     rintro r w1 ⟨rfl,rfl⟩
     go_wp2_with fail
     refine jZ.o.mono ?_
     rintro r w2 ⟨rfl,hb⟩
     have c52:w2.cell? ⟨sb,5,none⟩=some (.int .u64 kx):=by
      have:=(HS.o.below hb).cL.2
      rw[HL.o]at this
      rw[<-HX.o.2.1];exact this
     have HB:=ak hb
     clear hb c4 c5
     go_wp2_with fail
     refine(Jk.o _).mono ?_
     rintro r w3 ⟨rfl,rfl⟩
     go_wp2_with fail
     exact af_ (v:=.tuple #[]) (by simp[results,Tryz.results181,go_sem]) rfl ⟨rfl,HR.o _ HB.o⟩
   .subst hpq
    obtain⟨gb,cap,rfl,-,-,-,-⟩:=hr.top
    have KX:h'=2:=by
     have:=(d1 (y,h') (by simp)).1
     rcases hgo with q1|q1
     .omega
     .have h3:1<=h':=this
      omega
    subst KX
    have jg:=ak (dw hr (by simpa using hpl) pK)
    have e7:=hr.jo.2.2.2.2.2.2.2.1
    obtain⟨m,hm⟩:=ay (q.length)
    rw[hm]at jg e7
    replace e7:W.cell? ⟨gb,m*8+7,none⟩=some (.int .i64 2):=e7
    have HR':=ak (HR.o W (af6 _ _))
    clear h hlo hp hpa hS hB kM hL he jW hgo hx DX hr d1 d2 d3 d4 hix hkx hpl pK hh hm
    go_enter Tryz.func181,Tryz.ntmps181
    go_wp2_with fail
    refine jg.o.mono ?_
    rintro r w1 ⟨rfl,rfl⟩
    go_wp2_with fail
    exact af_ (v:=.tuple #[]) (by simp[results,Tryz.results181,go_sem]) rfl ⟨rfl,HR'.o⟩
  .have h2:gD (n+1) p≠2:=λq=>hgo (.inl q)
   have he:bI n s=⟨bE false n 1 p,⟨x,none,1⟩::s.mid,s.R⟩:=by
    unfold bI
    rw[hL]
    dsimp only
    rw[af4 h2,af4 (λq=>hgo (.inr q))]
   have SN:=ak he
   have pY:=ak kM
   have SQ:=ak hr
   rcases kU (n+1) p with⟨h0,hno⟩|⟨y,h',q,hpq,pK,hh⟩
   case' _=>
    have hfs:∃z,j5 s=some z/\fits (n+1) (key x) (key z)=true:=ahk λq=>hgo (.inr ⟨h0,q⟩)
    obtain⟨z,hz,pW⟩:=hfs
    have jg:=ak (d9 hr hpl hno)
    have jZ:=ak (za hS (by omega))
    have Lj:z∈syms E:=by
     have hz':=hz
     unfold j5 at hz'
     split at hz'
     .obtain⟨q2,hq2,e2⟩:=ahx.1 hz'
      rw[<-e2];exact(hS.right.sym q2.1 q2.2 hq2).1
     .next i l hm=>injection hz' with hz';rw[<-hz'];exact(hS.mem i (by rw[hm];simp)).1
    obtain⟨iz,hiz⟩:=ay (num E z)
    obtain⟨kz,hkz⟩:=ay (key z)
    have hz0:¬(iz:Int)=0:=by have:=(aS Lj).1;omega
    have hz0':((iz:Int)==0)=false:=agh.2 hz0
    rw[hz]at jZ
    replace jZ:aA (Calls Tryz.prog 207 #[.pointer (some ⟨sb,0,none⟩)] W λe w'=>e=.returned (.tuple #[.int .i64 iz,.int .u64 kz])/\Below W.heap.size W w'):=ak (by rw[<-hiz,<-hkz];exact jZ.o)
    have Jk:=ak (λw=>mK w kx kz (n+1) hkl (by have:=lT z;omega) (by omega))
    rw[<-hkx,<-hkz,pW,hkx,hkz]at Jk
    clear h hlo hp hpa hS hB kM hL he jW hgo hx DX hr d1 d2 d3 d4 hix hkx hz h0 hno hpl pW hiz hkz Lj hkl h2
    go_enter Tryz.func181,Tryz.ntmps181
    go_wp2_with fail
    refine jg.o.mono ?_
    rintro r w1 ⟨rfl,hw1⟩
    obtain rfl:W=w1:=hw1.symm
    go_wp2_with fail
    refine jZ.o.mono ?_
    rintro r wc ⟨rfl,hb⟩
    have c52:wc.cell? ⟨sb,5,none⟩=some (.int .u64 kx):=by
     have:=(HS.o.below hb).cL.2
     rw[HL.o]at this
     rw[<-HX.o.2.1];exact this
    have HB:=ak hb
    clear hb c4 c5
    go_wp2_with fail
    refine(Jk.o _).mono ?_
    rintro r w3 ⟨rfl,hw3⟩
    obtain rfl:wc=w3:=hw3.symm
    clear c52
    go_wp2_with fail
    have HSc:=ak (HS.o.below HB.o)
    have e11:∀w,iC sb cs w->w.cell? ⟨sb,11,none⟩=some vM:=λw hw=>hw.at HS.o.c11
    have e4:∀w,iC sb cs w->w.cell? ⟨sb,4,none⟩=some (.int .i64 ix):=λw hw=>hw.at (by have:=HS.o.left.r.c3;rw[HL.o]at this;rw[<-HX.o.1];exact this)
    have e5:∀w,iC sb cs w->w.cell? ⟨sb,5,none⟩=some (.int .u64 kx):=λw hw=>hw.at (by have:=HS.o.left.r.c4;rw[HL.o]at this;rw[<-HX.o.2.1];exact this)
    refine aU (iC sb cs) ?_
    obtain⟨we,bU⟩:=ay (wc.drew)
    have hbe:Below wc.heap.size wc we:=by rw[<-bU];exact(af6 _ _).drew
   rotate_left
   case' _=>
    subst hpq
    obtain⟨gb,cap,hvL,-,-,-,-⟩:=hr.top
    have hr0:=hr
    rw[hvL]at hr
    have jg:=ak (dw hr (by simpa using hpl) pK)
    have e7:=hr.jo.2.2.2.2.2.2.2.1
    obtain⟨m,hm⟩:=ay (q.length)
    rw[hm]at jg e7
    replace e7:W.cell? ⟨gb,m*8+7,none⟩=some (.int .i64 h'):=e7
    have KX:¬(h':Int)=2:=by omega
    have hh3:((h':Int)==2)=false:=agh.2 KX
    have HB:aA (Below W.heap.size W W):=ak (af6 _ _)
    clear h hlo hp hpa hS hB kM hL he jW hgo hx DX hr d1 d2 d3 d4 hix hkx hpl pK hh hm h2 hvL hr0 hkl
    go_enter Tryz.func181,Tryz.ntmps181
    go_wp2_with fail
    refine jg.o.mono ?_
    rintro r w1 ⟨rfl,hw1⟩
    obtain rfl:W=w1:=hw1.symm
    go_wp2_with fail
    have HSc:=ak (HS.o.below HB.o)
    have e11:∀w,iC sb cs w->w.cell? ⟨sb,11,none⟩=some vM:=λw hw=>hw.at HS.o.c11
    have e4:∀w,iC sb cs w->w.cell? ⟨sb,4,none⟩=some (.int .i64 ix):=λw hw=>hw.at (by have:=HS.o.left.r.c3;rw[HL.o]at this;rw[<-HX.o.1];exact this)
    have e5:∀w,iC sb cs w->w.cell? ⟨sb,5,none⟩=some (.int .u64 kx):=λw hw=>hw.at (by have:=HS.o.left.r.c4;rw[HL.o]at this;rw[<-HX.o.2.1];exact this)
    refine aU (iC sb cs) ?_
    obtain⟨we,bU⟩:=ay (W.drew)
    have hbe:Below W.heap.size W we:=by rw[<-bU];exact(af6 _ _).drew
   all_goals
    rw[bU]
    have S0:iC sb cs we:=(HSc.o.below hbe).blk
    have kV:=ak (Below.after HB.o hbe)
    clear bU hbe
    refine bJ 0 1 2 3 4 5 ?_
    refine bJ 6 7 8 9 10 11 ?_
    refine tk4 12 13 14 15 ?_
    refine aT 16 λK hK=>?_
    go_simp
    obtain⟨wa,Ah⟩:=ay (we.alloc (.cells #[.int .i64 ix,.int .i64 0,.int .u64 kx,.int .i64 1] 254))
    obtain⟨vb,hvb⟩:=ay (we.heap.size)
    have hba:Below we.heap.size we wa:=by rw[<-Ah];exact(af6 _ _).alloc (af7 _) _
    have qI:iC sb cs wa:=au hba S0
    have HA:aA (Below W.heap.size W wa/\wa.heap[vb]?=some (.cells (jK E ⟨x,none,1⟩).toArray 254 (0,0))/\vM.ownBlock≠some vb):=ak ⟨Below.after kV.o hba,by
     rw[<-Ah,<-hvb,aD]
     show _=some (Obj.cells #[vI (num E x),vI 0,vK (key x),vI 1] _ _)
     rw[HX.o.1,HX.o.2.1];rfl,λq=>by
     have:=(HS.o.sj q).2.2.2.2
     have:=kV.o.size
     omega⟩
    rw[Ah,hvb]
    refine hK _ _ qI ?_
    clear hK K Ah hvb hba S0
    refine aT 17 λK hK=>?_
    go_simp
    try with_reducible refine⟨rfl,?_⟩
    refine agq.2 ((AU (bG E) (eF E) (lo:=lo) (by have:=HA.o.1.size;have:=HS.o.lt;have:=HS.o.low;omega) (HS.o.mid.below HA.o.1) (by have:=pY.o;omega) HA.o.2.1 HA.o.2.2).mono ?_)
    rintro r w7 hI
    obtain⟨a7,m7,c7,rfl,fB,gM,fE⟩:=jy HS.o HP.o eG.o.1 HA.o.1 hI (λi hi=>by
     rcases agm.1 hi with rfl|hi
     .exact⟨HX.o.2.2.1,λy e=>(by cases e),by show 1<=_;omega⟩
     .exact HS.o.mem i hi)
    refine hK _ _ fB ?_
    clear hK K hI qI
    refine tk2 18 19 ?_
    refine aJ.cK 20 (by kernel_rfl) ?_
    simp only[agr,agj]
    clear e11 e4 e5
    have c11:w7.cell? ⟨sb,11,none⟩=some vM:=fB.at HS.o.c11
    have f11:w7.frozen? ⟨sb,11,none⟩=false:=by
     unfold iC at fB
     simp[World.frozen?,fB]
    obtain⟨w8,hw8⟩:=ay (w7.setCell ⟨sb,11,none⟩ (.slice a7 m7 c7))
    rw[hw8]at gM fE
    have dF:=gM.left
    dsimp only at dF
    rw[HL.o]at dF
    have HDR:=ak (gZ (t:=1) (n:=n) fE.st (fO eG.o.1 HS.o.low) (fV.o.kp fE.kp (by have:=eG.o.2;omega)) dF HD.o.1 HD.o.2.1 HD.o.2.2.1 HD.o.2.2.2)
    have Cw:=ak gM;have mJ:=ak fE
    clear fB gM fE dF
    gi_wp2_with fail
    clear hw8 c11 f11
    go_wp2_with fail
    refine HDR.o.mono ?_
    rintro r w9 ⟨rfl,hE⟩
    obtain⟨SS,v9,sw,sD⟩:=Cw.o.opL mJ.o.st.wf.wf hE
    have Cx:aA (kC n0 B most g F E W lo sb pa (bI n s) E w9):=ak (by rw[SN.o];exact⟨_,_,_,_,sw,mJ.o.trans sD⟩)
    clear hE sw sD
    go_wp2_with fail
    go_end0
    exact⟨rfl,Cx.o⟩
end M
end
end Go.Proofs.YtgbhohfabhilgaaGreatDoor
