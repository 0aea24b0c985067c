import Derived.Test.YtgbhohfabhilgaaGreatDoorBase19
set_option maxRecDepth 100000
set_option maxHeartbeats 8000000
set_option linter.unusedVariables false
set_option linter.unusedSimpArgs false
namespace Go.Proofs.YtgbhohfabhilgaaGreatDoor
section
open Go.RowKit Go.Lib
namespace M
attribute [local go_sem] Oper.semAt_some
variable{O O2:List Value}{B b c g i k k2 most n0 p:Nat}{X:Nat->Prop}{e e2 t:TypeId}{u v:Value}{A C W:World}
theorem aM{B:World}{row:Option Nat}(h:A.grownBy B row)(k:B.grownBy C row):A.grownBy C row:=
 ⟨k.os.trans h.os,k.tape.trans h.tape,k.output.trans h.output,af9 h.size k.size,λi hi hn=>(k.block i (ahm hi h.size) hn).trans (h.block i hi hn)⟩
theorem aK(A:World)(a:Addr)(v:Value):A.grownBy (A.setCell a v) (some a.block):=⟨rfl,rfl,rfl,by simp[World.setCell],λk _ hk=>agU _ _ _ k (λe=>hk (by rw[e]))⟩
theorem aI{o:Obj}(h:A.grownBy C (some b))(hk:A.heap[k]?=some o)(hne:k≠b):C.heap[k]?=some o:=by
 rw[h.block k (aga.1 hk).1 (λe=>hne (agQ e))];exact hk
theorem bL{n:Nat}(h:A.grownBy C (some b))(hn:n<=b)(hs:n<=A.heap.size):Below n A C:=(af6 n A).grown h hs (λk e=>by cases e;exact hn)
theorem jJ{cs:Array Value}{fz:Nat×Nat}(h:A.grownBy C (some b))(hb:A.heap[b]?=some (.cells cs t fz)):bS [t] A C:=
 ⟨h.os,h.tape,h.output,h.size,λk o ho hn=>by
  by_cases e:k=b
  .subst e
   rw[hb]at ho;cases ho
   exact absurd (agl.2 rfl) (hn _ _ _ rfl)
  .exact aI h ho e⟩
structure Hs(W:World)(e:TypeId)(b c:Nat)(P:List Value)(k:Nat)(O:List Value):Prop where
 h:∃cs:Array Value,W.heap[b]?=some (.cells cs e (0,0))/\cs.size=c/\(∀(i:Nat) (v:Value),P[i]?=some v->cs[i]?=some v)/\(∀(i:Nat) (v:Value),k<=i->O[i]?=some v->cs[i]?=some v)
theorem Hs.weak{P:List Value}(h:Hs W e b c P k O)(hk:k<=k2):Hs W e b c P k2 O:=by
 obtain⟨cs,h1,h2,h3,h4⟩:=h.h
 exact⟨cs,h1,h2,h3,λi v hi=>h4 i v (af9 hk hi)⟩
theorem Hs.fin{P:List Value}(h:Hs W e b c P k O):Hs W e b c P k2 []:=by
 obtain⟨cs,h1,h2,h3,h4⟩:=h.h
 exact⟨cs,h1,h2,h3,λi v hi e=>by simp at e⟩
theorem Hs.begin{P:List Value}(h:Hs W e b c P k O):Hs W e b c [] 0 P:=by
 obtain⟨cs,h1,h2,h3,h4⟩:=h.h
 exact⟨cs,h1,h2,λi v e=>by simp at e,λi v _ e=>h3 i v e⟩
theorem Hs.kept{P:List Value}(h:Hs A e b c P k O)(hk:∀cs,A.heap[b]?=some (.cells cs e (0,0))->C.heap[b]?=some (.cells cs e (0,0))):Hs C e b c P k O:=by
 obtain⟨cs,h1,h2,h3,h4⟩:=h.h
 exact⟨cs,hk cs h1,h2,h3,h4⟩
theorem Hs.below{P:List Value}(h:Hs A e b c P k O)(hb:Below A.heap.size A C):Hs C e b c P k O:=h.kept λ_ e=>au hb e
theorem Hs.other{b2:Nat}{P:List Value}(h:Hs A e b c P k O)(hg:A.grownBy C (some b2))(hne:b≠b2):Hs C e b c P k O:=h.kept λ_ e=>aI hg e hne
theorem Hs.ne{b2 c2:Nat}{P P2:List Value}(h:Hs W e b c P k O)(h2:Hs W e2 b2 c2 P2 k2 O2)(hne:e≠e2):b≠b2:=by
 obtain⟨cs,h1,-⟩:=h.h
 obtain⟨cs2,q1,-⟩:=h2.h
 rintro rfl
 rw[h1]at q1;injection q1 with q1;injection q1 with _ q1 _;exact hne q1
theorem Hs.Dv{b2:Nat}{P:List Value}{cs2:Array Value}{fz:Nat×Nat}(h:Hs W e b c P k O)(q1:W.heap[b2]?=some (.cells cs2 e2 fz))(hne:e≠e2):b≠b2:=by
 obtain⟨cs,h1,-⟩:=h.h
 rintro rfl
 rw[h1]at q1;injection q1 with q1;injection q1 with _ q1 _;exact hne q1
theorem Hs.Vs{P:List Value}(h:Hs A e b c P k O)(hg:A.grownBy C (some b)):bS [e] A C:=by
 obtain⟨cs,h1,-⟩:=h.h
 exact jJ hg h1
theorem Hs.old{P:List Value}(h:Hs W e b c P k O)(hi:k<=i)(hv:O[i]?=some v):W.cell? ⟨b,i,none⟩=some v:=by
 obtain⟨cs,h1,h2,h3,h4⟩:=h.h
 have:=h4 i v hi hv
 simp only[World.cell?,h1]
 simpa using this
theorem Hs.new{P:List Value}(h:Hs W e b c P k O)(hv:P[i]?=some v):W.cell? ⟨b,i,none⟩=some v:=by
 obtain⟨cs,h1,h2,h3,h4⟩:=h.h
 have:=h3 i v hv
 simp only[World.cell?,h1]
 simpa using this
theorem Hs.le{P:List Value}(h:Hs W e b c P k O):P.length<=c:=by
 obtain⟨cs,h1,h2,h3,h4⟩:=h.h
 rcases agP P.length with q|q
 .omega
 .have:=h3 (P.length-1) (P[P.length-1]'(by omega)) (agt _)
  have:=(aga.1 this).1
  omega
theorem Hs.app{P:Program}{i:TypeInfo}(hu:P.underlying t=some (.slice e))(hi:P.info? e=some i)(hsz:i.size=1)(ty:TypeId){w:World}{L:List Value}(h:Hs w e b c L k O)(a:Addr)(m c2:Nat)(news:List Value)(hl:news.length=m)
    (hnews:∀j u,news[j]?=some u->w.cell? (a.add j)=some u) (h1:∀u∈news,u.oneCell'=true) {k2:Nat} (hk:L.length+m<=k2) (hkk:k<=k2) (hc:L.length+m<=c):
    ∃w',(Builtin.append_ #[t,t] ty #[.slice (some ⟨b,0,none⟩) L.length c,.slice (some a) m c2]).run P w=.ok (.slice (some ⟨b,0,none⟩) (L.length+m) c) w'/\Hs w' e b c (L++news) k2 O/\w.grownBy w' (some b):=by
 obtain⟨cs,q1,q2,q3,q4⟩:=h.h
 have hr:=run_append_room (P:=P) w t ty e i hu hi b L.length c cs q1 a m c2 news (by rw[hl,hsz,ag3]) hnews h1 hc (by rw[hsz,hl,q2];omega)
 refine⟨_,hr,⟨_,setRow_heap w b cs _ e _ q1,?_,?_,?_⟩,⟨rfl,rfl,rfl,by simp,λk _ hk=>setRow_other w b k _ (λe=>hk (by simp[e]))⟩⟩
 .simp only[ajA,af8,agB,agp,ah2,hsz,ag3]
  omega
 .intro j v hj
  simp only[hsz,ag3,agT]
  have hlt:(cs.toList.take L.length).length=L.length:=by
   have hcl:cs.toList.length=c:=by rw[<-q2];exact ah2
   rw[agB];omega
  by_cases hjl:j<L.length
  .rw[agV hjl]at hj
   rw[agf,agV (by omega),ahT,af5 hjl]
   have:=q3 j v hj
   simpa using this
  .rw[agN (by omega)]at hj
   have hjm:=(agA.1 hj).1
   rw[agf,agN (by omega),hlt,agV hjm]
   exact hj
 .intro j v hj hv
  simp only[hsz,ag3,agT]
  have hlt:(cs.toList.take L.length).length=L.length:=by
   have hcl:cs.toList.length=c:=by rw[<-q2];exact ah2
   rw[agB];omega
  rw[agN (by rw[af8];omega),ahL,af8,hlt,hl,show L.length+m+(j-(L.length+m))=j by omega]
  have:=q4 j v (by omega) hv
  simpa using this
theorem yT{P:Program}{ops:Array Oper}{rest:List Oper}{o:Oper}{a:Act}{Q:Exit->Act->World->Prop}{bytes:Nat}(hE:Elem P t e 1 bytes)(hgd:o.guard=none)(s x:Operand)(ho:o.op=.call { callee:=.builtin .append,args:=#[s,x],argTypes:=#[t,t] })
    {w0:World} {b c k n:Nat} {L O:List Value} (hs:a.eval s=.slice (some ⟨b,0,none⟩) n c) (hn:L.length=n) (h:Hs w0 e b c L k O) {c2:Nat} (v:Value) (hx:a.eval x=.slice (some ⟨w0.heap.size,0,none⟩) 1 c2) (h1:v.oneCell'=true) {k2:Nat} (hk:n+1<=k2) (hkk:k<=k2) (hc:n+1<=c)
    (hK:∀w',Hs w' e b c (L++[v]) k2 O->w0.grownBy w' (some b)->wpList P ops Q rest (a.put o.dst (.slice (some ⟨b,0,none⟩) ((n:Nat)+1) c)) w'):wpList P ops Q (o::rest) a (w0.alloc (.cells #[v] e)):=by
 subst hn
 obtain⟨hu,i,z,hi,hz,hsz,-⟩:=hE
 have hnew:(w0.alloc (.cells #[v] e)).heap[w0.heap.size]?=some (.cells #[v] e):=by show(w0.heap.push _)[w0.heap.size]?=_;simp
 obtain⟨w',r1,r2,r3⟩:=(h.below ((af6 _ w0).alloc (af7 _) (.cells #[v] e))).app hu hi hsz o.type ⟨w0.heap.size,0,none⟩ 1 c2 [v] rfl (λj u hu=>by
  have e1:(⟨w0.heap.size,0,none⟩:Addr).add j=⟨w0.heap.size,j,none⟩:=by unfold Addr.add;split<;>simp_all
  rw[e1]
  simp only[World.cell?,hnew]
  simpa using hu) (λu hu=>by rw[agl.1 hu];exact h1) hk hkk hc
 exact uO hgd s x ho hs hx r1 (hK w' r2 (aM (ahG w0 _ _) r3))
theorem EA:Elem Tryz.prog 133 88 1 8:=gP Tryz.underlying133 (z:=.int .u64 0) (by kernel_rfl) rfl (by decide) (by decide)
theorem gV.ot{F:List Sy}{E:List En}{cs:Array Value}{fz:Nat×Nat}(h:gV n0 B most g F E A)(hg:A.grownBy C (some b))(hb:A.heap[b]?=some (.cells cs t fz))(ht:t∉Du)(hn:n0<=b):gV n0 B most g F E C:=by
 have ho:=jJ hg hb
 have hlo:=bL hg hn h.lt
 simp only[Du,agm,not_or]at ht
 exact⟨h.st.OG ho (by simpa using λe=>ht.1 e.symm) (by simpa using λe=>ht.2.1 e.symm),h.wf,h.kt.Vs ho hlo (by simpa using λe=>ht.2.2.1 e.symm) (by simpa using λe=>ht.2.2.2.1 e.symm),h.sub,h.len,h.most,h.txt⟩
theorem Kp.ot{cs:Array Value}{fz:Nat×Nat}(hg:A.grownBy C (some b))(hb:A.heap[b]?=some (.cells cs t fz))(ht:t∉Du)(hX:X b):Kp B X A C:=
 ⟨λt' _ k hk cs' ZN e=>aI hg e (λq=>hk (by rw[q];exact hX)),λv ⟨cs',ZN,e1,e2⟩=>⟨cs',ZN,aI hg e1 (λq=>by
  rw[q,hb]at e1
  injection e1 with e1;injection e1 with _ e1 _
  exact ht (by rw[e1];decide)),e2⟩,λk es c e _=>aI hg e (λq=>by rw[q,hb]at e;cases e)⟩
theorem Hs.kp{P:List Value}(h:Hs A e b c P k O)(hk:Kp B X A C)(he:e∉Du)(hX:¬X b):Hs C e b c P k O:=h.kept λcs e=>hk.cells _ he _ hX _ _ e
def jM(W:World)(b:Nat)(v u:Value):Prop:=W.heap[b]?=some (.cells #[v,u] 237 (0,0))
theorem jM.cells(h:jM W b v u):W.cell? ⟨b,0,none⟩=some v/\W.cell? ⟨b,1,none⟩=some u/\(∀i,W.frozen? ⟨b,i,none⟩=false):=by
 unfold jM at h
 simp[World.cell?,World.frozen?,h]
theorem jM.kp(h:jM A b v u)(hk:Kp B X A C)(hX:¬X b):jM C b v u:=hk.cells _ (by decide) _ hX _ _ h
theorem jM.set0(h:jM W b v u)(x:Value):jM (W.setCell ⟨b,0,none⟩ x) b x u:=by
 unfold jM at h⊢
 exact aC _ h
theorem jM.set1(h:jM W b v u)(x:Value):jM (W.setCell ⟨b,1,none⟩ x) b v x:=by
 unfold jM at h⊢
 exact aC _ h
def iW(W:World)(p B g:Nat):Prop:=W.heap[p]?=some (.cells #[.pointer (some ⟨B,0,none⟩),.pointer (some ⟨g,0,none⟩)] 129 (0,0))
theorem iW.cells(h:iW W p B g):W.cell? ⟨p,0,none⟩=some (.pointer (some ⟨B,0,none⟩))/\W.cell? ⟨p,1,none⟩=some (.pointer (some ⟨g,0,none⟩)):=by
 unfold iW at h
 simp[World.cell?,h]
theorem iW.kp{B':Nat}(h:iW A p B g)(hk:Kp B' X A C)(hX:¬X p):iW C p B g:=hk.cells _ (by decide) _ hX _ _ h
abbrev vI(i:Nat):Value:=.int .i64 (i:Nat)
abbrev vK(i:Nat):Value:=.int .u64 (i:Nat)
def ac6(n0 B most g:Nat)(F:List Sy)(E:List En)(b1 b2 b6 c k m:Nat)(L1 O1 L2 O2:List Value)(W w':World):Prop:=
 gV n0 B most g F E w'/\Below n0 W w'/\Kp B (λq=>q=b1\/q=b2\/q=b6) W w'/\jM w' b6 (.slice (some ⟨b1,0,none⟩) (m+1) c) (.slice (some ⟨b2,0,none⟩) (m+1) c)/\Hs w' 27 b1 c L1 k O1/\Hs w' 88 b2 c L2 k O2
theorem R4{F:List Sy}{E:List En}(h:gV n0 B most g F E W)(hp:iW W p B g){b1 b2 b6 m:Nat}{L1 O1 L2:List Value}(hq:jM W b6 (.slice (some ⟨b1,0,none⟩) m c) (.slice (some ⟨b2,0,none⟩) m c))
    (H1:Hs W 27 b1 c L1 k O1) (H2:Hs W 88 b2 c L2 k O2) (l1:L1.length=m) (l2:L2.length=m) (hk:m+1<=k) (hc:m+1<=c) {id:Nat} (h0:0<id) (hid:id<=E.length) (n1:n0<=b1) (n2:n0<=b2) (n6:n0<=b6):
    Calls Tryz.prog 169 #[.pointer (some ⟨p,0,none⟩),.pointer (some ⟨b6,0,none⟩),.int .i64 id] W λe w'=>e=.returned .nilIface/\ac6 n0 B most g F E b1 b2 b6 c k m (L1++[vI id]) O1 (L2++[vK (key (sym E id))]) O2 W w':=by
 obtain⟨p0,p1⟩:=hp.cells
 have HKEY:=ak (RY h (λ_=>False) h0 hid)
 obtain⟨ky,hky⟩:=ay (key (sym E id))
 rw[hky]at HKEY⊢
 have Ch:=H1.ne H2 (by decide)
 have hne16:=H1.Dv hq (by decide)
 have XC:=H2.Dv hq (by decide)
 have HQ:=ak hq;have Ur:=ak H1;have P_:=ak H2
 have HL:=ak (And.intro l1 (And.intro l2 (And.intro hk hc)))
 have HN:=ak (And.intro n1 (And.intro n2 n6))
 have xu:=ak (And.intro Ch (And.intro hne16 XC))
 have iI:=ak h.lt
 clear h hp hq H1 H2 l1 l2 hk hc h0 hid n1 n2 n6 hky Ch hne16 XC
 go_enter Tryz.func169,Tryz.ntmps169
 go_wp2_with fail
 refine HKEY.o.mono ?_
 rintro e w1 ⟨rfl,hP1,hB1,hK1⟩
 clear p0 p1
 have q1:=HQ.o.kp hK1 (λq=>q)
 have t1:=Ur.o.kp hK1 (by decide) (λq=>q)
 have t2:=P_.o.kp hK1 (by decide) (λq=>q)
 have wN:aA (Kp B (λq=>q=b1\/q=b2\/q=b6) W w1):=ak (hK1.mono (λ_ _ q=>q.elim))
 have HP1:=ak hP1;have HB1:=ak hB1;have HQ1:=ak q1;have HT1:=ak t1;have HT2:=ak t2
 obtain⟨c0,c1,f6⟩:=q1.cells
 have f0:=f6 0;have f1:=f6 1
 clear hP1 hB1 hK1 q1 t1 t2 f6
 go_wp2_with (first
  | (at_builtin;refine yT elemId rfl _ _ rfl rfl HL.o.1 HT1.o (vI id) rfl rfl (k2:=k) HL.o.2.2.1 (af7 _) HL.o.2.2.2 ?_))
 intro w2 t1 g2
 have kb:bS [27] w1 w2:=HT1.o.Vs g2
 obtain⟨cs1,hcs1,-⟩:=HT1.o.h
 have hP2:=HP1.o.ot g2 hcs1 (by decide) HN.o.1
 have hB2:=HB1.o.trans (bL g2 HN.o.1 HP1.o.lt)
 have hK2:=wN.o.trans (Kp.ot g2 hcs1 (by decide) (.inl rfl))
 have t2:=HT2.o.other g2 (λe=>xu.o.1 e.symm)
 have q2:jM w2 b6 (.slice (some ⟨b1,0,none⟩) m c) (.slice (some ⟨b2,0,none⟩) m c):=aI g2 HQ1.o (λe=>xu.o.2.1 e.symm)
 clear c0 c1 f0 f1 g2 kb hcs1 cs1
 have Oz:=ak hP2;have HB2:=ak hB2;have nY:=ak hK2;have j_:=ak t1;have HS2:=ak t2;have DJ:=ak q2
 obtain⟨c0,c1,f6⟩:=q2.cells
 have f0:=f6 0;have f1:=f6 1
 clear hP2 hB2 hK2 t1 t2 q2 f6
 obtain⟨w3,hw3⟩:=ay (w2.setCell ⟨b6,0,none⟩ (.slice (some ⟨b1,0,none⟩) (m+1) c))
 have g3:=aK w2 ⟨b6,0,none⟩ (.slice (some ⟨b1,0,none⟩) (m+1) c)
 have q3:=DJ.o.set0 (.slice (some ⟨b1,0,none⟩) (m+1) c)
 rw[hw3]at g3 q3
 have hP3:=Oz.o.ot g3 DJ.o (by decide) HN.o.2.2
 have hB3:=HB2.o.trans (bL g3 HN.o.2.2 Oz.o.lt)
 have hK3:=nY.o.trans (Kp.ot g3 DJ.o (by decide) (.inr (.inr rfl)))
 have HS1':=ak (j_.o.other g3 xu.o.2.1);have ac7:=ak (HS2.o.other g3 xu.o.2.2)
 have HP3:=ak hP3;have HB3:=ak hB3;have qH:=ak hK3;have HQ3:=ak q3
 clear hP3 hB3 hK3 g3
 obtain⟨d0,d1,f6⟩:=q3.cells
 have f3:=f6 0;have f4:=f6 1
 clear q3 f6 c1 f1
 go_wp2_with (first
  | (at_builtin;refine yT EA rfl _ _ rfl rfl HL.o.2.1 ac7.o (vK ky) rfl rfl (k2:=k) HL.o.2.2.1 (af7 _) HL.o.2.2.2 ?_))
 intro w4 t2 g2
 obtain⟨cs2,hcs2,-⟩:=ac7.o.h
 have hP4:=HP3.o.ot g2 hcs2 (by decide) HN.o.2.1
 have hB4:=HB3.o.trans (bL g2 HN.o.2.1 HP3.o.lt)
 have hK4:=qH.o.trans (Kp.ot g2 hcs2 (by decide) (.inr (.inl rfl)))
 have lU:=ak (HS1'.o.other g2 xu.o.1);have qG:=ak t2
 have q4:jM w4 b6 (.slice (some ⟨b1,0,none⟩) (m+1) c) (.slice (some ⟨b2,0,none⟩) m c):=aI g2 HQ3.o (λe=>xu.o.2.2 e.symm)
 clear d0 d1 f3 f4 f0 hw3 c0 g2 hcs2 cs2 t2
 have HP4:=ak hP4;have cB:=ak hB4;have uF:=ak hK4;have HQ4:=ak q4
 obtain⟨c0,c1,f6⟩:=q4.cells
 have f0:=f6 0;have f1:=f6 1
 clear hP4 hB4 hK4 q4 f6
 obtain⟨w5,eH⟩:=ay (w4.setCell ⟨b6,1,none⟩ (.slice (some ⟨b2,0,none⟩) (m+1) c))
 have g5:=aK w4 ⟨b6,1,none⟩ (.slice (some ⟨b2,0,none⟩) (m+1) c)
 have q5:=HQ4.o.set1 (.slice (some ⟨b2,0,none⟩) (m+1) c)
 rw[eH]at g5 q5
 have HR:aA (ac6 n0 B most g F E b1 b2 b6 c k m (L1++[vI id]) O1 (L2++[vK ky]) O2 W w5):=ak ⟨HP4.o.ot g5 HQ4.o (by decide) HN.o.2.2,cB.o.trans (bL g5 HN.o.2.2 HP4.o.lt),uF.o.trans (Kp.ot g5 HQ4.o (by decide) (.inr (.inr rfl))),q5,lU.o.other g5 xu.o.2.1,qG.o.other g5 xu.o.2.2⟩
 clear g5 q5
 go_wp2_with fail
 go_ret
 exact⟨rfl,HR.o⟩
end M
end
namespace M
def dZ(G:List Gr):List Nat:=G.flatMap λq=>List.replicate q.t q.x
theorem iY(A B:List Gr):dZ (A++B)=dZ A++dZ B:=by unfold dZ;rw[ag_]
theorem EC(l:List Nat):dZ (jf l)=l:=by
 rcases agR l with rfl|⟨l',x,rfl⟩
 .rfl
 .rw[agO]
  have ih:=EC l'
  rw[kS]
  unfold DU
  cases hq:(jf l').getLast? with
  |none=>
   have h0:=aji.1 hq
   rw[h0]at ih
   rw[<-ih];rfl
  |some q=>
   obtain⟨M,hM⟩:=ajQ.1 hq
   by_cases h:q.x=x
   .simp only[h,ahv]
    rw[hM,iY]at ih
    rw[hM,aic,iY,<-ih]
    show dZ M++(List.replicate (q.t+1) x++[])=dZ M++(List.replicate q.t q.x++[])++[x]
    rw[agi,agi,agf,h,ahR]
   .simp only[h,ahu]
    rw[iY,ih];rfl
termination_by l.length
decreasing_by simp_all
theorem Nj(l:List Nat):∀A q r B,jf l=A++q::r::B->q.x≠r.x:=by
 rcases agR l with rfl|⟨l',x,rfl⟩
 .intro A q r B h
  have h':([]:List Gr)=A++q::r::B:=h
  simp at h'
 .rw[agO]
  have ih:=Nj l'
  rw[kS]
  unfold DU
  intro A q r B h
  cases hq:(jf l').getLast? with
  |none=>
   rw[hq]at h
   have:=agC List.length h
   simp only[af8,agc,ahX]at this
   omega
  |some p=>
   obtain⟨M,hM⟩:=ajQ.1 hq
   rw[hq]at h
   by_cases hx:p.x=x
   .simp only[hx,ahv]at h
    rw[hM,aic]at h
    rcases agR B with rfl|⟨B',z,rfl⟩
    .have e:M++[⟨x,p.t+1⟩]=(A++[q])++[r]:=by rw[h];simp
     obtain⟨e1,e2⟩:=ai3 e rfl
     have e3:r.x=x:=by
      have:=(aiy e2).1
      rw[<-this]
     have:=ih A q p [] (by rw[hM,e1];simp)
     rw[e3,<-hx];exact this
    .have e:M++[⟨x,p.t+1⟩]=(A++q::r::B')++[z]:=by rw[h];simp
     obtain⟨e1,-⟩:=ai3 e rfl
     exact ih A q r (B'++[p]) (by rw[hM,e1];simp)
   .simp only[hx,ahu]at h
    rcases agR B with rfl|⟨B',z,rfl⟩
    .have e:jf l'++[⟨x,1⟩]=(A++[q])++[r]:=by rw[h];simp
     obtain⟨e1,e2⟩:=ai3 e rfl
     have e3:r.x=x:=by
      have:=(aiy e2).1
      rw[<-this]
     have e4:p=q:=by
      rw[hM]at e1
      have:=(ai3 e1 rfl).2
      exact(aiy this).1
     rw[e3,<-e4];exact hx
    .have e:jf l'++[⟨x,1⟩]=(A++q::r::B')++[z]:=by rw[h];simp
     obtain⟨e1,-⟩:=ai3 e rfl
     exact ih A q r B' e1
termination_by l.length
decreasing_by simp_all
def grS(s:Nat->Sy)(q:Gr):Sy:=if q.t>1 then .pw (s q.x) q.t else s q.x
theorem ED{n:Nat}(hn:n%2=1)(s:Nat->Sy):∀(G:List Gr),(∀q∈G,1<=q.t)->(∀q∈G,∀r∈G,s q.x=s r.x->q.x=r.x)->(∀A q r B,G=A++q::r::B->q.x≠r.x)->
    step n ((dZ G).map s)=G.map (grS s)
 | [],_,_,_=>rfl
 |q::G,h1,hi,hne=>by
  have ih:=ED hn s G (λr hr=>h1 r (by simp[hr])) (λa ha b hb=>hi a (by simp[ha]) b (by simp[hb])) (λA a b B e=>hne (q::A) a b B (by rw[e];rfl))
  obtain⟨k,hk⟩:∃k,q.t=k+1:=⟨q.t-1,by have:=h1 q (by simp);omega⟩
  have e:(dZ (q::G)).map s=s q.x::(List.replicate k (s q.x)++(dZ G).map s):=by
   show((List.replicate q.t q.x)++dZ G).map s=_
   rw[ag2,aij,hk,ag7];rfl
  have h0:cnt (s q.x) ((dZ G).map s)=0:=by
   cases G with
   |nil=>rfl
   |cons r G=>
    obtain⟨j,hj⟩:∃j,r.t=j+1:=⟨r.t-1,by have:=h1 r (by simp);omega⟩
    have e:(dZ (r::G)).map s=s r.x::(List.replicate j (s r.x)++(dZ G).map s):=by
     show((List.replicate r.t r.x)++dZ G).map s=_
     rw[ag2,aij,hj,ag7];rfl
    rw[e]
    unfold cnt
    rw[af4 (λe=>hne [] q r G rfl (hi q (by simp) r (by simp) e.symm))]
  have hb:blk n (s q.x) (List.replicate k (s q.x)++(dZ G).map s)=k:=by
   unfold blk
   rw[af5 hn,Mh,h0];rfl
  rw[e,bF,hb,ahj (by simp),ag9 (by simp),agH,ih,ag8]
  congr 1
  unfold node grS
  rw[hk]
  by_cases h:k=0
  .rw[af5 h,af4 (by omega)]
  .rw[af4 h,af5 hn,af5 (by omega)]
theorem Nk{n:Nat}(hn:¬n%2=1):∀(o:Nat) (L:List Sy),tV (fits n) o (L.map key)=[]->step n L=L
 |_,[],_=>rfl
 |_,[x],_=>rG n x
 |o,x::y::t,h=>by
  have h':tV (fits n) o (key x::key y::t.map key)=[]:=h
  rw[qE]at h'
  by_cases hf:fits n (key x) (key y)=true
  .rw[af5 hf]at h';cases h'
  .rw[af4 hf]at h'
   have hb:blk n x (y::t)=0:=by unfold blk;rw[af4 hn];exact af4 hf
   rw[bF,hb,jG,agj,Nk hn (o+1) (y::t) h']
theorem Ja{n:Nat}(hn:¬n%2=1):∀(o:Nat) (L:List Sy) {i:Nat} {J:List Nat},tV (fits n) o (L.map key)=i::J->
    o<=i/\i+1<o+L.length/\J=tV (fits n) (i+2) ((L.drop (i+2-o)).map key)/\∃x y,L.drop (i-o)=x::y::L.drop (i+2-o)/\step n L=L.take (i-o)++ .pr x y::step n (L.drop (i+2-o))
 |_,[],i,J,h=>by cases h
 |_,[x],i,J,h=>by cases h
 |o,x::y::t,i,J,h=>by
  have h':tV (fits n) o (key x::key y::t.map key)=i::J:=h
  rw[qE]at h'
  by_cases hf:fits n (key x) (key y)=true
  .rw[af5 hf]at h'
   obtain⟨rfl,rfl⟩:=aiy h'
   have hb:blk n x (y::t)=1:=by unfold blk;rw[af4 hn];exact af5 hf
   have e2:o+2-o=2:=by omega
   rw[e2,aiz]
   refine⟨af7 _,by simp only[agc];omega,rfl,x,y,rfl,?_⟩
   rw[bF,hb]
   show node n x (y::t) 1::_=_
   unfold node
   rw[af4 (by omega),af4 hn];rfl
  .rw[af4 hf]at h'
   have hb:blk n x (y::t)=0:=by unfold blk;rw[af4 hn];exact af4 hf
   obtain⟨a,b,c,u,v,d,e⟩:=Ja hn (o+1) (y::t) h'
   rw[agc]at b
   have e1:i-o=i-(o+1)+1:=by omega
   have e2:i+2-o=i+2-(o+1)+1:=by omega
   refine⟨by omega,by simp only[agc];omega,by rw[e2,agr];exact c,u,v,by rw[e1,e2,agr,agr];exact d,?_⟩
   rw[bF,hb,jG,agj,e,e1,e2,aiH,agr];rfl
def iO:Sy->List Sy
 | .lt b=>[.lt b]
 | .pr l r=> .pr l r::(iO l++iO r)
 | .pw x k=> .pw x k::iO x
theorem pJ(y:Sy):y∈iO y:=by cases y<;>simp[iO]
theorem xD:∀{y:Sy},jF y->(iO y).length+1<=2*(aV y).length
 | .lt b,_=>by show 1+1<=2*1;omega
 | .pr l r,h=>by
  have h1:=xD h.1
  have h2:=xD h.2.1
  show((iO l++iO r).length+1)+1<=2*(aV l++aV r).length
  rw[af8,af8];omega
 | .pw x k,h=>by
  have h1:=xD h.1
  have h2:=h.2.2
  show((iO x).length+1)+1<=2*((List.replicate k (aV x)).flatten).length
  rw[aiF,aij,aiD]
  have:=agY (aV x).length h2
  omega
theorem rY:∀{y:Sy},jF y->∀z∈iO y,jF z/\(aV z).length<=(aV y).length
 | .lt b,h,z,hz=>by
  have:z=.lt b:=by simpa[iO]using hz
  subst this;exact⟨h,af7 _⟩
 | .pr l r,h,z,hz=>by
  have hz':z=.pr l r\/z∈iO l\/z∈iO r:=by simpa[iO]using hz
  rcases hz' with rfl|q|q
  .exact⟨h,af7 _⟩
  .obtain⟨a,b⟩:=rY h.1 z q
   exact⟨a,by show _<=(aV l++aV r).length;rw[af8];omega⟩
  .obtain⟨a,b⟩:=rY h.2.1 z q
   exact⟨a,by show _<=(aV l++aV r).length;rw[af8];omega⟩
 | .pw x k,h,z,hz=>by
  have hz':z=.pw x k\/z∈iO x:=by simpa[iO]using hz
  rcases hz' with rfl|q
  .exact⟨h,af7 _⟩
  .obtain⟨a,b⟩:=rY h.1 z q
   refine⟨a,?_⟩
   show _<=((List.replicate k (aV x)).flatten).length
   rw[aiF,aij,aiD]
   have:=agY (aV x).length (show 1<=k by have:=h.2.2;omega)
   omega
theorem AQ(n:Nat):∀{y z:Sy},z∈ex n y->z∈iO y
 | .lt b,z,h=>by simpa[ex,iO]using h
 | .pr l r,z,h=>by
  unfold ex at h
  split at h
  .rw[agl.1 h];exact pJ _
  .rcases ags.1 h with h|h
   .simp[iO,AQ n h]
   .simp[iO,AQ n h]
 | .pw x k,z,h=>by
  unfold ex at h
  split at h
  .rw[agl.1 h];exact pJ _
  .obtain⟨l,hl,h⟩:=akb.1 h
   rw[(aiI.1 hl).2]at h
   simp[iO,AQ n h]
theorem Ld{t:List Nat}(ht:t≠[]){n:Nat}{z:Sy}(h:z∈S n t):z∈iO (sig t):=AQ n (by rw[<-BK ht n];exact h)
end M
section
open Go.RowKit Go.Lib
namespace M
variable{E:List En}{F T:List Sy}{B b c g i k most n0:Nat}{x y:Sy}{A C W:World}
def xx(E:List En)(T:List Sy):List Value:=T.map λy=>vI (num E y)
def yU(T:List Sy):List Value:=T.map λy=>vK (key y)
theorem iX(E:List En)(T:List Sy):(xx E T).length=T.length:=agM ..
theorem mD(T:List Sy):(yU T).length=T.length:=agM ..
theorem kP(E:List En)(T U:List Sy):xx E (T++U)=xx E T++xx E U:=ag2 ..
theorem kQ(T U:List Sy):yU (T++U)=yU T++yU U:=ag2 ..
theorem tT{A B:List En}(h:Ext A B)(hT:∀y∈T,y∈syms A):xx B T=xx A T:=aiG λy hy=>by
 show vI (num B y)=vI (num A y)
 rw[eZ h (hT y hy)]
theorem Ng(h:T[i]?=some y):(xx E T)[i]?=some (vI (num E y)):=by unfold xx;rw[ahg,h];rfl
theorem Vx(h:T[i]?=some y):(yU T)[i]?=some (vK (key y)):=by unfold yU;rw[ahg,h];rfl
structure Row(W:World)(E:List En)(b1 b2 c:Nat)(T:List Sy):Prop where
 mem:∀y∈T,y∈syms E
 ids:Hs W 27 b1 c (xx E T) 0 []
 keys:Hs W 88 b2 c (yU T) 0 []
structure Gw(n0 B most g:Nat)(F:List Sy)(X:Nat->Prop)(E E':List En)(W w':World):Prop where
 ext:Ext E E'
 st:gV n0 B most g F E' w'
 below:Below n0 W w'
 kp:Kp B X W w'
theorem Gw.refl{n0 B most g:Nat}{F:List Sy}{X:Nat->Prop}{E:List En}{W:World}(h:gV n0 B most g F E W):Gw n0 B most g F X E E W W:=⟨Ext.refl _,h,af6 _ _,.of (af6 _ _)⟩
theorem Gw.trans{n0 B most g:Nat}{F:List Sy}{X:Nat->Prop}{E E2 E3:List En}{A C D:World}(h:Gw n0 B most g F X E E2 A C)(k:Gw n0 B most g F X E2 E3 C D):Gw n0 B most g F X E E3 A D:=
 ⟨h.ext.trans k.ext,k.st,h.below.trans k.below,h.kp.trans k.kp⟩
theorem Gw.mono{n0 B most g:Nat}{F:List Sy}{X Y:Nat->Prop}{E E2:List En}{A C:World}(h:Gw n0 B most g F X E E2 A C)(hx:∀k,k<A.heap.size->X k->Y k):Gw n0 B most g F Y E E2 A C:=⟨h.ext,h.st,h.below,h.kp.mono hx⟩
theorem Gw.free{Y:Nat->Prop}{E2:List En}(h:Gw n0 B most g F (λ_=>False) E E2 A C):Gw n0 B most g F Y E E2 A C:=h.mono λ_ _ q=>q.elim
theorem Gw.of{n0 B most g:Nat}{F:List Sy}{X:Nat->Prop}{E:List En}{A C:World}(h:gV n0 B most g F E A)(hb:Below A.heap.size A C):Gw n0 B most g F X E E A C:=⟨Ext.refl _,h.below hb,hb.mono h.lt,.of hb⟩
theorem Gw.put{X:Nat->Prop}{cs:Array Value}{t:TypeId}{fz:Nat×Nat}(h:gV n0 B most g F E A)(hg:A.grownBy C (some b))(hb:A.heap[b]?=some (.cells cs t fz))(ht:t∉Du)(hn:n0<=b)(hX:X b):Gw n0 B most g F X E E A C:=
 ⟨Ext.refl _,h.ot hg hb ht hn,bL hg hn h.lt,Kp.ot hg hb ht hX⟩
theorem Gw.app{X:Nat->Prop}{e:TypeId}{L O:List Value}(h:gV n0 B most g F E A)(hg:A.grownBy C (some b))(hb:Hs A e b c L k O)(ht:e∉Du)(hn:n0<=b)(hX:X b):Gw n0 B most g F X E E A C:=by
 obtain⟨cs,h1,-⟩:=hb.h
 exact Gw.put h hg h1 ht hn hX
theorem Gw.mem{n0 B most g:Nat}{F:List Sy}{X:Nat->Prop}{E E2:List En}{A C:World}(h:Gw n0 B most g F X E E2 A C){T:List Sy}(hT:∀y∈T,y∈syms E):∀y∈T,y∈syms E2:=λy hy=>h.ext.mem (hT y hy)
theorem gV.num{n0 B most g:Nat}{F:List Sy}{E:List En}{W:World}(h:gV n0 B most g F E W){i:Nat}(h0:0<i)(hi:i<=E.length){y:Sy}(e:sym E i=y):M.num E y=i/\y∈syms E:=by
 rw[<-e]
 exact⟨AJ h.wf.wf h.nd h0 hi,tF h0 hi⟩
theorem ac9(h:gV n0 B most g F E W)(hb:b<256)(hF:Sy.lt b∈F):
    Calls Tryz.prog 128 #[.pointer (some ⟨B,0,none⟩),.int .u8 b] W λx w'=>∃E',x=.returned (.tuple #[vI (num E' (.lt b)),.nilIface])/\Gw n0 B most g F (λ_=>False) E E' W w'/\ .lt b∈syms E':=by
 refine(ac3 h (λ_=>False) hb hF).mono ?_
 rintro x w' ⟨i,rfl,h0,E',h1,h2,h3,h4,h5,h6⟩
 obtain⟨e,hm⟩:=h2.num h0 h5 h6
 exact⟨E',by rw[e],⟨h1,h2,h3,h4⟩,hm⟩
theorem XD(h:gV n0 B most g F E W)(hx:x∈syms E)(hy:y∈syms E)(hF:Sy.pr x y∈F):
    Calls Tryz.prog 129 #[.pointer (some ⟨B,0,none⟩),vI (num E x),vI (num E y)] W λr w'=>∃E',r=.returned (.tuple #[vI (num E' (.pr x y)),.nilIface])/\Gw n0 B most g F (λ_=>False) E E' W w'/\ .pr x y∈syms E':=by
 obtain⟨x1,x2,x3⟩:=aS hx
 obtain⟨y1,y2,y3⟩:=aS hy
 have hc:=ac4 h (λ_=>False) x1 x2 y1 y2 (by rw[x3,y3];exact hF)
 rw[x3,y3]at hc
 refine hc.mono ?_
 rintro r w' ⟨i,rfl,h0,E',h1,h2,h3,h4,h5,h6⟩
 obtain⟨e,hm⟩:=h2.num h0 h5 h6
 exact⟨E',by rw[e],⟨h1,h2,h3,h4⟩,hm⟩
theorem XE(h:gV n0 B most g F E W)(hx:x∈syms E)(hk:2<=k)(hF:Sy.pw x k∈F):
    Calls Tryz.prog 101 #[.pointer (some ⟨B,0,none⟩),vI (num E x),.int .i64 k] W λr w'=>∃E',r=.returned (.tuple #[vI (num E' (.pw x k)),.nilIface])/\Gw n0 B most g F (λ_=>False) E E' W w'/\ .pw x k∈syms E':=by
 obtain⟨x1,x2,x3⟩:=aS hx
 have hc:=ac5 h (λ_=>False) x1 x2 hk (by rw[x3];exact hF)
 rw[x3]at hc
 refine hc.mono ?_
 rintro r w' ⟨i,rfl,h0,E',h1,h2,h3,h4,h5,h6⟩
 obtain⟨e,hm⟩:=h2.num h0 h5 h6
 exact⟨E',by rw[e],⟨h1,h2,h3,h4⟩,hm⟩
theorem Ci(h:gV n0 B most g F E W)(hx:x∈syms E):
    Calls Tryz.prog 171 #[.pointer (some ⟨g,0,none⟩),vI (num E x)] W λr w'=>r=.returned (.tuple #[vK (key x),.nilIface])/\Gw n0 B most g F (λ_=>False) E E W w':=by
 obtain⟨x1,x2,x3⟩:=aS hx
 have hc:=RY h (λ_=>False) x1 x2
 rw[x3]at hc
 refine hc.mono ?_
 rintro r w' ⟨rfl,h2,h3,h4⟩
 exact⟨rfl,⟨Ext.refl _,h2,h3,h4⟩⟩
theorem xA(h:gV n0 B most g F E W)(hx:x∈syms E)(hok:jF x):
    Calls Tryz.prog 20 #[.pointer (some ⟨g,0,none⟩),vI (num E x)] W λr w'=>r=.returned (.tuple #[vI (aQ x),.nilIface])/\Gw n0 B most g F (λ_=>False) E E W w':=by
 obtain⟨x1,x2,x3⟩:=aS hx
 have hc:=RZ h (λ_=>False) x1 x2 (by rw[x3];exact hok)
 rw[x3]at hc
 refine hc.mono ?_
 rintro r w' ⟨rfl,h2,h3,h4⟩
 exact⟨rfl,⟨Ext.refl _,h2,h3,h4⟩⟩
theorem R6(h:gV n0 B most g F E W){p:Nat}(hp:iW W p B g){b1 b2 b6 m:Nat}{O1 O2:List Value}(hq:jM W b6 (.slice (some ⟨b1,0,none⟩) m c) (.slice (some ⟨b2,0,none⟩) m c))
    (H1:Hs W 27 b1 c (xx E T) k O1) (H2:Hs W 88 b2 c (yU T) k O2) (hm:T.length=m) (hk:m+1<=k) (hc:m+1<=c) {y:Sy} (hy:y∈syms E) (n1:n0<=b1) (n2:n0<=b2) (n6:n0<=b6):
    Calls Tryz.prog 169 #[.pointer (some ⟨p,0,none⟩),.pointer (some ⟨b6,0,none⟩),vI (num E y)] W λe w'=>e=.returned .nilIface/\Gw n0 B most g F (λq=>q=b1\/q=b2\/q=b6) E E W w'/\
     jM w' b6 (.slice (some ⟨b1,0,none⟩) (m+1) c) (.slice (some ⟨b2,0,none⟩) (m+1) c)/\Hs w' 27 b1 c (xx E (T++[y])) k O1/\Hs w' 88 b2 c (yU (T++[y])) k O2:=by
 obtain⟨x1,x2,x3⟩:=aS hy
 have hc:=R4 h hp hq H1 H2 (by rw[iX,hm]) (by rw[mD,hm]) hk hc x1 x2 n1 n2 n6
 rw[x3]at hc
 refine hc.mono ?_
 rintro e w' ⟨rfl,h1,h2,h3,h4,h5,h6⟩
 rw[kP,kQ]
 exact⟨rfl,⟨Ext.refl _,h1,h2,h3⟩,h4,h5,h6⟩
end M
end
section
open Go.RowKit Go.Lib
variable{B:Nat}{α:Type}{e:TypeId}{v:Value}{W:World}
theorem zK{α:Type}{enc:α->List Value}{size:Nat}(he:∀a,(enc a).length=size):∀(l:List α) (i j:Nat) (hi:i<l.length) (_:j<size) (x':α) (u:Value),enc x'=(enc l[i]).set j u->(l.set i x').flatMap enc=(l.flatMap enc).set (i*size+j) u
 |a::l,0,j,_,hj,x',u,hx=>by
  rw[agu,agW,agW,aiS,ahi,List.set_append_left _ _ (by rw[he];exact hj)]
  rw[hx];rfl
 |a::l,i+1,j,hi,hj,x',u,hx=>by
  rw[agv,agW,agW,aiY _ _ (by rw[he,aha];omega),he,show(i+1)*size+j-size=i*size+j by rw[aha];omega]
  rw[zK he l i j (by simpa using hi) hj x' u hx]
theorem aP.setAt{size:Nat}{enc:α->List Value}(he:∀a,(enc a).length=size){g cap n:Nat}{l:List α}(h:aP B W e size enc (.slice (some ⟨g,0,none⟩) n cap) l){i j:Nat}(hi:i<l.length)(hj:j<size){x':α}{u:Value}(hx:enc x'=(enc l[i]).set j u):
    aP B (W.setCell ⟨g,i*size+j,none⟩ u) e size enc (.slice (some ⟨g,0,none⟩) n cap) (l.set i x'):=by
 unfold aP at h⊢
 rw[zK he l i j hi hj x' u hx,agL]
 refine⟨by rw[agL];exact h.1,?_⟩
 rcases h.2 with⟨hv,_⟩|⟨g',cap',cur,hv,hg,hgb,h1,h2,h3,h4⟩
 .cases hv
 .cases hv
  refine .inr ⟨g,cap,cur.setIfInBounds (i*size+j) u,rfl,hg,aC _ hgb,h1,h2,by simpa using h3,?_⟩
  rw[ajh,akj,h4]
theorem aP.congr{size:Nat}{enc enc':α->List Value}{l:List α}(h:aP B W e size enc v l)(hx:∀x∈l,enc' x=enc x):aP B W e size enc' v l:=by
 have e1:l.flatMap enc'=l.flatMap enc:=by
  clear h
  induction l with
  |nil=>rfl
  |cons a l ih=>rw[agW,agW,hx a (by simp),ih λx q=>hx x (by simp[q])]
 unfold aP at h⊢
 rw[e1];exact h
theorem aP.grown{A C:World}{size:Nat}{enc:α->List Value}{l:List α}(h:aP B A e size enc v l){row:Option Nat}(hg:A.grownBy C row)(hr:v.ownBlock=none\/v.ownBlock≠row):aP B C e size enc v l:=ajz h hg hr
theorem aP.blk{size:Nat}{enc:α->List Value}{l:List α}(h:aP B W e size enc v l){b:Nat}(hb:v.ownBlock=some b):B<=b/\∃cur,W.heap[b]?=some (.cells cur e (0,0)):=by
 rcases h.2 with⟨rfl,_⟩|⟨g,cap,cur,rfl,hg,hgb,_⟩
 .cases hb
 .have e1:g=b:=by simpa[Value.ownBlock]using hb
  subst e1
  exact⟨hg,cur,hgb⟩
namespace M
attribute [local go_sem] Oper.semAt_some
variable{A B:List En}{j lo o:Nat}{v x:Value}
theorem Kp.sl{α:Type}{B:Nat}{X:Nat->Prop}{A C:World}(h:Kp B X A C){e:TypeId}{size:Nat}{enc:α->List Value}{l:List α}(hs:aP lo A e size enc v l)(he:e∉Du)(hX:∀b,v.ownBlock=some b->¬X b):aP lo C e size enc v l:=by
 refine⟨hs.1,?_⟩
 rcases hs.2 with hn|⟨g,cap,cur,rfl,hb,hg,rest⟩
 .exact .inl hn
 .exact .inr ⟨g,cap,cur,rfl,hb,h.cells e he g (hX g rfl) _ _ hg,rest⟩
def zL(E:List En)(f:Sy×Nat):List Value:=[vI (num E f.1),.int .i64 (yP E f.1).kind,.int .u8 (yP E f.1).letter,.int .i64 (yP E f.1).left,.int .i64 (yP E f.1).right,.int .i64 (yP E f.1).times,vI (aQ f.1),vI f.2]
theorem tY(E:List En)(f:Sy×Nat):(zL E f).length=8:=rfl
theorem O5(E:List En)(f:Sy×Nat):∀u∈zL E f,u.oneCell'=true:=by simp[zL,Value.oneCell']
abbrev frV(E:List En)(y:Sy)(h:Nat):Value:=.agg #[vI (num E y),.int .i64 (yP E y).kind,.int .u8 (yP E y).letter,.int .i64 (yP E y).left,.int .i64 (yP E y).right,.int .i64 (yP E y).times,vI (aQ y),vI h]
theorem VQ(h:Ext A B)(hwf:Wf A){y:Sy}(hy:y∈syms A):yP B y=yP A y:=by
 cases y with
 |lt b=>rfl
 |pr l r=>
  have h1:=pz hwf hy (x:=l) (by simp[aZ])
  have h2:=pz hwf hy (x:=r) (by simp[aZ])
  show(⟨2,0,num B l,num B r,0⟩:Ru)=⟨2,0,num A l,num A r,0⟩
  rw[eZ h h1,eZ h h2]
 |pw x k=>
  have h1:x∈syms A:=by
   obtain⟨i,h0,hi,e⟩:=FD hy
   rcases fI hwf h0 hi with⟨b,r1,s1,-⟩|⟨l,r,r1,s1,l1,l2,l3,l4⟩|⟨x',k',r1,s1,l1,l2,l3,l4⟩
   .rw[s1]at e;cases e
   .rw[s1]at e;cases e
   .rw[s1]at e
    injection e with e1 _
    rw[<-e1];exact tF l1 (by omega)
  show(⟨3,0,num B x,0,k⟩:Ru)=⟨3,0,num A x,0,k⟩
  rw[eZ h h1]
theorem O6(h:Ext A B)(hwf:Wf A){f:Sy×Nat}(hf:f.1∈syms A):zL B f=zL A f:=by
 unfold zL
 rw[eZ h hf,VQ h hwf hf]
theorem aap:Elem Tryz.prog 245 289 8 64:=gP Tryz.underlying245 (z:=.agg #[.int .i64 0,.int .i64 0,.int .u8 0,.int .i64 0,.int .i64 0,.int .i64 0,.int .i64 0,.int .i64 0]) (by kernel_rfl) rfl (by decide) (by decide)
abbrev G9(lo:Nat)(W:World)(E:List En)(v:Value)(p:gI):Prop:=aP lo W 289 8 (zL E) v p.reverse
abbrev ku(pa:Nat):Value:=.pointer (some ⟨pa,0,none⟩)
structure iq(W:World)(E:List En)(T:TypeId)(lo sb o pa:Nat)(b:Bool)(p:gI)(i k:Nat)(cs:Array Value)(v:Value):Prop where
 blk:W.heap[sb]?=some (.cells cs T (0,0))
 c0:cs[o]?=some (ku pa)
 c1:cs[o+1]?=some (.bool b)
 c2:cs[o+2]?=some v
 c3:cs[o+3]?=some (vI i)
 c4:cs[o+4]?=some (vK k)
 path:G9 lo W E v p
 mem:∀f∈p,f.1∈syms E/\jF f.1
theorem iq.cells{W:World}{E:List En}{T:TypeId}{sb pa:Nat}{b:Bool}{p:gI}{i k:Nat}{cs:Array Value}(h:iq W E T lo sb o pa b p i k cs v):
    W.cell? ⟨sb,o,none⟩=some (ku pa)/\W.cell? ⟨sb,o+1,none⟩=some (.bool b)/\W.cell? ⟨sb,o+2,none⟩=some v/\W.cell? ⟨sb,o+3,none⟩=some (vI i)/\W.cell? ⟨sb,o+4,none⟩=some (vK k)/\∀j,W.frozen? ⟨sb,j,none⟩=false:=by
 refine⟨?_,?_,?_,?_,?_,λj=>?_⟩
 .simp only[World.cell?,h.blk];simpa using h.c0
 .simp only[World.cell?,h.blk];simpa using h.c1
 .simp only[World.cell?,h.blk];simpa using h.c2
 .simp only[World.cell?,h.blk];simpa using h.c3
 .simp only[World.cell?,h.blk];simpa using h.c4
 .simp[World.frozen?,h.blk]
structure lV(o:Nat)(cs cs':Array Value):Prop where
 size:cs'.size=cs.size
 get:∀j,(j<o\/o+5<=j)->cs'[j]?=cs[j]?
theorem lV.refl(o:Nat)(cs:Array Value):lV o cs cs:=⟨rfl,λ_ _=>rfl⟩
theorem lV.trans{o:Nat}{a b c:Array Value}(h:lV o a b)(k:lV o b c):lV o a c:=⟨k.size.trans h.size,λj hj=>(k.get j hj).trans (h.get j hj)⟩
theorem lV.set{cs:Array Value}(h1:o<=j)(h2:j<o+5)(x:Value):lV o cs (cs.setIfInBounds j x):=⟨by simp,λq hq=>by rw[aiU (by omega)]⟩
theorem Cn{cs:Array Value}{y:Value}(h:cs[j]?=some y):(cs.setIfInBounds j x)[j]?=some x:=by
 have:=(aga.1 h).1
 rw[ajg this]
theorem iP{cs:Array Value}{q:Nat}(h:j≠q):(cs.setIfInBounds j x)[q]?=cs[q]?:=aiU h
structure EdL(n0 lo sb:Nat)(T:TypeId):Prop where
 l0:n0<=lo
 l1:lo<=sb
 t1:T∉Du
 t2:T≠289
 t3:T≠129
section
variable {W w':World} {E:List En} {T:TypeId} {lo sb o pa:Nat} {b:Bool} {p:gI} {i k:Nat} {cs:Array Value} {v:Value}
theorem iq.ne(h:iq W E T lo sb o pa b p i k cs v)(hT:T≠289){q:Nat}(hq:v.ownBlock=some q):q≠sb:=by
 rintro rfl
 obtain⟨-,cur,hc⟩:=h.path.blk hq
 rw[h.blk]at hc
 injection hc with hc;injection hc with _ hc _
 exact hT hc
theorem iq.id(h:iq W E T lo sb o pa b p i k cs v)(hT:T≠289)(i':Nat):iq (W.setCell ⟨sb,o+3,none⟩ (vI i')) E T lo sb o pa b p i' k (cs.setIfInBounds (o+3) (vI i')) v:=
 ⟨aC _ h.blk,by rw[iP (by omega)];exact h.c0,by rw[iP (by omega)];exact h.c1,by rw[iP (by omega)];exact h.c2,Cn h.c3,by rw[iP (by omega)];exact h.c4,h.path.setCell _ h.blk hT,h.mem⟩
theorem iq.key(h:iq W E T lo sb o pa b p i k cs v)(hT:T≠289)(k':Nat):iq (W.setCell ⟨sb,o+4,none⟩ (vK k')) E T lo sb o pa b p i k' (cs.setIfInBounds (o+4) (vK k')) v:=
 ⟨aC _ h.blk,by rw[iP (by omega)];exact h.c0,by rw[iP (by omega)];exact h.c1,by rw[iP (by omega)];exact h.c2,by rw[iP (by omega)];exact h.c3,Cn h.c4,h.path.setCell _ h.blk hT,h.mem⟩
theorem iq.slice(h:iq W E T lo sb o pa b p i k cs v)(hT:T≠289){v':Value}{p':gI}(hp:G9 lo W E v' p')(hm:∀f∈p',f.1∈syms E/\jF f.1):iq (W.setCell ⟨sb,o+2,none⟩ v') E T lo sb o pa b p' i k (cs.setIfInBounds (o+2) v') v':=
 ⟨aC _ h.blk,by rw[iP (by omega)];exact h.c0,by rw[iP (by omega)];exact h.c1,Cn h.c2,by rw[iP (by omega)];exact h.c3,by rw[iP (by omega)];exact h.c4,hp.setCell _ h.blk hT,hm⟩
theorem iq.below(h:iq W E T lo sb o pa b p i k cs v)(hb:Below W.heap.size W w'):iq w' E T lo sb o pa b p i k cs v:=
 ⟨au hb h.blk,h.c0,h.c1,h.c2,h.c3,h.c4,h.path.below hb,h.mem⟩
theorem iq.gw{n0 B most g:Nat}{F:List Sy}{X:Nat->Prop}{E':List En}(h:iq W E T lo sb o pa b p i k cs v)(hg:Gw n0 B most g F X E E' W w')(hwf:Wf E)(hT:T∉Du)(hX:¬X sb)(hX2:∀q,v.ownBlock=some q->¬X q):iq w' E' T lo sb o pa b p i k cs v:=
 ⟨hg.kp.cells _ hT _ hX _ _ h.blk,h.c0,h.c1,h.c2,h.c3,h.c4,(hg.kp.sl h.path (by decide) hX2).congr (λf hf=>O6 hg.ext hwf (h.mem f (by simpa using hf)).1),λf hf=>⟨hg.ext.mem (h.mem f hf).1,(h.mem f hf).2⟩⟩
end
variable{b:Bool}{E:List En}{i k lo o sb:Nat}{T:TypeId}{v:Value}{W:World}{p:gI}
def EF:Ed->gI
 |none=>[]
 |some (p,_)=>p
def Uw(E:List En):Ed->Nat
 |none=>0
 |some (_,x)=>num E x
def O7:Ed->Nat
 |none=>0
 |some (_,x)=>key x
structure J6(W:World)(E:List En)(T:TypeId)(lo sb o pa:Nat)(b:Bool)(e:Ed)(cs:Array Value)(v:Value):Prop where
 r:iq W E T lo sb o pa b (EF e) (Uw E e) (O7 e) cs v
 sym:∀p x,e=some (p,x)->x∈syms E/\jF x
theorem J6.gw{W w':World}{E:List En}{T:TypeId}{lo sb o pa:Nat}{b:Bool}{e:Ed}{cs:Array Value}{v:Value}{n0 B most g:Nat}{F:List Sy}{X:Nat->Prop}{E':List En}(h:J6 W E T lo sb o pa b e cs v)(hg:Gw n0 B most g F X E E' W w')(hwf:Wf E)(hT:T∉Du)(hX:¬X sb)(hX2:∀q,v.ownBlock=some q->¬X q):J6 w' E' T lo sb o pa b e cs v:=by
 have h1:=h.r.gw hg hwf hT hX hX2
 have e1:Uw E' e=Uw E e:=by
  cases e with
  |none=>rfl
  |some q=>obtain⟨p,x⟩:=q;exact eZ hg.ext (h.sym p x rfl).1
 exact⟨by rw[e1];exact h1,λp x e=>⟨hg.ext.mem (h.sym p x e).1,(h.sym p x e).2⟩⟩
theorem J6.below{W w':World}{E:List En}{T:TypeId}{lo sb o pa:Nat}{b:Bool}{e:Ed}{cs:Array Value}{v:Value}(h:J6 W E T lo sb o pa b e cs v)(hb:Below W.heap.size W w'):J6 w' E T lo sb o pa b e cs v:=⟨h.r.below hb,h.sym⟩
abbrev G_(sb:Nat)(v:Value)(n:Nat)(q:Nat):Prop:=q=sb\/v.ownBlock=some q\/n<=q
theorem iq.pa{n0 pa B g:Nat}{cs:Array Value}(h:iq W E T lo sb o pa b p i k cs v)(hl:EdL n0 lo sb T)(hp:iW W pa B g):¬G_ sb v W.heap.size pa:=by
 have hlt:=(aga.1 hp).1
 unfold iW at hp
 rintro(q|q|q)
 .rw[q,h.blk]at hp
  injection hp with hp;injection hp with _ hp _
  exact hl.t3 hp
 .obtain⟨-,cur,hc⟩:=h.path.blk q
  rw[hc]at hp
  injection hp with hp;injection hp with _ hp _
  exact absurd hp (by decide)
 .omega
theorem iq.lt{pa:Nat}{cs:Array Value}(h:iq W E T lo sb o pa b p i k cs v):sb<W.heap.size:=(aga.1 h.blk).1
theorem iq.Ux{pa:Nat}{cs:Array Value}(h:iq W E T lo sb o pa b p i k cs v){q:Nat}(hq:v.ownBlock=some q):lo<=q/\q<W.heap.size:=by
 obtain⟨a,cur,hc⟩:=h.path.blk hq
 exact⟨a,(aga.1 hc).1⟩
def He(n0 B most g:Nat)(F:List Sy)(E:List En)(W:World)(T:TypeId)(lo sb o pa:Nat)(b:Bool)(cs:Array Value)(v:Value)(e:Ed)(w':World):Prop:=
 ∃cs' v',J6 w' E T lo sb o pa b e cs' v'/\lV o cs cs'/\pE W.heap.size v v'/\Gw n0 B most g F (G_ sb v W.heap.size) E E W w'
theorem vB(n:Nat)(v:Value):pE n v v:=.inl rfl
theorem zM{n m:Nat}{a b c:Value}(h:pE n a b)(k:pE m b c)(hm:n<=m):pE n a c:=by
 rcases k with k|⟨q,k1,k2⟩
 .rcases h with h|⟨q,h1,h2⟩
  .exact .inl (k.trans h)
  .exact .inr ⟨q,k.trans h1,h2⟩
 .exact .inr ⟨q,k1,by omega⟩
theorem dY.len{b:Bool}{root:Sy}:∀{p:gI} {x:Sy},dY b root p x->p.length+aQ x<=aQ root
 | [],x,h=>by rw[show x=root from h];simp
 | (y,h)::p,x,hs=>by
  have hl:=jQ (qp.1 (agE hs.2.1))
  have:=dY.len hs.2.2
  rw[agc];omega
end M
end
end Go.Proofs.YtgbhohfabhilgaaGreatDoor
