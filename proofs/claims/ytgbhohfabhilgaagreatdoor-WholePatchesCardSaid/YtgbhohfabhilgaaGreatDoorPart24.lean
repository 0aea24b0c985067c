import Derived.Test.YtgbhohfabhilgaaGreatDoorPart23
set_option maxRecDepth 100000
set_option maxHeartbeats 8000000
set_option linter.unusedVariables false
set_option linter.unusedSimpArgs false
namespace Go.Proofs.YtgbhohfabhilgaaGreatDoor
section
open Go.RowKit Go.Lib
namespace M
attribute [local go_sem] Oper.semAt_some
theorem Nf{l:List Sy}:∀{F:List Sy},l.Nodup->(∀y∈l,y∈F)->l.length<=F.length:=by
 induction l with
 |nil=>intro F _ _;exact agb _
 |cons a l ih=>
  intro F hn hs
  obtain⟨h1,h2⟩:=ail.1 hn
  have ha:=hs a (by simp)
  have:=ih (F:=F.erase a) h2 (λy hy=>(akG (by rintro rfl;exact h1 hy)).2 (hs y (by simp[hy])))
  rw[akw ha]at this
  have:=akA ha
  rw[agc];omega
abbrev Du:List TypeId:=[140,136,127,142]
structure Kp(B:Nat)(X:Nat->Prop)(A C:World):Prop where
 cells:∀t:TypeId,t∉Du->∀(k:Nat),¬X k->∀(cs:Array Value) (fz:Nat×Nat),A.heap[k]?=some (.cells cs t fz)->C.heap[k]?=some (.cells cs t fz)
 map:∀v,Dq B A v->Dq B C v
 others:∀(k:Nat) es c,A.heap[k]?=some (.map es c)->(∃v,Dq B A v/\v≠ .map (some k))->C.heap[k]?=some (.map es c)
theorem Kp.of{B:Nat}{X:Nat->Prop}{A C:World}(h:Below A.heap.size A C):Kp B X A C:=⟨λ_ _ _ _ _ _ e=>au h e,λv ⟨cs,fz,e1,e2⟩=>⟨cs,fz,au h e1,e2⟩,λ_ _ _ e _=>au h e⟩
theorem Kp.trans{B:Nat}{X:Nat->Prop}{A C D:World}(h:Kp B X A C)(k:Kp B X C D):Kp B X A D:=⟨λt a i b cs fz e=>k.cells t a i b cs fz (h.cells t a i b cs fz e),λv e=>k.map v (h.map v e),λi es c e ⟨v,h1,h2⟩=>k.others i es c (h.others i es c e ⟨v,h1,h2⟩) ⟨v,h.map v h1,h2⟩⟩
theorem Kp.mono{B:Nat}{X Y:Nat->Prop}{A C:World}(h:Kp B X A C)(hx:∀k,k<A.heap.size->X k->Y k):Kp B Y A C:=⟨λt a i b cs fz e=>h.cells t a i (λq=>b (hx i (aga.1 e).1 q)) cs fz e,h.map,h.others⟩
theorem Kp.kt{B:Nat}{X:Nat->Prop}{A C:World}(h:Kt B A C):Kp B X A C:=⟨λt a k _ cs fz e=>h.cells t (λe=>a (by rw[e];decide)) (λe=>a (by rw[e];decide)) k cs fz e,h.map,h.others⟩
theorem Kp.Vs{B:Nat}{X:Nat->Prop}{A C:World}(h:bS Ae A C):Kp B X A C:=⟨λt a k _ cs fz e=>h.cells e (λq=>a (by simp only[Ae,Du,agm]at q⊢;exact .inr (.inr q))),λv ⟨cs,fz,e1,e2⟩=>⟨cs,fz,h.cells e1 (by decide),e2⟩,λk es c e _=>h.block k _ e (λ_ _ _ q=>by cases q)⟩
structure gV(n0 B most g:Nat)(F:List Sy)(E:List En)(W:World):Prop where
 st:aW n0 W B most E
 wf:iE E
 kt:jV n0 W g B E
 sub:∀y∈syms E,y∈F
 len:F.length<most
 most:most<=1048576
 txt:∀y∈F,(aV y).length<=1152921504606846976
theorem gV.nd{n0 B most g:Nat}{F:List Sy}{E:List En}{W:World}(h:gV n0 B most g F E W):(E.map En.ru).Nodup:=h.st.nodup
theorem gV.room{n0 B most g:Nat}{F:List Sy}{E:List En}{W:World}(h:gV n0 B most g F E W):E.length<most/\E.length<=1048575:=by
 have h1:=Nf (BU h.wf.wf h.nd) h.sub
 rw[bN]at h1
 have:=h.len
 have:=h.most
 omega
theorem gV.lt{n0 B most g:Nat}{F:List Sy}{E:List En}{W:World}(h:gV n0 B most g F E W):n0<=W.heap.size:=h.st.lt
theorem gV.below{n0 B most g:Nat}{F:List Sy}{E:List En}{W w:World}(h:gV n0 B most g F E W)(hb:Below W.heap.size W w):gV n0 B most g F E w:=⟨h.st.below hb,h.wf,h.kt.below hb,h.sub,h.len,h.most,h.txt⟩
def Grw(n0 B most g:Nat)(F:List Sy)(X:Nat->Prop)(E:List En)(W w':World)(Q:List En->Prop):Prop:=∃E',Ext E E'/\gV n0 B most g F E' w'/\Below n0 W w'/\Kp B X W w'/\Q E'
theorem RX{E:List En}(h:iE E){e:En}(ho:Fv E e)(hd:BA E e):sym (fA E e).1 (fA E e).2=z_ (syms E) e.ru/\∀y∈syms (fA E e).1,y∈syms E\/y=z_ (syms E) e.ru:=by
 unfold fA
 by_cases hf:fid e.ru 1 E=0
 .rw[af5 hf]
  refine⟨Iu E e,λy hy=>?_⟩
  have hy':y∈syms (E++[e]):=hy
  rw[pq]at hy'
  simpa using hy'
 .rw[af4 hf]
  obtain⟨a,b,c⟩:=Ee hf
  refine⟨?_,λy hy=> .inl hy⟩
  show sym E (fid e.ru 1 E)=_
  rw[Rm h.wf _ a b,c]
theorem gV.add{n0 B most g:Nat}{F:List Sy}{X:Nat->Prop}{E:List En}{W w':World}(h:gV n0 B most g F E W){e:En}(ho:Fv E e)(hd:BA E e)(hF:z_ (syms E) e.ru∈F)(hs:aW n0 w' B most (fA E e).1)(hb:Below n0 W w')(hk:Kt B W w'):
    0<(fA E e).2/\Grw n0 B most g F X E W w' (λE'=>(fA E e).2<=E'.length/\sym E' (fA E e).2=z_ (syms E) e.ru):=by
 obtain⟨a1,a2,a3,a4,a5,a6⟩:=Fx h.wf ho hd
 obtain⟨b1,b2⟩:=RX h.wf ho hd
 refine⟨a4,_,a2,⟨hs,a1,(h.kt.kt hk hb).ext a2,λy hy=>?_,h.len,h.most,h.txt⟩,hb,Kp.kt hk,a5,b1⟩
 rcases b2 y hy with q|q
 .exact h.sub y q
 .rw[q];exact hF
theorem ac3{n0 B most g:Nat}{F:List Sy}{E:List En}{W:World}(h:gV n0 B most g F E W)(X:Nat->Prop){b:Nat}(hb:b<256)(hF:Sy.lt b∈F):
    Calls Tryz.prog 128 #[.pointer (some ⟨B,0,none⟩),.int .u8 b] W λx w'=>∃i:Nat,x=.returned (.tuple #[.int .i64 i,.nilIface])/\0<i/\Grw n0 B most g F X E W w' (λE'=>i<=E'.length/\sym E' i=.lt b):=by
 obtain⟨r1,r2⟩:=h.room
 refine(Bt h.st b hb r1 r2).mono ?_
 rintro x w' ⟨rfl,h1,h2,h3⟩
 exact⟨_,rfl,h.add (Mo E hb) (Mr E b) hF h1 h2 h3⟩
theorem og{E:List En}(h:Wf E){l:Nat}(h0:0<l)(hl:l<=E.length):(aF E l).w.len=(aV (sym E l)).length:=by
 rw[MK h l h0 hl,(h.get l h0 hl).1];rfl
theorem ac4{n0 B most g:Nat}{F:List Sy}{E:List En}{W:World}(h:gV n0 B most g F E W)(X:Nat->Prop){l r:Nat}(hl0:0<l)(hl:l<=E.length)(hr0:0<r)(hr:r<=E.length)(hF:Sy.pr (sym E l) (sym E r)∈F):
    Calls Tryz.prog 129 #[.pointer (some ⟨B,0,none⟩),.int .i64 l,.int .i64 r] W λx w'=>∃i:Nat,x=.returned (.tuple #[.int .i64 i,.nilIface])/\0<i/\Grw n0 B most g F X E W w' (λE'=>i<=E'.length/\sym E' i=.pr (sym E l) (sym E r)):=by
 obtain⟨r1,r2⟩:=h.room
 have e0:=h.txt _ hF
 have e1:(aF E l).w.len+(aF E r).w.len<=1152921504606846976:=by
  rw[og h.wf.wf hl0 hl,og h.wf.wf hr0 hr]
  simpa[aV]using e0
 have e:iM E l r=((fA E (gN E l r)).1,(fA E (gN E l r)).2,0):=by
  unfold iM
  rw[af4 (by omega),af4 (by omega),af5 e1]
 have hc:=Bz h.st h.wf.wf hl hr r1 r2
 rw[e]at hc
 refine hc.mono ?_
 rintro x w' ⟨rfl,h1,h2,h3⟩
 exact⟨_,rfl,h.add (Ia h.wf.wf hl0 hr0 hl hr e1) (Ic E l r) hF h1 h2 h3⟩
theorem Vw(E:List En)(l k:Nat):BA E (qo E l k):=by
 refine⟨λh=>?_,λh=>?_,λ_=>rfl⟩
 .have h':(3:Nat)=1:=h
  omega
 .have h':(3:Nat)=2:=h
  omega
theorem ac5{n0 B most g:Nat}{F:List Sy}{E:List En}{W:World}(h:gV n0 B most g F E W)(X:Nat->Prop){l k:Nat}(hl0:0<l)(hl:l<=E.length)(hk:2<=k)(hF:Sy.pw (sym E l) k∈F):
    Calls Tryz.prog 101 #[.pointer (some ⟨B,0,none⟩),.int .i64 l,.int .i64 k] W λx w'=>∃i:Nat,x=.returned (.tuple #[.int .i64 i,.nilIface])/\0<i/\Grw n0 B most g F X E W w' (λE'=>i<=E'.length/\sym E' i=.pw (sym E l) k):=by
 obtain⟨r1,r2⟩:=h.room
 have e0:=h.txt _ hF
 have e1:(aF E l).w.len*k<=1152921504606846976:=by
  rw[og h.wf.wf hl0 hl,ahq]
  simpa[aV]using e0
 have hp:0<(aF E l).w.len:=by
  obtain⟨a1,a2,a3,a4⟩:=h.wf.wf.get l hl0 hl
  rw[a1];exact a3
 have hk2:k<=9223372036854775807:=by
  have:k<=(aF E l).w.len*k:=ajW _ hp
  omega
 have e:wO E l k=((fA E (qo E l k)).1,(fA E (qo E l k)).2,0):=by
  unfold wO
  rw[af4 (by omega),af4 (by omega),af5 e1]
 have hc:=Oj h.st h.wf.wf hl hk2 r1 r2
 rw[e]at hc
 refine hc.mono ?_
 rintro x w' ⟨rfl,h1,h2,h3⟩
 exact⟨_,rfl,h.add (U7 h.wf.wf hl0 hl hk e1) (Vw E l k) hF h1 h2 h3⟩
theorem RY{n0 B most g:Nat}{F:List Sy}{E:List En}{W:World}(h:gV n0 B most g F E W)(X:Nat->Prop){i:Nat}(h0:0<i)(hi:i<=E.length):
    Calls Tryz.prog 171 #[.pointer (some ⟨g,0,none⟩),.int .i64 i] W λx w'=>x=.returned (.tuple #[.int .u64 (key (sym E i):Nat),.nilIface])/\gV n0 B most g F E w'/\Below n0 W w'/\Kp B X W w':=by
 refine(Vv h.st h.wf.wf (by have:=h.room;omega) h.kt h0 hi).mono ?_
 rintro x w' ⟨rfl,h1,h2,h3⟩
 exact⟨rfl,⟨h.st.OG h3 (by decide) (by decide),h.wf,h1,h.sub,h.len,h.most,h.txt⟩,h2,Kp.Vs h3⟩
theorem RZ{n0 B most g:Nat}{F:List Sy}{E:List En}{W:World}(h:gV n0 B most g F E W)(X:Nat->Prop){i:Nat}(h0:0<i)(hi:i<=E.length)(hok:jF (sym E i)):
    Calls Tryz.prog 20 #[.pointer (some ⟨g,0,none⟩),.int .i64 i] W λx w'=>x=.returned (.tuple #[.int .i64 (aQ (sym E i):Nat),.nilIface])/\gV n0 B most g F E w'/\Below n0 W w'/\Kp B X W w':=by
 refine(OQ h.st h.wf.wf (by have:=h.room;omega) h.kt h0 hi hok).mono ?_
 rintro x w' ⟨rfl,h1,h2,h3⟩
 exact⟨rfl,⟨h.st.OG h3 (by decide) (by decide),h.wf,h1,h.sub,h.len,h.most,h.txt⟩,h2,Kp.Vs h3⟩
theorem aM{A B C:World}{row:Option Nat}(h:A.grownBy B row)(k:B.grownBy C row):A.grownBy C row:=
 ⟨k.os.trans h.os,k.tape.trans h.tape,k.output.trans h.output,af9 h.size k.size,λi hi hn=>(k.block i (ahm hi h.size) hn).trans (h.block i hi hn)⟩
theorem aK(A:World)(a:Addr)(v:Value):A.grownBy (A.setCell a v) (some a.block):=⟨rfl,rfl,rfl,by simp[World.setCell],λk _ hk=>agU _ _ _ k (λe=>hk (by rw[e]))⟩
theorem aI{A C:World}{b k:Nat}{o:Obj}(h:A.grownBy C (some b))(hk:A.heap[k]?=some o)(hne:k≠b):C.heap[k]?=some o:=by
 rw[h.block k (aga.1 hk).1 (λe=>hne (agQ e))];exact hk
theorem bL{n:Nat}{A C:World}{b:Nat}(h:A.grownBy C (some b))(hn:n<=b)(hs:n<=A.heap.size):Below n A C:=(af6 n A).grown h hs (λk e=>by cases e;exact hn)
theorem jJ{A C:World}{b:Nat}{cs:Array Value}{t:TypeId}{fz:Nat×Nat}(h:A.grownBy C (some b))(hb:A.heap[b]?=some (.cells cs t fz)):bS [t] A C:=
 ⟨h.os,h.tape,h.output,h.size,λk o ho hn=>by
  by_cases e:k=b
  .subst e
   rw[hb]at ho;cases ho
   exact absurd (agl.2 rfl) (hn _ _ _ rfl)
  .exact aI h ho e⟩
structure Hs(W:World)(e:TypeId)(b c:Nat)(P:List Value)(k:Nat)(O:List Value):Prop where
 h:∃cs:Array Value,W.heap[b]?=some (.cells cs e (0,0))/\cs.size=c/\(∀(i:Nat) (v:Value),P[i]?=some v->cs[i]?=some v)/\(∀(i:Nat) (v:Value),k<=i->O[i]?=some v->cs[i]?=some v)
theorem Hs.weak{W:World}{e:TypeId}{b c k k2:Nat}{P O:List Value}(h:Hs W e b c P k O)(hk:k<=k2):Hs W e b c P k2 O:=by
 obtain⟨cs,h1,h2,h3,h4⟩:=h.h
 exact⟨cs,h1,h2,h3,λi v hi=>h4 i v (af9 hk hi)⟩
theorem Hs.fin{W:World}{e:TypeId}{b c k k2:Nat}{P O:List Value}(h:Hs W e b c P k O):Hs W e b c P k2 []:=by
 obtain⟨cs,h1,h2,h3,h4⟩:=h.h
 exact⟨cs,h1,h2,h3,λi v hi e=>by simp at e⟩
theorem Hs.begin{W:World}{e:TypeId}{b c k:Nat}{P O:List Value}(h:Hs W e b c P k O):Hs W e b c [] 0 P:=by
 obtain⟨cs,h1,h2,h3,h4⟩:=h.h
 exact⟨cs,h1,h2,λi v e=>by simp at e,λi v _ e=>h3 i v e⟩
theorem Hs.kept{A C:World}{e:TypeId}{b c k:Nat}{P O:List Value}(h:Hs A e b c P k O)(hk:∀cs,A.heap[b]?=some (.cells cs e (0,0))->C.heap[b]?=some (.cells cs e (0,0))):Hs C e b c P k O:=by
 obtain⟨cs,h1,h2,h3,h4⟩:=h.h
 exact⟨cs,hk cs h1,h2,h3,h4⟩
theorem Hs.below{A C:World}{e:TypeId}{b c k:Nat}{P O:List Value}(h:Hs A e b c P k O)(hb:Below A.heap.size A C):Hs C e b c P k O:=h.kept λ_ e=>au hb e
theorem Hs.other{A C:World}{e:TypeId}{b b2 c k:Nat}{P O:List Value}(h:Hs A e b c P k O)(hg:A.grownBy C (some b2))(hne:b≠b2):Hs C e b c P k O:=h.kept λ_ e=>aI hg e hne
theorem Hs.ne{W:World}{e e2:TypeId}{b b2 c c2 k k2:Nat}{P O P2 O2:List Value}(h:Hs W e b c P k O)(h2:Hs W e2 b2 c2 P2 k2 O2)(hne:e≠e2):b≠b2:=by
 obtain⟨cs,h1,-⟩:=h.h
 obtain⟨cs2,q1,-⟩:=h2.h
 rintro rfl
 rw[h1]at q1;injection q1 with q1;injection q1 with _ q1 _;exact hne q1
theorem Hs.Dv{W:World}{e e2:TypeId}{b b2 c k:Nat}{P O:List Value}{cs2:Array Value}{fz:Nat×Nat}(h:Hs W e b c P k O)(q1:W.heap[b2]?=some (.cells cs2 e2 fz))(hne:e≠e2):b≠b2:=by
 obtain⟨cs,h1,-⟩:=h.h
 rintro rfl
 rw[h1]at q1;injection q1 with q1;injection q1 with _ q1 _;exact hne q1
theorem Hs.Vs{A C:World}{e:TypeId}{b c k:Nat}{P O:List Value}(h:Hs A e b c P k O)(hg:A.grownBy C (some b)):bS [e] A C:=by
 obtain⟨cs,h1,-⟩:=h.h
 exact jJ hg h1
theorem Hs.old{W:World}{e:TypeId}{b c k:Nat}{P O:List Value}(h:Hs W e b c P k O){i:Nat}{v:Value}(hi:k<=i)(hv:O[i]?=some v):W.cell? ⟨b,i,none⟩=some v:=by
 obtain⟨cs,h1,h2,h3,h4⟩:=h.h
 have:=h4 i v hi hv
 simp only[World.cell?,h1]
 simpa using this
theorem Hs.new{W:World}{e:TypeId}{b c k:Nat}{P O:List Value}(h:Hs W e b c P k O){i:Nat}{v:Value}(hv:P[i]?=some v):W.cell? ⟨b,i,none⟩=some v:=by
 obtain⟨cs,h1,h2,h3,h4⟩:=h.h
 have:=h3 i v hv
 simp only[World.cell?,h1]
 simpa using this
theorem Hs.le{W:World}{e:TypeId}{b c k:Nat}{P O:List Value}(h:Hs W e b c P k O):P.length<=c:=by
 obtain⟨cs,h1,h2,h3,h4⟩:=h.h
 rcases agP P.length with q|q
 .omega
 .have:=h3 (P.length-1) (P[P.length-1]'(by omega)) (agt _)
  have:=(aga.1 this).1
  omega
theorem Hs.app{P:Program}{t e:TypeId}{i:TypeInfo}(hu:P.underlying t=some (.slice e))(hi:P.info? e=some i)(hsz:i.size=1)(ty:TypeId){w:World}{b c k:Nat}{L O:List Value}(h:Hs w e b c L k O)(a:Addr)(m c2:Nat)(news:List Value)(hl:news.length=m)
    (hnews:∀j u,news[j]?=some u->w.cell? (a.add j)=some u) (h1:∀u∈news,u.oneCell'=true) {k2:Nat} (hk:L.length+m<=k2) (hkk:k<=k2) (hc:L.length+m<=c):
    ∃w',(Builtin.append_ #[t,t] ty #[.slice (some ⟨b,0,none⟩) L.length c,.slice (some a) m c2]).run P w=.ok (.slice (some ⟨b,0,none⟩) (L.length+m) c) w'/\Hs w' e b c (L++news) k2 O/\w.grownBy w' (some b):=by
 obtain⟨cs,q1,q2,q3,q4⟩:=h.h
 have hr:=run_append_room (P:=P) w t ty e i hu hi b L.length c cs q1 a m c2 news (by rw[hl,hsz,ag3]) hnews h1 hc (by rw[hsz,hl,q2];omega)
 refine⟨_,hr,⟨_,setRow_heap w b cs _ e _ q1,?_,?_,?_⟩,⟨rfl,rfl,rfl,by simp,λk _ hk=>setRow_other w b k _ (λe=>hk (by simp[e]))⟩⟩
 .simp only[ajA,af8,agB,agp,ah2,hsz,ag3]
  omega
 .intro j v hj
  simp only[hsz,ag3,agT]
  have hlt:(cs.toList.take L.length).length=L.length:=by
   have hcl:cs.toList.length=c:=by rw[<-q2];exact ah2
   rw[agB];omega
  by_cases hjl:j<L.length
  .rw[agV hjl]at hj
   rw[agf,agV (by omega),ahT,af5 hjl]
   have:=q3 j v hj
   simpa using this
  .rw[agN (by omega)]at hj
   have hjm:=(agA.1 hj).1
   rw[agf,agN (by omega),hlt,agV hjm]
   exact hj
 .intro j v hj hv
  simp only[hsz,ag3,agT]
  have hlt:(cs.toList.take L.length).length=L.length:=by
   have hcl:cs.toList.length=c:=by rw[<-q2];exact ah2
   rw[agB];omega
  rw[agN (by rw[af8];omega),ahL,af8,hlt,hl,show L.length+m+(j-(L.length+m))=j by omega]
  have:=q4 j v (by omega) hv
  simpa using this
theorem yT{P:Program}{ops:Array Oper}{rest:List Oper}{o:Oper}{a:Act}{Q:Exit->Act->World->Prop}{t e:TypeId}{bytes:Nat}(hE:Elem P t e 1 bytes)(hgd:o.guard=none)(s x:Operand)(ho:o.op=.call { callee:=.builtin .append,args:=#[s,x],argTypes:=#[t,t] })
    {w0:World} {b c k n:Nat} {L O:List Value} (hs:a.eval s=.slice (some ⟨b,0,none⟩) n c) (hn:L.length=n) (h:Hs w0 e b c L k O) {c2:Nat} (v:Value) (hx:a.eval x=.slice (some ⟨w0.heap.size,0,none⟩) 1 c2) (h1:v.oneCell'=true) {k2:Nat} (hk:n+1<=k2) (hkk:k<=k2) (hc:n+1<=c)
    (hK:∀w',Hs w' e b c (L++[v]) k2 O->w0.grownBy w' (some b)->wpList P ops Q rest (a.put o.dst (.slice (some ⟨b,0,none⟩) ((n:Nat)+1) c)) w'):wpList P ops Q (o::rest) a (w0.alloc (.cells #[v] e)):=by
 subst hn
 obtain⟨hu,i,z,hi,hz,hsz,-⟩:=hE
 have hnew:(w0.alloc (.cells #[v] e)).heap[w0.heap.size]?=some (.cells #[v] e):=by show(w0.heap.push _)[w0.heap.size]?=_;simp
 obtain⟨w',r1,r2,r3⟩:=(h.below ((af6 _ w0).alloc (af7 _) (.cells #[v] e))).app hu hi hsz o.type ⟨w0.heap.size,0,none⟩ 1 c2 [v] rfl (λj u hu=>by
  have e1:(⟨w0.heap.size,0,none⟩:Addr).add j=⟨w0.heap.size,j,none⟩:=by unfold Addr.add;split<;>simp_all
  rw[e1]
  simp only[World.cell?,hnew]
  simpa using hu) (λu hu=>by rw[agl.1 hu];exact h1) hk hkk hc
 exact uO hgd s x ho hs hx r1 (hK w' r2 (aM (ahG w0 _ _) r3))
theorem EA:Elem Tryz.prog 133 88 1 8:=gP Tryz.underlying133 (z:=.int .u64 0) (by kernel_rfl) rfl (by decide) (by decide)
theorem gV.ot{n0 B most g:Nat}{F:List Sy}{E:List En}{A C:World}{b:Nat}{cs:Array Value}{t:TypeId}{fz:Nat×Nat}(h:gV n0 B most g F E A)(hg:A.grownBy C (some b))(hb:A.heap[b]?=some (.cells cs t fz))(ht:t∉Du)(hn:n0<=b):gV n0 B most g F E C:=by
 have ho:=jJ hg hb
 have hlo:=bL hg hn h.lt
 simp only[Du,agm,not_or]at ht
 exact⟨h.st.OG ho (by simpa using λe=>ht.1 e.symm) (by simpa using λe=>ht.2.1 e.symm),h.wf,h.kt.Vs ho hlo (by simpa using λe=>ht.2.2.1 e.symm) (by simpa using λe=>ht.2.2.2.1 e.symm),h.sub,h.len,h.most,h.txt⟩
theorem Kp.ot{B:Nat}{X:Nat->Prop}{A C:World}{b:Nat}{cs:Array Value}{t:TypeId}{fz:Nat×Nat}(hg:A.grownBy C (some b))(hb:A.heap[b]?=some (.cells cs t fz))(ht:t∉Du)(hX:X b):Kp B X A C:=
 ⟨λt' _ k hk cs' ZN e=>aI hg e (λq=>hk (by rw[q];exact hX)),λv ⟨cs',ZN,e1,e2⟩=>⟨cs',ZN,aI hg e1 (λq=>by
  rw[q,hb]at e1
  injection e1 with e1;injection e1 with _ e1 _
  exact ht (by rw[e1];decide)),e2⟩,λk es c e _=>aI hg e (λq=>by rw[q,hb]at e;cases e)⟩
theorem Hs.kp{B:Nat}{X:Nat->Prop}{A C:World}{e:TypeId}{b c k:Nat}{P O:List Value}(h:Hs A e b c P k O)(hk:Kp B X A C)(he:e∉Du)(hX:¬X b):Hs C e b c P k O:=h.kept λcs e=>hk.cells _ he _ hX _ _ e
def jM(W:World)(b:Nat)(v u:Value):Prop:=W.heap[b]?=some (.cells #[v,u] 237 (0,0))
theorem jM.cells{W:World}{b:Nat}{v u:Value}(h:jM W b v u):W.cell? ⟨b,0,none⟩=some v/\W.cell? ⟨b,1,none⟩=some u/\(∀i,W.frozen? ⟨b,i,none⟩=false):=by
 unfold jM at h
 simp[World.cell?,World.frozen?,h]
theorem jM.kp{B:Nat}{X:Nat->Prop}{A C:World}{b:Nat}{v u:Value}(h:jM A b v u)(hk:Kp B X A C)(hX:¬X b):jM C b v u:=hk.cells _ (by decide) _ hX _ _ h
theorem jM.set0{W:World}{b:Nat}{v u:Value}(h:jM W b v u)(x:Value):jM (W.setCell ⟨b,0,none⟩ x) b x u:=by
 unfold jM at h⊢
 exact aC _ h
theorem jM.set1{W:World}{b:Nat}{v u:Value}(h:jM W b v u)(x:Value):jM (W.setCell ⟨b,1,none⟩ x) b v x:=by
 unfold jM at h⊢
 exact aC _ h
def iW(W:World)(p B g:Nat):Prop:=W.heap[p]?=some (.cells #[.pointer (some ⟨B,0,none⟩),.pointer (some ⟨g,0,none⟩)] 129 (0,0))
theorem iW.cells{W:World}{p B g:Nat}(h:iW W p B g):W.cell? ⟨p,0,none⟩=some (.pointer (some ⟨B,0,none⟩))/\W.cell? ⟨p,1,none⟩=some (.pointer (some ⟨g,0,none⟩)):=by
 unfold iW at h
 simp[World.cell?,h]
theorem iW.kp{B':Nat}{X:Nat->Prop}{A C:World}{p B g:Nat}(h:iW A p B g)(hk:Kp B' X A C)(hX:¬X p):iW C p B g:=hk.cells _ (by decide) _ hX _ _ h
abbrev vI(i:Nat):Value:=.int .i64 (i:Nat)
abbrev vK(i:Nat):Value:=.int .u64 (i:Nat)
def ac6(n0 B most g:Nat)(F:List Sy)(E:List En)(b1 b2 b6 c k m:Nat)(L1 O1 L2 O2:List Value)(W w':World):Prop:=
 gV n0 B most g F E w'/\Below n0 W w'/\Kp B (λq=>q=b1\/q=b2\/q=b6) W w'/\jM w' b6 (.slice (some ⟨b1,0,none⟩) (m+1) c) (.slice (some ⟨b2,0,none⟩) (m+1) c)/\Hs w' 27 b1 c L1 k O1/\Hs w' 88 b2 c L2 k O2
theorem R4{n0 B most g:Nat}{F:List Sy}{E:List En}{W:World}(h:gV n0 B most g F E W){p:Nat}(hp:iW W p B g){b1 b2 b6 c k m:Nat}{L1 O1 L2 O2:List Value}(hq:jM W b6 (.slice (some ⟨b1,0,none⟩) m c) (.slice (some ⟨b2,0,none⟩) m c))
    (H1:Hs W 27 b1 c L1 k O1) (H2:Hs W 88 b2 c L2 k O2) (l1:L1.length=m) (l2:L2.length=m) (hk:m+1<=k) (hc:m+1<=c) {id:Nat} (h0:0<id) (hid:id<=E.length) (n1:n0<=b1) (n2:n0<=b2) (n6:n0<=b6):
    Calls Tryz.prog 169 #[.pointer (some ⟨p,0,none⟩),.pointer (some ⟨b6,0,none⟩),.int .i64 id] W λe w'=>e=.returned .nilIface/\ac6 n0 B most g F E b1 b2 b6 c k m (L1++[vI id]) O1 (L2++[vK (key (sym E id))]) O2 W w':=by
 obtain⟨p0,p1⟩:=hp.cells
 have HKEY:=ak (RY h (λ_=>False) h0 hid)
 obtain⟨ky,hky⟩:=ay (key (sym E id))
 rw[hky]at HKEY⊢
 have Ch:=H1.ne H2 (by decide)
 have hne16:=H1.Dv hq (by decide)
 have XC:=H2.Dv hq (by decide)
 have HQ:=ak hq;have Ur:=ak H1;have P_:=ak H2
 have HL:=ak (And.intro l1 (And.intro l2 (And.intro hk hc)))
 have HN:=ak (And.intro n1 (And.intro n2 n6))
 have xu:=ak (And.intro Ch (And.intro hne16 XC))
 have iI:=ak h.lt
 clear h hp hq H1 H2 l1 l2 hk hc h0 hid n1 n2 n6 hky Ch hne16 XC
 go_enter Tryz.func169,Tryz.ntmps169
 go_wp2_with fail
 refine HKEY.o.mono ?_
 rintro e w1 ⟨rfl,hP1,hB1,hK1⟩
 clear p0 p1
 have q1:=HQ.o.kp hK1 (λq=>q)
 have t1:=Ur.o.kp hK1 (by decide) (λq=>q)
 have t2:=P_.o.kp hK1 (by decide) (λq=>q)
 have wN:aA (Kp B (λq=>q=b1\/q=b2\/q=b6) W w1):=ak (hK1.mono (λ_ _ q=>q.elim))
 have HP1:=ak hP1;have HB1:=ak hB1;have HQ1:=ak q1;have HT1:=ak t1;have HT2:=ak t2
 obtain⟨c0,c1,f6⟩:=q1.cells
 have f0:=f6 0;have f1:=f6 1
 clear hP1 hB1 hK1 q1 t1 t2 f6
 go_wp2_with (first
  | (at_builtin;refine yT elemId rfl _ _ rfl rfl HL.o.1 HT1.o (vI id) rfl rfl (k2:=k) HL.o.2.2.1 (af7 _) HL.o.2.2.2 ?_))
 intro w2 t1 g2
 have kb:bS [27] w1 w2:=HT1.o.Vs g2
 obtain⟨cs1,hcs1,-⟩:=HT1.o.h
 have hP2:=HP1.o.ot g2 hcs1 (by decide) HN.o.1
 have hB2:=HB1.o.trans (bL g2 HN.o.1 HP1.o.lt)
 have hK2:=wN.o.trans (Kp.ot g2 hcs1 (by decide) (.inl rfl))
 have t2:=HT2.o.other g2 (λe=>xu.o.1 e.symm)
 have q2:jM w2 b6 (.slice (some ⟨b1,0,none⟩) m c) (.slice (some ⟨b2,0,none⟩) m c):=aI g2 HQ1.o (λe=>xu.o.2.1 e.symm)
 clear c0 c1 f0 f1 g2 kb hcs1 cs1
 have Oz:=ak hP2;have HB2:=ak hB2;have nY:=ak hK2;have j_:=ak t1;have HS2:=ak t2;have DJ:=ak q2
 obtain⟨c0,c1,f6⟩:=q2.cells
 have f0:=f6 0;have f1:=f6 1
 clear hP2 hB2 hK2 t1 t2 q2 f6
 obtain⟨w3,hw3⟩:=ay (w2.setCell ⟨b6,0,none⟩ (.slice (some ⟨b1,0,none⟩) (m+1) c))
 have g3:=aK w2 ⟨b6,0,none⟩ (.slice (some ⟨b1,0,none⟩) (m+1) c)
 have q3:=DJ.o.set0 (.slice (some ⟨b1,0,none⟩) (m+1) c)
 rw[hw3]at g3 q3
 have hP3:=Oz.o.ot g3 DJ.o (by decide) HN.o.2.2
 have hB3:=HB2.o.trans (bL g3 HN.o.2.2 Oz.o.lt)
 have hK3:=nY.o.trans (Kp.ot g3 DJ.o (by decide) (.inr (.inr rfl)))
 have HS1':=ak (j_.o.other g3 xu.o.2.1);have ac7:=ak (HS2.o.other g3 xu.o.2.2)
 have HP3:=ak hP3;have HB3:=ak hB3;have qH:=ak hK3;have HQ3:=ak q3
 clear hP3 hB3 hK3 g3
 obtain⟨d0,d1,f6⟩:=q3.cells
 have f3:=f6 0;have f4:=f6 1
 clear q3 f6 c1 f1
 go_wp2_with (first
  | (at_builtin;refine yT EA rfl _ _ rfl rfl HL.o.2.1 ac7.o (vK ky) rfl rfl (k2:=k) HL.o.2.2.1 (af7 _) HL.o.2.2.2 ?_))
 intro w4 t2 g2
 obtain⟨cs2,hcs2,-⟩:=ac7.o.h
 have hP4:=HP3.o.ot g2 hcs2 (by decide) HN.o.2.1
 have hB4:=HB3.o.trans (bL g2 HN.o.2.1 HP3.o.lt)
 have hK4:=qH.o.trans (Kp.ot g2 hcs2 (by decide) (.inr (.inl rfl)))
 have lU:=ak (HS1'.o.other g2 xu.o.1);have qG:=ak t2
 have q4:jM w4 b6 (.slice (some ⟨b1,0,none⟩) (m+1) c) (.slice (some ⟨b2,0,none⟩) m c):=aI g2 HQ3.o (λe=>xu.o.2.2 e.symm)
 clear d0 d1 f3 f4 f0 hw3 c0 g2 hcs2 cs2 t2
 have HP4:=ak hP4;have cB:=ak hB4;have uF:=ak hK4;have HQ4:=ak q4
 obtain⟨c0,c1,f6⟩:=q4.cells
 have f0:=f6 0;have f1:=f6 1
 clear hP4 hB4 hK4 q4 f6
 obtain⟨w5,eH⟩:=ay (w4.setCell ⟨b6,1,none⟩ (.slice (some ⟨b2,0,none⟩) (m+1) c))
 have g5:=aK w4 ⟨b6,1,none⟩ (.slice (some ⟨b2,0,none⟩) (m+1) c)
 have q5:=HQ4.o.set1 (.slice (some ⟨b2,0,none⟩) (m+1) c)
 rw[eH]at g5 q5
 have HR:aA (ac6 n0 B most g F E b1 b2 b6 c k m (L1++[vI id]) O1 (L2++[vK ky]) O2 W w5):=ak ⟨HP4.o.ot g5 HQ4.o (by decide) HN.o.2.2,cB.o.trans (bL g5 HN.o.2.2 HP4.o.lt),uF.o.trans (Kp.ot g5 HQ4.o (by decide) (.inr (.inr rfl))),q5,lU.o.other g5 xu.o.2.1,qG.o.other g5 xu.o.2.2⟩
 clear g5 q5
 go_wp2_with fail
 go_ret
 exact⟨rfl,HR.o⟩
end M
end
namespace M
def dZ(G:List Gr):List Nat:=G.flatMap λq=>List.replicate q.t q.x
theorem iY(A B:List Gr):dZ (A++B)=dZ A++dZ B:=by unfold dZ;rw[ag_]
theorem EC(l:List Nat):dZ (jf l)=l:=by
 rcases agR l with rfl|⟨l',x,rfl⟩
 .rfl
 .rw[agO]
  have ih:=EC l'
  rw[kS]
  unfold DU
  cases hq:(jf l').getLast? with
  |none=>
   have h0:=aji.1 hq
   rw[h0]at ih
   rw[<-ih];rfl
  |some q=>
   obtain⟨M,hM⟩:=ajQ.1 hq
   by_cases h:q.x=x
   .simp only[h,ahv]
    rw[hM,iY]at ih
    rw[hM,aic,iY,<-ih]
    show dZ M++(List.replicate (q.t+1) x++[])=dZ M++(List.replicate q.t q.x++[])++[x]
    rw[agi,agi,agf,h,ahR]
   .simp only[h,ahu]
    rw[iY,ih];rfl
termination_by l.length
decreasing_by simp_all
theorem Nj(l:List Nat):∀A q r B,jf l=A++q::r::B->q.x≠r.x:=by
 rcases agR l with rfl|⟨l',x,rfl⟩
 .intro A q r B h
  have h':([]:List Gr)=A++q::r::B:=h
  simp at h'
 .rw[agO]
  have ih:=Nj l'
  rw[kS]
  unfold DU
  intro A q r B h
  cases hq:(jf l').getLast? with
  |none=>
   rw[hq]at h
   have:=agC List.length h
   simp only[af8,agc,ahX]at this
   omega
  |some p=>
   obtain⟨M,hM⟩:=ajQ.1 hq
   rw[hq]at h
   by_cases hx:p.x=x
   .simp only[hx,ahv]at h
    rw[hM,aic]at h
    rcases agR B with rfl|⟨B',z,rfl⟩
    .have e:M++[⟨x,p.t+1⟩]=(A++[q])++[r]:=by rw[h];simp
     obtain⟨e1,e2⟩:=ai3 e rfl
     have e3:r.x=x:=by
      have:=(aiy e2).1
      rw[<-this]
     have:=ih A q p [] (by rw[hM,e1];simp)
     rw[e3,<-hx];exact this
    .have e:M++[⟨x,p.t+1⟩]=(A++q::r::B')++[z]:=by rw[h];simp
     obtain⟨e1,-⟩:=ai3 e rfl
     exact ih A q r (B'++[p]) (by rw[hM,e1];simp)
   .simp only[hx,ahu]at h
    rcases agR B with rfl|⟨B',z,rfl⟩
    .have e:jf l'++[⟨x,1⟩]=(A++[q])++[r]:=by rw[h];simp
     obtain⟨e1,e2⟩:=ai3 e rfl
     have e3:r.x=x:=by
      have:=(aiy e2).1
      rw[<-this]
     have e4:p=q:=by
      rw[hM]at e1
      have:=(ai3 e1 rfl).2
      exact(aiy this).1
     rw[e3,<-e4];exact hx
    .have e:jf l'++[⟨x,1⟩]=(A++q::r::B')++[z]:=by rw[h];simp
     obtain⟨e1,-⟩:=ai3 e rfl
     exact ih A q r B' e1
termination_by l.length
decreasing_by simp_all
def grS(s:Nat->Sy)(q:Gr):Sy:=if q.t>1 then .pw (s q.x) q.t else s q.x
theorem ED{n:Nat}(hn:n%2=1)(s:Nat->Sy):∀(G:List Gr),(∀q∈G,1<=q.t)->(∀q∈G,∀r∈G,s q.x=s r.x->q.x=r.x)->(∀A q r B,G=A++q::r::B->q.x≠r.x)->
    step n ((dZ G).map s)=G.map (grS s)
 | [],_,_,_=>rfl
 |q::G,h1,hi,hne=>by
  have ih:=ED hn s G (λr hr=>h1 r (by simp[hr])) (λa ha b hb=>hi a (by simp[ha]) b (by simp[hb])) (λA a b B e=>hne (q::A) a b B (by rw[e];rfl))
  obtain⟨k,hk⟩:∃k,q.t=k+1:=⟨q.t-1,by have:=h1 q (by simp);omega⟩
  have e:(dZ (q::G)).map s=s q.x::(List.replicate k (s q.x)++(dZ G).map s):=by
   show((List.replicate q.t q.x)++dZ G).map s=_
   rw[ag2,aij,hk,ag7];rfl
  have h0:cnt (s q.x) ((dZ G).map s)=0:=by
   cases G with
   |nil=>rfl
   |cons r G=>
    obtain⟨j,hj⟩:∃j,r.t=j+1:=⟨r.t-1,by have:=h1 r (by simp);omega⟩
    have e:(dZ (r::G)).map s=s r.x::(List.replicate j (s r.x)++(dZ G).map s):=by
     show((List.replicate r.t r.x)++dZ G).map s=_
     rw[ag2,aij,hj,ag7];rfl
    rw[e]
    unfold cnt
    rw[af4 (λe=>hne [] q r G rfl (hi q (by simp) r (by simp) e.symm))]
  have hb:blk n (s q.x) (List.replicate k (s q.x)++(dZ G).map s)=k:=by
   unfold blk
   rw[af5 hn,Mh,h0];rfl
  rw[e,bF,hb,ahj (by simp),ag9 (by simp),agH,ih,ag8]
  congr 1
  unfold node grS
  rw[hk]
  by_cases h:k=0
  .rw[af5 h,af4 (by omega)]
  .rw[af4 h,af5 hn,af5 (by omega)]
theorem Nk{n:Nat}(hn:¬n%2=1):∀(o:Nat) (L:List Sy),tV (fits n) o (L.map key)=[]->step n L=L
 |_,[],_=>rfl
 |_,[x],_=>rG n x
 |o,x::y::t,h=>by
  have h':tV (fits n) o (key x::key y::t.map key)=[]:=h
  rw[qE]at h'
  by_cases hf:fits n (key x) (key y)=true
  .rw[af5 hf]at h';cases h'
  .rw[af4 hf]at h'
   have hb:blk n x (y::t)=0:=by unfold blk;rw[af4 hn];exact af4 hf
   rw[bF,hb,jG,agj,Nk hn (o+1) (y::t) h']
theorem Ja{n:Nat}(hn:¬n%2=1):∀(o:Nat) (L:List Sy) {i:Nat} {J:List Nat},tV (fits n) o (L.map key)=i::J->
    o<=i/\i+1<o+L.length/\J=tV (fits n) (i+2) ((L.drop (i+2-o)).map key)/\∃x y,L.drop (i-o)=x::y::L.drop (i+2-o)/\step n L=L.take (i-o)++ .pr x y::step n (L.drop (i+2-o))
 |_,[],i,J,h=>by cases h
 |_,[x],i,J,h=>by cases h
 |o,x::y::t,i,J,h=>by
  have h':tV (fits n) o (key x::key y::t.map key)=i::J:=h
  rw[qE]at h'
  by_cases hf:fits n (key x) (key y)=true
  .rw[af5 hf]at h'
   obtain⟨rfl,rfl⟩:=aiy h'
   have hb:blk n x (y::t)=1:=by unfold blk;rw[af4 hn];exact af5 hf
   have e2:o+2-o=2:=by omega
   rw[e2,aiz]
   refine⟨af7 _,by simp only[agc];omega,rfl,x,y,rfl,?_⟩
   rw[bF,hb]
   show node n x (y::t) 1::_=_
   unfold node
   rw[af4 (by omega),af4 hn];rfl
  .rw[af4 hf]at h'
   have hb:blk n x (y::t)=0:=by unfold blk;rw[af4 hn];exact af4 hf
   obtain⟨a,b,c,u,v,d,e⟩:=Ja hn (o+1) (y::t) h'
   rw[agc]at b
   have e1:i-o=i-(o+1)+1:=by omega
   have e2:i+2-o=i+2-(o+1)+1:=by omega
   refine⟨by omega,by simp only[agc];omega,by rw[e2,agr];exact c,u,v,by rw[e1,e2,agr,agr];exact d,?_⟩
   rw[bF,hb,jG,agj,e,e1,e2,aiH,agr];rfl
def iO:Sy->List Sy
 | .lt b=>[.lt b]
 | .pr l r=> .pr l r::(iO l++iO r)
 | .pw x k=> .pw x k::iO x
theorem pJ(y:Sy):y∈iO y:=by cases y<;>simp[iO]
theorem xD:∀{y:Sy},jF y->(iO y).length+1<=2*(aV y).length
 | .lt b,_=>by show 1+1<=2*1;omega
 | .pr l r,h=>by
  have h1:=xD h.1
  have h2:=xD h.2.1
  show((iO l++iO r).length+1)+1<=2*(aV l++aV r).length
  rw[af8,af8];omega
 | .pw x k,h=>by
  have h1:=xD h.1
  have h2:=h.2.2
  show((iO x).length+1)+1<=2*((List.replicate k (aV x)).flatten).length
  rw[aiF,aij,aiD]
  have:=agY (aV x).length h2
  omega
theorem rY:∀{y:Sy},jF y->∀z∈iO y,jF z/\(aV z).length<=(aV y).length
 | .lt b,h,z,hz=>by
  have:z=.lt b:=by simpa[iO]using hz
  subst this;exact⟨h,af7 _⟩
 | .pr l r,h,z,hz=>by
  have hz':z=.pr l r\/z∈iO l\/z∈iO r:=by simpa[iO]using hz
  rcases hz' with rfl|q|q
  .exact⟨h,af7 _⟩
  .obtain⟨a,b⟩:=rY h.1 z q
   exact⟨a,by show _<=(aV l++aV r).length;rw[af8];omega⟩
  .obtain⟨a,b⟩:=rY h.2.1 z q
   exact⟨a,by show _<=(aV l++aV r).length;rw[af8];omega⟩
 | .pw x k,h,z,hz=>by
  have hz':z=.pw x k\/z∈iO x:=by simpa[iO]using hz
  rcases hz' with rfl|q
  .exact⟨h,af7 _⟩
  .obtain⟨a,b⟩:=rY h.1 z q
   refine⟨a,?_⟩
   show _<=((List.replicate k (aV x)).flatten).length
   rw[aiF,aij,aiD]
   have:=agY (aV x).length (show 1<=k by have:=h.2.2;omega)
   omega
theorem AQ(n:Nat):∀{y z:Sy},z∈ex n y->z∈iO y
 | .lt b,z,h=>by simpa[ex,iO]using h
 | .pr l r,z,h=>by
  unfold ex at h
  split at h
  .rw[agl.1 h];exact pJ _
  .rcases ags.1 h with h|h
   .simp[iO,AQ n h]
   .simp[iO,AQ n h]
 | .pw x k,z,h=>by
  unfold ex at h
  split at h
  .rw[agl.1 h];exact pJ _
  .obtain⟨l,hl,h⟩:=akb.1 h
   rw[(aiI.1 hl).2]at h
   simp[iO,AQ n h]
theorem Ld{t:List Nat}(ht:t≠[]){n:Nat}{z:Sy}(h:z∈S n t):z∈iO (sig t):=AQ n (by rw[<-BK ht n];exact h)
end M
section
open Go.RowKit Go.Lib
namespace M
def xx(E:List En)(T:List Sy):List Value:=T.map λy=>vI (num E y)
def yU(T:List Sy):List Value:=T.map λy=>vK (key y)
theorem iX(E:List En)(T:List Sy):(xx E T).length=T.length:=agM ..
theorem mD(T:List Sy):(yU T).length=T.length:=agM ..
theorem kP(E:List En)(T U:List Sy):xx E (T++U)=xx E T++xx E U:=ag2 ..
theorem kQ(T U:List Sy):yU (T++U)=yU T++yU U:=ag2 ..
theorem tT{A B:List En}(h:Ext A B){T:List Sy}(hT:∀y∈T,y∈syms A):xx B T=xx A T:=aiG λy hy=>by
 show vI (num B y)=vI (num A y)
 rw[eZ h (hT y hy)]
theorem Ng{E:List En}{T:List Sy}{i:Nat}{y:Sy}(h:T[i]?=some y):(xx E T)[i]?=some (vI (num E y)):=by unfold xx;rw[ahg,h];rfl
theorem Vx{T:List Sy}{i:Nat}{y:Sy}(h:T[i]?=some y):(yU T)[i]?=some (vK (key y)):=by unfold yU;rw[ahg,h];rfl
structure Row(W:World)(E:List En)(b1 b2 c:Nat)(T:List Sy):Prop where
 mem:∀y∈T,y∈syms E
 ids:Hs W 27 b1 c (xx E T) 0 []
 keys:Hs W 88 b2 c (yU T) 0 []
structure Gw(n0 B most g:Nat)(F:List Sy)(X:Nat->Prop)(E E':List En)(W w':World):Prop where
 ext:Ext E E'
 st:gV n0 B most g F E' w'
 below:Below n0 W w'
 kp:Kp B X W w'
theorem Gw.refl{n0 B most g:Nat}{F:List Sy}{X:Nat->Prop}{E:List En}{W:World}(h:gV n0 B most g F E W):Gw n0 B most g F X E E W W:=⟨Ext.refl _,h,af6 _ _,.of (af6 _ _)⟩
theorem Gw.trans{n0 B most g:Nat}{F:List Sy}{X:Nat->Prop}{E E2 E3:List En}{A C D:World}(h:Gw n0 B most g F X E E2 A C)(k:Gw n0 B most g F X E2 E3 C D):Gw n0 B most g F X E E3 A D:=
 ⟨h.ext.trans k.ext,k.st,h.below.trans k.below,h.kp.trans k.kp⟩
theorem Gw.mono{n0 B most g:Nat}{F:List Sy}{X Y:Nat->Prop}{E E2:List En}{A C:World}(h:Gw n0 B most g F X E E2 A C)(hx:∀k,k<A.heap.size->X k->Y k):Gw n0 B most g F Y E E2 A C:=⟨h.ext,h.st,h.below,h.kp.mono hx⟩
theorem Gw.free{n0 B most g:Nat}{F:List Sy}{Y:Nat->Prop}{E E2:List En}{A C:World}(h:Gw n0 B most g F (λ_=>False) E E2 A C):Gw n0 B most g F Y E E2 A C:=h.mono λ_ _ q=>q.elim
theorem Gw.of{n0 B most g:Nat}{F:List Sy}{X:Nat->Prop}{E:List En}{A C:World}(h:gV n0 B most g F E A)(hb:Below A.heap.size A C):Gw n0 B most g F X E E A C:=⟨Ext.refl _,h.below hb,hb.mono h.lt,.of hb⟩
theorem Gw.put{n0 B most g:Nat}{F:List Sy}{X:Nat->Prop}{E:List En}{A C:World}{b:Nat}{cs:Array Value}{t:TypeId}{fz:Nat×Nat}(h:gV n0 B most g F E A)(hg:A.grownBy C (some b))(hb:A.heap[b]?=some (.cells cs t fz))(ht:t∉Du)(hn:n0<=b)(hX:X b):Gw n0 B most g F X E E A C:=
 ⟨Ext.refl _,h.ot hg hb ht hn,bL hg hn h.lt,Kp.ot hg hb ht hX⟩
theorem Gw.app{n0 B most g:Nat}{F:List Sy}{X:Nat->Prop}{E:List En}{A C:World}{e:TypeId}{b c k:Nat}{L O:List Value}(h:gV n0 B most g F E A)(hg:A.grownBy C (some b))(hb:Hs A e b c L k O)(ht:e∉Du)(hn:n0<=b)(hX:X b):Gw n0 B most g F X E E A C:=by
 obtain⟨cs,h1,-⟩:=hb.h
 exact Gw.put h hg h1 ht hn hX
theorem Gw.mem{n0 B most g:Nat}{F:List Sy}{X:Nat->Prop}{E E2:List En}{A C:World}(h:Gw n0 B most g F X E E2 A C){T:List Sy}(hT:∀y∈T,y∈syms E):∀y∈T,y∈syms E2:=λy hy=>h.ext.mem (hT y hy)
theorem gV.num{n0 B most g:Nat}{F:List Sy}{E:List En}{W:World}(h:gV n0 B most g F E W){i:Nat}(h0:0<i)(hi:i<=E.length){y:Sy}(e:sym E i=y):M.num E y=i/\y∈syms E:=by
 rw[<-e]
 exact⟨AJ h.wf.wf h.nd h0 hi,tF h0 hi⟩
theorem ac9{n0 B most g:Nat}{F:List Sy}{E:List En}{W:World}(h:gV n0 B most g F E W){b:Nat}(hb:b<256)(hF:Sy.lt b∈F):
    Calls Tryz.prog 128 #[.pointer (some ⟨B,0,none⟩),.int .u8 b] W λx w'=>∃E',x=.returned (.tuple #[vI (num E' (.lt b)),.nilIface])/\Gw n0 B most g F (λ_=>False) E E' W w'/\ .lt b∈syms E':=by
 refine(ac3 h (λ_=>False) hb hF).mono ?_
 rintro x w' ⟨i,rfl,h0,E',h1,h2,h3,h4,h5,h6⟩
 obtain⟨e,hm⟩:=h2.num h0 h5 h6
 exact⟨E',by rw[e],⟨h1,h2,h3,h4⟩,hm⟩
theorem XD{n0 B most g:Nat}{F:List Sy}{E:List En}{W:World}(h:gV n0 B most g F E W){x y:Sy}(hx:x∈syms E)(hy:y∈syms E)(hF:Sy.pr x y∈F):
    Calls Tryz.prog 129 #[.pointer (some ⟨B,0,none⟩),vI (num E x),vI (num E y)] W λr w'=>∃E',r=.returned (.tuple #[vI (num E' (.pr x y)),.nilIface])/\Gw n0 B most g F (λ_=>False) E E' W w'/\ .pr x y∈syms E':=by
 obtain⟨x1,x2,x3⟩:=aS hx
 obtain⟨y1,y2,y3⟩:=aS hy
 have hc:=ac4 h (λ_=>False) x1 x2 y1 y2 (by rw[x3,y3];exact hF)
 rw[x3,y3]at hc
 refine hc.mono ?_
 rintro r w' ⟨i,rfl,h0,E',h1,h2,h3,h4,h5,h6⟩
 obtain⟨e,hm⟩:=h2.num h0 h5 h6
 exact⟨E',by rw[e],⟨h1,h2,h3,h4⟩,hm⟩
theorem XE{n0 B most g:Nat}{F:List Sy}{E:List En}{W:World}(h:gV n0 B most g F E W){x:Sy}(hx:x∈syms E){k:Nat}(hk:2<=k)(hF:Sy.pw x k∈F):
    Calls Tryz.prog 101 #[.pointer (some ⟨B,0,none⟩),vI (num E x),.int .i64 k] W λr w'=>∃E',r=.returned (.tuple #[vI (num E' (.pw x k)),.nilIface])/\Gw n0 B most g F (λ_=>False) E E' W w'/\ .pw x k∈syms E':=by
 obtain⟨x1,x2,x3⟩:=aS hx
 have hc:=ac5 h (λ_=>False) x1 x2 hk (by rw[x3];exact hF)
 rw[x3]at hc
 refine hc.mono ?_
 rintro r w' ⟨i,rfl,h0,E',h1,h2,h3,h4,h5,h6⟩
 obtain⟨e,hm⟩:=h2.num h0 h5 h6
 exact⟨E',by rw[e],⟨h1,h2,h3,h4⟩,hm⟩
theorem Ci{n0 B most g:Nat}{F:List Sy}{E:List En}{W:World}(h:gV n0 B most g F E W){x:Sy}(hx:x∈syms E):
    Calls Tryz.prog 171 #[.pointer (some ⟨g,0,none⟩),vI (num E x)] W λr w'=>r=.returned (.tuple #[vK (key x),.nilIface])/\Gw n0 B most g F (λ_=>False) E E W w':=by
 obtain⟨x1,x2,x3⟩:=aS hx
 have hc:=RY h (λ_=>False) x1 x2
 rw[x3]at hc
 refine hc.mono ?_
 rintro r w' ⟨rfl,h2,h3,h4⟩
 exact⟨rfl,⟨Ext.refl _,h2,h3,h4⟩⟩
theorem xA{n0 B most g:Nat}{F:List Sy}{E:List En}{W:World}(h:gV n0 B most g F E W){x:Sy}(hx:x∈syms E)(hok:jF x):
    Calls Tryz.prog 20 #[.pointer (some ⟨g,0,none⟩),vI (num E x)] W λr w'=>r=.returned (.tuple #[vI (aQ x),.nilIface])/\Gw n0 B most g F (λ_=>False) E E W w':=by
 obtain⟨x1,x2,x3⟩:=aS hx
 have hc:=RZ h (λ_=>False) x1 x2 (by rw[x3];exact hok)
 rw[x3]at hc
 refine hc.mono ?_
 rintro r w' ⟨rfl,h2,h3,h4⟩
 exact⟨rfl,⟨Ext.refl _,h2,h3,h4⟩⟩
theorem R6{n0 B most g:Nat}{F:List Sy}{E:List En}{W:World}(h:gV n0 B most g F E W){p:Nat}(hp:iW W p B g){b1 b2 b6 c k m:Nat}{T:List Sy}{O1 O2:List Value}(hq:jM W b6 (.slice (some ⟨b1,0,none⟩) m c) (.slice (some ⟨b2,0,none⟩) m c))
    (H1:Hs W 27 b1 c (xx E T) k O1) (H2:Hs W 88 b2 c (yU T) k O2) (hm:T.length=m) (hk:m+1<=k) (hc:m+1<=c) {y:Sy} (hy:y∈syms E) (n1:n0<=b1) (n2:n0<=b2) (n6:n0<=b6):
    Calls Tryz.prog 169 #[.pointer (some ⟨p,0,none⟩),.pointer (some ⟨b6,0,none⟩),vI (num E y)] W λe w'=>e=.returned .nilIface/\Gw n0 B most g F (λq=>q=b1\/q=b2\/q=b6) E E W w'/\
     jM w' b6 (.slice (some ⟨b1,0,none⟩) (m+1) c) (.slice (some ⟨b2,0,none⟩) (m+1) c)/\Hs w' 27 b1 c (xx E (T++[y])) k O1/\Hs w' 88 b2 c (yU (T++[y])) k O2:=by
 obtain⟨x1,x2,x3⟩:=aS hy
 have hc:=R4 h hp hq H1 H2 (by rw[iX,hm]) (by rw[mD,hm]) hk hc x1 x2 n1 n2 n6
 rw[x3]at hc
 refine hc.mono ?_
 rintro e w' ⟨rfl,h1,h2,h3,h4,h5,h6⟩
 rw[kP,kQ]
 exact⟨rfl,⟨Ext.refl _,h1,h2,h3⟩,h4,h5,h6⟩
end M
end
end Go.Proofs.YtgbhohfabhilgaaGreatDoor
