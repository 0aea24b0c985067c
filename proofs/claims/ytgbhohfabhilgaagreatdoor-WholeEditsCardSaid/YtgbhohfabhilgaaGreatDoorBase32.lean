import Derived.Test.YtgbhohfabhilgaaGreatDoorBase17
import Derived.Test.YtgbhohfabhilgaaGreatDoorBase29
import Derived.Test.YtgbhohfabhilgaaGreatDoorBase31
set_option maxRecDepth 100000
set_option maxHeartbeats 8000000
set_option linter.unusedVariables false
set_option linter.unusedSimpArgs false
namespace Go.Proofs.YtgbhohfabhilgaaGreatDoor
section
open Go.RowKit Go.Lib
namespace M
variable{K:List (Int×Nat)}{E E2:List En}{B c g mb most n0 x:Nat}{X:Nat->Prop}{A C:World}
structure bT(n0:Nat)(W:World)(mb pa kb B g:Nat)(E:List En)(K:List (Int×Nat)):Prop where
 blk:W.heap[mb]?=some (.cells #[ku pa,.map (some kb)] 124 (0,0))
 par:iW W pa B g
 map:IM.MapAt (λs:Nat=>vI s) W kb K
 ok:∀p∈K,∃i:Nat,p.1=(i:Int)/\0<i/\i<=E.length/\sig (txt E i)∈syms E/\p.2=num E (sig (txt E i))
 ne:∃v,Dq B W v/\v≠ .map (some kb)
 lo:n0<=kb/\n0<=mb/\n0<=pa
theorem bT.cells{W:World}{pa kb:Nat}(h:bT n0 W mb pa kb B g E K):W.cell? ⟨mb,0,none⟩=some (ku pa)/\W.cell? ⟨mb,1,none⟩=some (.map (some kb)):=by
 have:=h.blk
 simp[World.cell?,this]
theorem bT.lt{n0:Nat}{W:World}{mb pa kb B g:Nat}{E:List En}{K:List (Int×Nat)}(h:bT n0 W mb pa kb B g E K):mb<W.heap.size/\pa<W.heap.size/\kb<W.heap.size:=by
 have hp:W.heap[pa]?=_:=h.par
 exact⟨(aga.1 h.blk).1,(aga.1 hp).1,h.map.lt⟩
theorem bT.okx(hx:Ext E E2)(h:∀p∈K,∃i:Nat,p.1=(i:Int)/\0<i/\i<=E.length/\sig (txt E i)∈syms E/\p.2=num E (sig (txt E i))):∀p∈K,∃i:Nat,p.1=(i:Int)/\0<i/\i<=E2.length/\sig (txt E2 i)∈syms E2/\p.2=num E2 (sig (txt E2 i)):=λp hp=>by
 obtain⟨i,h1,h2,h3,h4,h5⟩:=h p hp
 refine⟨i,h1,h2,af9 h3 hx.le,?_,?_⟩
 .rw[hx.txt h3];exact hx.mem h4
 .rw[hx.txt h3,eZ hx h4];exact h5
theorem bT.mk'{pa kb:Nat}(h:bT n0 A mb pa kb B g E K)(hx:Ext E E2)(hc:∀t:TypeId,t∉Du->t≠155->∀k,k<A.heap.size->k=mb\/k=pa->∀(cs:Array Value) (fz:Nat×Nat),A.heap[k]?=some (.cells cs t fz)->C.heap[k]?=some (.cells cs t fz))(hm:∀v,Dq B A v->Dq B C v)(ho:∀(k:Nat) es c,A.heap[k]?=some (.map es c)->(∃v,Dq B A v/\v≠ .map (some k))->C.heap[k]?=some (.map es c)):bT n0 C mb pa kb B g E2 K:=by
 obtain⟨l1,l2,-⟩:=h.lt
 refine⟨hc _ (by decide) (by decide) _ l1 (.inl rfl) _ _ h.blk,hc _ (by decide) (by decide) _ l2 (.inr rfl) _ _ h.par,?_,bT.okx hx h.ok,?_,h.lo⟩
 .obtain⟨es,c,h1,h2⟩:=h.map
  exact⟨es,c,ho _ _ _ h1 h.ne,h2⟩
 .obtain⟨v,h1,h2⟩:=h.ne
  exact⟨v,hm v h1,h2⟩
theorem bT.kp{pa kb:Nat}(h:bT n0 A mb pa kb B g E K)(hx:Ext E E2)(hk:Kp B X A C)(hX:∀k,k=mb\/k=pa->¬X k):bT n0 C mb pa kb B g E2 K:=
 h.mk' hx (λt ht _ k _ hl cs fz e=>hk.cells t ht k (hX k hl) cs fz e) hk.map hk.others
theorem bT.kt{n0:Nat}{A C:World}{mb pa kb B g:Nat}{E E2:List En}{K:List (Int×Nat)}(h:bT n0 A mb pa kb B g E K)(hx:Ext E E2)(hk:Kt B A C):bT n0 C mb pa kb B g E2 K:=
 h.kp hx (Kp.kt hk) (λ_ _ q=>q) (X:=λ_=>False)
theorem bT.below{pa kb:Nat}(h:bT n0 A mb pa kb B g E K)(hb:Below A.heap.size A C):bT n0 C mb pa kb B g E K:=h.kt (Ext.refl _) (Kt.of hb)
structure Km(B:Nat)(X:Nat->Prop)(A C:World):Prop where
 cells:∀t:TypeId,t∉Du->∀(k:Nat),¬X k->∀(cs:Array Value) (fz:Nat×Nat),A.heap[k]?=some (.cells cs t fz)->C.heap[k]?=some (.cells cs t fz)
 map:∀v,Dq B A v->Dq B C v
theorem Km.of(h:Kp B X A C):Km B X A C:=⟨h.cells,h.map⟩
theorem Km.trans{D:World}(h:Km B X A C)(k:Km B X C D):Km B X A D:=⟨λt a i b cs fz e=>k.cells t a i b cs fz (h.cells t a i b cs fz e),λv e=>k.map v (h.map v e)⟩
theorem Km.mono{Y:Nat->Prop}(h:Km B X A C)(hx:∀k,k<A.heap.size->X k->Y k):Km B Y A C:=⟨λt a i b cs fz e=>h.cells t a i (λq=>b (hx i (aga.1 e).1 q)) cs fz e,h.map⟩
theorem Km.sl{α:Type}(h:Km B X A C){lo:Nat}{e:TypeId}{size:Nat}{enc:α->List Value}{v:Value}{l:List α}(hs:aP lo A e size enc v l)(he:e∉Du)(hX:∀b,v.ownBlock=some b->¬X b):aP lo C e size enc v l:=by
 refine⟨hs.1,?_⟩
 rcases hs.2 with hn|⟨g,cap,cur,rfl,hb,hg,rest⟩
 .exact .inl hn
 .exact .inr ⟨g,cap,cur,rfl,hb,h.cells e he g (hX g rfl) _ _ hg,rest⟩
structure Gm(n0 B most g:Nat)(F:List Sy)(X:Nat->Prop)(E E':List En)(W w':World):Prop where
 ext:Ext E E'
 st:gV n0 B most g F E' w'
 below:Below n0 W w'
 km:Km B X W w'
theorem Gm.of{n0 B most g:Nat}{F:List Sy}{X:Nat->Prop}{E E':List En}{W w':World}(h:Gw n0 B most g F X E E' W w'):Gm n0 B most g F X E E' W w':=⟨h.ext,h.st,h.below,.of h.kp⟩
theorem Gm.trans{n0 B most g:Nat}{F:List Sy}{X:Nat->Prop}{E E2 E3:List En}{A C D:World}(h:Gm n0 B most g F X E E2 A C)(k:Gm n0 B most g F X E2 E3 C D):Gm n0 B most g F X E E3 A D:=⟨h.ext.trans k.ext,k.st,h.below.trans k.below,h.km.trans k.km⟩
theorem Gm.mono{n0 B most g:Nat}{F:List Sy}{X Y:Nat->Prop}{E E2:List En}{A C:World}(h:Gm n0 B most g F X E E2 A C)(hx:∀k,k<A.heap.size->X k->Y k):Gm n0 B most g F Y E E2 A C:=⟨h.ext,h.st,h.below,h.km.mono hx⟩
theorem Gm.refl{n0 B most g:Nat}{F:List Sy}{X:Nat->Prop}{E:List En}{W:World}(h:gV n0 B most g F E W):Gm n0 B most g F X E E W W:=.of (Gw.refl h)
theorem aW.mp{kb:Nat}{es:Array MapEntry}(h:aW n0 A B most E)(hg:A.grownBy C (some kb))(hm:A.heap[kb]?=some (.map es c))(hne:∃v,Dq B A v/\v≠ .map (some kb)):aW n0 C B most E:=by
 obtain⟨lv,mb,h1,h2,h3,h4⟩:=h
 have hmb:mb≠kb:=λe=>by
  obtain⟨v,q1,q2⟩:=hne
  have:=q1.inj h1.Zu
  rw[this,e]at q2
  exact q2 rfl
 refine⟨lv,mb,aI hg h1 (λe=>?_),aP.keep h2 (λk cs fz e=>aI hg e (λq=>?_)),h3.of_block (hg.block mb h3.lt (λe=>hmb (agQ e))),h4⟩
 .unfold yC at h1
  rw[e,hm]at h1;cases h1
 .rw[q,hm]at e;cases e
theorem Kt.mp{kb:Nat}{es:Array MapEntry}(hg:A.grownBy C (some kb))(hm:A.heap[kb]?=some (.map es c)):(∀t (k:Nat) (cs:Array Value) (fz:Nat×Nat),A.heap[k]?=some (.cells cs t fz)->C.heap[k]?=some (.cells cs t fz))/\∀v,Dq B A v->Dq B C v:=by
 have hc:∀t (k:Nat) (cs:Array Value) (fz:Nat×Nat),A.heap[k]?=some (.cells cs t fz)->C.heap[k]?=some (.cells cs t fz):=λt k cs fz e=>aI hg e (λq=>by rw[q,hm]at e;cases e)
 exact⟨hc,λv ⟨cs,fz,e1,e2⟩=>⟨cs,fz,hc _ _ _ _ e1,e2⟩⟩
theorem jV.mp{n0 g B:Nat}{A C:World}{E:List En}{kb:Nat}{es:Array MapEntry}{c:Nat}(h:jV n0 A g B E)(hg:A.grownBy C (some kb))(hm:A.heap[kb]?=some (.map es c))(hn:n0<=kb):jV n0 C g B E:=by
 obtain⟨v,rows,h1,h2,h3,h4⟩:=h.tb
 have hc:=(Kt.mp (B:=B) hg hm).1
 exact⟨⟨v,rows,hc _ _ _ _ h1,h2.keep (λk cs fz e=>hc _ _ _ _ e),h3,h4⟩,h.lo,h.tab.below (bL hg hn h.lt) h.g0,h.g0⟩
theorem bT.put{F:List Sy}{pa kb:Nat}(h:bT n0 A mb pa kb B g E K)(hP:gV n0 B most g F E A)(h0:0<x)(hx:x<=E.length)(hs:sig (txt E x)∈syms E)(hg:A.grownBy C (some kb))(hm:IM.MapAt (λs:Nat=>vI s) C kb (IM.dM (x:Int) (num E (sig (txt E x))) K)):
    bT n0 C mb pa kb B g E (IM.dM (x:Int) (num E (sig (txt E x))) K)/\Gm n0 B most g F (λ_=>False) E E A C:=by
 obtain⟨es,c,q1,-⟩:=h.map
 obtain⟨hc,hv⟩:=Kt.mp (B:=B) hg q1
 refine⟨⟨hc _ _ _ _ h.blk,hc _ _ _ _ h.par,hm,λp hp=>?_,?_,h.lo⟩,Ext.refl _,⟨hP.st.mp hg q1 h.ne,hP.wf,hP.kt.mp hg q1 h.lo.1,hP.sub,hP.len,hP.most,hP.txt⟩,bL hg h.lo.1 hP.lt,⟨λt _ k _ cs fz e=>hc _ _ _ _ e,hv⟩⟩
 .have:∀{l:List (Int×Nat)},(∀p∈l,∃i:Nat,p.1=(i:Int)/\0<i/\i<=E.length/\sig (txt E i)∈syms E/\p.2=num E (sig (txt E i)))->∀p∈IM.dM (x:Int) (num E (sig (txt E x))) l,∃i:Nat,p.1=(i:Int)/\0<i/\i<=E.length/\sig (txt E i)∈syms E/\p.2=num E (sig (txt E i)):=by
   intro l
   induction l with
   |nil=>
    intro _ p hp
    simp only[IM.dM,agl]at hp
    subst hp
    exact⟨x,rfl,h0,hx,hs,rfl⟩
   |cons q l ih=>
    intro hl p hp
    rw[IM.dM]at hp
    split at hp
    .rcases agm.1 hp with rfl|hp
     .exact⟨x,rfl,h0,hx,hs,rfl⟩
     .exact hl p (agK _ hp)
    .rcases agm.1 hp with rfl|hp
     .exact hl _ (ahl ..)
     .exact ih (λy hy=>hl y (agK _ hy)) p hp
  exact this h.ok p hp
 .obtain⟨v,r1,r2⟩:=h.ne
  exact⟨v,hv v r1,r2⟩
theorem bT.get{pa kb:Nat}(h:bT n0 A mb pa kb B g E K){s:Nat}(hx:IM.dQ (x:Int) K=some s):s=num E (sig (txt E x))/\sig (txt E x)∈syms E:=by
 obtain⟨i,h1,h2,h3,h4,h5⟩:=h.ok _ (IM.wE hx)
 have e:x=i:=by have:(x:Int)=(i:Int):=h1;omega
 subst e
 exact⟨h5,h4⟩
end M
end
section
open Go.RowKit Go.Lib
namespace M
attribute [local go_sem] Oper.semAt_some
theorem TT{l:List Int}:∀{F:List Int},l.Nodup->(∀y∈l,y∈F)->l.length<=F.length:=by
 induction l with
 |nil=>intro F _ _;exact agb _
 |cons a l ih=>
  intro F hn hs
  obtain⟨h1,h2⟩:=ail.1 hn
  have ha:=hs a (by simp)
  have:=ih (F:=F.erase a) h2 (λy hy=>(akG (by rintro rfl;exact h1 hy)).2 (hs y (by simp[hy])))
  rw[akw ha]at this
  have:=akA ha
  rw[agc];omega
theorem bT.few{n0 B g:Nat}{A:World}{mb pa kb:Nat}{E:List En}{K:List (Int×Nat)}(h:bT n0 A mb pa kb B g E K):K.length<=E.length+1:=by
 have h1:=TT (F:=(List.range (E.length+1)).map λn:Nat=>(n:Int)) h.map.nodup (λy hy=>by
  obtain⟨p,hp,rfl⟩:=agz.1 hy
  obtain⟨i,q1,-,q3,-⟩:=h.ok p hp
  exact agz.2 ⟨i,ahN.2 (by omega),q1.symm⟩)
 simpa using h1
theorem NL:∀l:List Nat,l.flatMap yS=l.map λn:Nat=>Value.int .u8 n
 | []=>rfl
 |a::l=>by rw[agW,NL l];rfl
section
variable {n0 B most g:Nat} {F:List Sy} {E:List En} {W:World} {mb pa kb:Nat} {K:List (Int×Nat)}
theorem GK(hP:gV n0 B most g F E W)(hM:bT n0 W mb pa kb B g E K){x:Nat}(h0:0<x)(hx:x<=E.length)(hs:sig (txt E x)∈syms E):
    Calls Tryz.prog 132 #[.pointer (some ⟨mb,0,none⟩),vI x,vI (num E (sig (txt E x))),.nilIface] W λe w'=>e=.returned .nilIface/\bT n0 w' mb pa kb B g E (IM.dM (x:Int) (num E (sig (txt E x))) K)/\Gm n0 B most g F (λ_=>False) E E W w':=by
 have hE:=hP.room;have hf:=hM.few;obtain⟨w3,hup,hm3,hg3,-⟩:=IM.MapAt.put (P:=Tryz.prog) (t:=122) (k:=27) (e:=27) hM.map Tryz.underlying27 Tryz.underlying122 (by unfold maxLen;omega) (FP (n:=x) (by omega)) (num E (sig (txt E x)));have HR:=ak (hM.put hP h0 hx hs hg3 hm3);obtain⟨c0,c1⟩:=hM.cells;obtain⟨s,hs'⟩:=ay (num E (sig (txt E x)));rw[hs']at HR hup⊢;clear hP hM hm3 hg3 hf hE h0 hx hs hs' c0;go_enter Tryz.func132,Tryz.ntmps132;go_wp2_with fail
 exact af_ (v:=.nilIface) (by simp[results,Tryz.results132,go_sem]) rfl ⟨rfl,HR.o⟩
def LrP(n0 B most g:Nat)(F:List Sy)(E:List En)(W:World)(mb pa kb:Nat)(K:List (Int×Nat))(x:Nat)(e:Ending)(w':World):Prop:=
 (∃E',e=.returned (.tuple #[.int .i64 0,.nilIface])/\Gm n0 B most g F (λq=>W.heap.size<=q) E E' W w'/\bT n0 w' mb pa kb B g E' (IM.dM (x:Int) (num E' (sig (txt E' x))) K))\/
 (∃c:Nat,e=.returned (.tuple #[.int .i64 (c:Nat),.nilIface])/\Gm n0 B most g F (λq=>W.heap.size<=q) E E W w'/\bT n0 w' mb pa kb B g E K/\IM.dQ (c:Int) K=none/\0<c/\c<x/\Need F E c/\(txt E c).length<=300000)
theorem Da(hM:bT n0 W mb pa kb B g E K){c:Nat}(hc:c<=9223372036854775807):(Instr.lookup 122 (.map (some kb)) (.int .i64 (c:Int)) true).run Tryz.prog W=.ok (match IM.dQ (c:Int) K with|some a=> .tuple #[vI a,.bool true]|none=> .tuple #[.int .i64 0,.bool false]) W:=by
 have h:=IM.MapAt.look (P:=Tryz.prog) (t:=122) (k:=27) (e:=27) true hM.map Tryz.underlying27 Tryz.underlying122 (z:=.int .i64 0) (by kernel_rfl) (FP hc)
 rw[h]
 cases IM.dQ (c:Int) K<;>rfl
theorem RN.byt{b:Nat}{v:Value}{l:List Nat}(h:RN b W v l)(h0:0<l.length):∃gt ct,v=.slice (some ⟨gt,0,none⟩) l.length ct/\Qa W gt l:=by
 rcases h.2 with⟨rfl,h2⟩|⟨gt,cap,cur,rfl,-,hg,h1,h2,h3,h4⟩
 .omega
 .refine⟨gt,cap,rfl,cur,_,hg,λi x hi=>?_⟩;have hi':(l.flatMap yS)[i]?=some (.int .u8 x):=by rw[NL,ahg,hi];rfl
  rw[<-h4,ahT]at hi';split at hi'
  .simpa using hi'
  .cases hi'
theorem PN(hP:gV n0 B most g F E W)(hM:bT n0 W mb pa kb B g E K){x:Nat}(hN:Need F E x)(hlen:(txt E x).length<=300000):
    Calls Tryz.prog 96 #[.pointer (some ⟨mb,0,none⟩),vI x] W (LrP n0 B most g F E W mb pa kb K x):=by
 have HF:∀f,Fence.wide.fn f:=λ_=>trivial;obtain⟨h0,hx,hsub⟩:=hN.at;have hE:=hP.room;have hwx:=hP.wf.wf.get x h0 hx;have hne:txt E x≠[]:=by intro e;rw[e]at hwx;exact ahh _ hwx.2.2.1
 have hll:=hM.lt;have HP0:=ak hP;have yV:=ak hM;have HN:=ak hN;have iI:=ak hll;have IK:=ak (iQ hM.par);have HW:=ak (dS hP.st hx (by omega));obtain⟨u,hu⟩:=ay ((aF E x).w);have EX:u.len=(txt E x).length:=by rw[<-hu,hwx.1];rfl
 rw[hu]at HW;obtain⟨m0,m1⟩:=hM.cells;have HMC:aA (∀w,Below W.heap.size W w->w.cell? ⟨mb,0,none⟩=some (ku pa)/\w.cell? ⟨mb,1,none⟩=some (.map (some kb))):=ak λw hw=>(yV.o.below hw).cells;have mh:aA (∀E1 w1,Gm n0 B most g F (λq=>W.heap.size<=q) E E1 W w1->sig (txt E x)∈syms E1->bT n0 w1 mb pa kb B g E1 K->Calls Tryz.prog 132 #[.pointer (some ⟨mb,0,none⟩),vI x,vI (num E1 (sig (txt E x))),.nilIface] w1 λe w'=>e=.returned .nilIface/\LrP n0 B most g F E W mb pa kb K x (.returned (.tuple #[.int .i64 0,.nilIface])) w'):=ak λE1 w1 hg hm hmm=>by
  have hx1:x<=E1.length:=af9 hx hg.ext.le;have ht1:txt E1 x=txt E x:=hg.ext.txt hx;have:=GK hg.st hmm h0 hx1 (by rw[ht1];exact hm);rw[ht1]at this;refine this.mono ?_;rintro e w' ⟨rfl,q1,q2⟩;exact⟨rfl,.inl ⟨E1,rfl,hg.trans (q2.mono λ_ _ h=>h.elim),by rw[ht1];exact q1⟩⟩
 by_cases hs:(txt E x).length<=256
 case' _=>
  have HX:aA (∀w,Below W.heap.size W w->Calls Tryz.prog 75 #[.pointer (some ⟨B,0,none⟩),vI x,.int .i64 0,vI u.len] w λe w'=>∃gt ct,e=.returned (.tuple #[.slice (some ⟨gt,0,none⟩) u.len ct,.nilIface])/\Qa w' gt (txt E x)/\Below w.heap.size w w'):=ak λw hw=>by
   have:=zX (hP.st.below hw) hP.wf.wf (by omega) hx (dG:=0) (n:=u.len) (by rw[EX];omega) (by omega);refine this.mono ?_;rintro e w' ⟨v,rfl,hv,hb⟩;rw[agj,EX,ahe]at hv;obtain⟨gt,ct,rfl,hy⟩:=hv.byt hwx.2.2.1;exact⟨gt,ct,by rw[EX],hy,hb⟩
  have HO:aA (∀w gt ct,Below W.heap.size W w->Qa w gt (txt E x)->Calls Tryz.prog 100 #[ku pa,.slice (some ⟨gt,0,none⟩) u.len ct] w λe w'=>∃E',e=.returned (.tuple #[vI (num E' (sig (txt E x))),.nilIface])/\Gw n0 B most g F (λq=>W.heap.size<=q) E E' W w'/\sig (txt E x)∈syms E'):=ak λw gt ct hw hy=>by
   have hb:∀b∈txt E x,b<256:=Sw hP.wf.wf x hx;have:=VL (hP.below hw) (au hw hM.par) (gt:=gt) (ct:=ct) hy EX.symm (by rw[EX];exact hwx.2.2.1) (by rw[EX];omega) hb hsub;refine this.mono ?_;rintro e w' ⟨E',rfl,q1,q2⟩;exact⟨E',rfl,(Gw.of hP hw).trans q1.free,q2⟩
  have ul:(u.len:Int)<=256:=by omega
  have ut:=ak EX;clear hP hM hN hlen h0 hx hsub hE hwx hne hll hu EX hs
 rotate_left
 case' _=>
  obtain⟨rr,hrr⟩:=ay ((aF E x).ru);obtain⟨l,r,mW,hl0,hlx,hr0,hrx,htx,hNl,hNr⟩:∃l r,(aF E x).ru=⟨2,0,l,r,0⟩/\0<l/\l<x/\0<r/\r<x/\txt E x=txt E l++txt E r/\Need F E l/\Need F E r:=by
   cases hN with
   |short _ _ q _=>exact absurd q hs
   | @pair _ l r _ _ _ _ q1 q2 q3 q4 q5 q6 q7 q8=>exact⟨l,r,q1,q2,q3,q4,q5,q6,q7,q8⟩
  have pX:aA (∀w,Below W.heap.size W w->Calls Tryz.prog 19 #[.pointer (some ⟨B,0,none⟩),vI x] w λe w'=>e=.returned (.tuple #[qN rr,.nilIface])/\Below w.heap.size w w'):=ak λw hw=>by
   have:=iK (hP.st.below hw) h0 hx (by omega);rw[hrr]at this;exact this
  have HLK:aA (∀c:Nat,c<=E.length->∀w,Below W.heap.size W w->(Instr.lookup 122 (.map (some kb)) (.int .i64 (c:Int)) true).run Tryz.prog w=.ok (match IM.dQ (c:Int) K with|some a=> .tuple #[vI a,.bool true]|none=> .tuple #[.int .i64 0,.bool false]) w):=ak λc hc w hw=>Da (hM.below hw) (by omega);have HJ:aA (∀sl sr,IM.dQ (l:Int) K=some sl->IM.dQ (r:Int) K=some sr->∀w,Below W.heap.size W w->Calls Tryz.prog 133 #[ku pa,vI sl,vI sr] w λe w'=>∃E',e=.returned (.tuple #[vI (num E' (sig (txt E x))),.nilIface])/\Gw n0 B most g F (λq=>W.heap.size<=q) E E' W w'/\sig (txt E x)∈syms E'):=ak λsl sr hl hr w hw=>by
   obtain⟨e1,n1⟩:=hM.get hl;obtain⟨e2,n2⟩:=hM.get hr;have l1:=(hP.wf.wf.get l hl0 (by omega)).2.2.1;have r1:=(hP.wf.wf.get r hr0 (by omega)).2.2.1;have nl:txt E l≠[]:=by intro e;rw[e]at l1;exact ahh _ l1
   have nr:txt E r≠[]:=by intro e;rw[e]at r1;exact ahh _ r1
   have hlw:=agC List.length htx;rw[af8]at hlw;have:=TR (hP.below hw) (au hw hM.par) (ra:=sig (txt E l)) (rb:=sig (txt E r)) ⟨_,nl,rfl⟩ ⟨_,nr,rfl⟩ n1 n2 (la:=(txt E l).length) (lb:=(txt E r).length) (by rw[eY nl]) (by rw[eY nr]) (by omega) (af9 hP.lt hw.size) hM.lo.2.2 (λn y hy=>by
    rw[eY nl,eY nr,<-htx]at hy;exact hsub y (Ld hne hy))
   rw[eY nl,eY nr,<-htx]at this;rw[e1,e2];refine this.mono ?_;rintro e w' ⟨E',rfl,q1,q2⟩;exact⟨E',rfl,(Gw.of hP hw).trans (q1.mono λq _ h=>af9 hw.size h),q2⟩
  have HMI:aA (∀c w,(c=l\/c=r)->IM.dQ (c:Int) K=none->Below W.heap.size W w->LrP n0 B most g F E W mb pa kb K x (.returned (.tuple #[vI c,.nilIface])) w):=ak λc w hc hg hw=>by
   refine .inr ⟨c,rfl,.of (Gw.of hP hw),hM.below hw,hg,?_⟩;have hlw:=agC List.length htx;rw[af8]at hlw;rcases hc with rfl|rfl
   .exact⟨hl0,hlx,hNl,by omega⟩
   exact⟨hr0,hrx,hNr,by omega⟩
  have ul:¬(u.len:Int)<=256:=by omega
  have hlE:l<=E.length:=by omega
  have hrE:r<=E.length:=by omega
  have H6:=ak (HLK.o l hlE);have Pe:=ak (HLK.o r hrE);have hkl:rr.kind=2/\rr.left=l/\rr.right=r:=by rw[<-hrr,mW];exact⟨rfl,rfl,rfl⟩
  have k0:¬((rr.kind:Int)=3):=by omega
  have k0':((rr.kind:Int)==(3:Int))=false:=agh.2 k0;have HKL:=ak hkl;clear hP hM hN hlen h0 hx hsub hE hwx hne hll hu EX hs mW hl0 hlx hr0 hrx htx hNl hNr HLK hlE hrE hrr hkl
 rotate_left
 all_goals
  go_enter Tryz.func96,Tryz.ntmps96;go_wp2_with fail
  refine IK.o.mono ?_;rintro e w' ⟨rfl,hw⟩;rw[hw];clear hw w';go_wp2_with fail
  refine HW.o.mono ?_;rintro e w1 ⟨rfl,b1⟩;obtain⟨wz,w2,hz,hss,k2,b2,⟨q0,q1,q2,q3,q4,q5⟩,r0,r1,r2,r3,r4,r5⟩:=kE w1 u;have HB2:=ak (Below.after b1 b2);have HK:=ak k2;have x0:=HK.o.cells.1;clear b1 b2 k2 m0 m1
 .have HXX:=ak (HX.o w2 HB2.o);go_wp2_with fail
  clear hz hss q0 q1 q2 q3 q4 q5 r0 r1 r2 r3 r4 r5 x0;refine HXX.o.mono ?_;rintro e w3 ⟨gt,ct,rfl,hy,b3⟩;have HB3:=ak (Below.after HB2.o b3);have HOO:=ak (HO.o w3 gt ct HB3.o hy);obtain⟨m0,m1⟩:=HMC.o w3 HB3.o;clear hy b3;go_wp2_with fail
  clear m0 m1;refine HOO.o.mono ?_;rintro e w4 ⟨E4,rfl,g4,s4⟩;have HRE:=ak (mh.o E4 w4 (.of g4) s4 (yV.o.kp g4.ext g4.kp (λk hk=>by have:=iI.o;rcases hk with rfl|rfl<;>omega)));obtain⟨s,hs⟩:=ay (num E4 (sig (txt E x)));rw[hs]at HRE⊢;clear g4 s4 hs;go_wp2_with fail
  refine HRE.o.mono ?_;rintro e w5 ⟨rfl,hr⟩;have HR:=ak hr;clear hr;go_wp2_with fail
  exact af_ (v:=.tuple #[.int .i64 0,.nilIface]) (by simp[results,Tryz.results96,go_sem]) rfl HR.o
 have HRR:=ak (pX.o w2 HB2.o);go_wp2_with fail
 clear hz hss q0 q1 q2 q3 q4 q5 r0 r1 r2 r3 r4 r5 x0;refine HRR.o.mono ?_;rintro e w3 ⟨rfl,b3⟩;obtain⟨wy,w4,hz,hss,k4,b4,⟨q0,q1,q2,q3,q4⟩,r0,r1,r2,r3,r4⟩:=pF w3 rr;obtain⟨gr,hgr⟩:=ay (w3.heap.size);rw[hgr]at hss k4 q0 q1 q2 q3 q4 r0 r1 r2 r3 r4;have cB:=ak (Below.after (Below.after HB2.o b3) b4);have H4:aA (∀w,Below w4.heap.size w4 w->eP w gr rr):=ak λw hw=>au hw k4;have WT:aA (∀w,Below w4.heap.size w4 w->Below W.heap.size W w):=ak λw hw=>Below.after cB.o hw;clear b3 b4 k4;go_wp2_with fail
 clear hz hss q0 q1 q2 q3 q4 r0 r1 r2 r3 r4 hgr;have c1:∀w,Below w4.heap.size w4 w->w.cell? ⟨mb,1,none⟩=some (.map (some kb)):=λw hw=>(HMC.o w (WT.o w hw)).2;have c0:∀w,Below w4.heap.size w4 w->w.cell? ⟨mb,0,none⟩=some (ku pa):=λw hw=>(HMC.o w (WT.o w hw)).1;have r0:∀w,Below w4.heap.size w4 w->w.cell? ⟨gr,0,none⟩=some (.int .i64 rr.kind):=λw hw=>(H4.o w hw).cells.1;have r2:∀w,Below w4.heap.size w4 w->w.cell? ⟨gr,2,none⟩=some (.int .i64 l):=λw hw=>by rw[<-HKL.o.2.1];exact(H4.o w hw).cells.2.2.1
 have r3:∀w,Below w4.heap.size w4 w->w.cell? ⟨gr,3,none⟩=some (.int .i64 r):=λw hw=>by rw[<-HKL.o.2.2];exact(H4.o w hw).cells.2.2.2.1
 cases hgl:IM.dQ (l:Int) K with
 |none=>
  have lk:∀w,Below w4.heap.size w4 w->(Instr.lookup 122 (.map (some kb)) (.int .i64 (l:Int)) true).run Tryz.prog w=.ok (.tuple #[.int .i64 0,.bool false]) w:=λw hw=>by
   have:=H6.o w (WT.o w hw);rw[hgl]at this;exact this
  refine dD (S:=Below w4.heap.size w4) ((af6 _ _).drew) λw5 S0=>?_;refine bJ 0 1 2 3 4 5 ?_;refine bJ 6 7 8 9 10 11 ?_;refine aO ?_;have y2:=r2 w5 S0;have HR:=ak (HMI.o l w5 (.inl rfl) hgl (WT.o w5 S0));clear lk c0 c1 r0 r2 r3 S0 hgl;go_wp2_with fail
  exact af_ (v:=.tuple #[vI l,.nilIface]) (by simp[results,Tryz.results96,go_sem]) rfl HR.o
 |some sl=>
  have lk:∀w,Below w4.heap.size w4 w->(Instr.lookup 122 (.map (some kb)) (.int .i64 (l:Int)) true).run Tryz.prog w=.ok (.tuple #[.int .i64 sl,.bool true]) w:=λw hw=>by
   have:=H6.o w (WT.o w hw);rw[hgl]at this;exact this
  refine dD (S:=Below w4.heap.size w4) ((af6 _ _).drew) λw5 S0=>?_;refine bJ 0 1 2 3 4 5 ?_;refine bJ 6 7 8 9 10 11 ?_;refine aO ?_;have y0:=r0 w5 S0;go_wp2_with fail
  clear y0 lk;cases hgr:IM.dQ (r:Int) K with
  |none=>
   have lk:∀w,Below w4.heap.size w4 w->(Instr.lookup 122 (.map (some kb)) (.int .i64 (r:Int)) true).run Tryz.prog w=.ok (.tuple #[.int .i64 0,.bool false]) w:=λw hw=>by
    have:=Pe.o w (WT.o w hw);rw[hgr]at this;exact this
   refine dD (S:=Below w4.heap.size w4) (S0.drew) λw6 S1=>?_;refine bJ 0 1 2 3 4 5 ?_;refine bJ 6 7 8 9 10 11 ?_;refine aO ?_;have y3:=r3 w6 S1;have HR:=ak (HMI.o r w6 (.inr rfl) hgr (WT.o w6 S1));clear lk c0 c1 r0 r2 r3 S0 S1 hgl hgr;go_wp2_with fail
   exact af_ (v:=.tuple #[vI r,.nilIface]) (by simp[results,Tryz.results96,go_sem]) rfl HR.o
  |some sr=>
   have lk:∀w,Below w4.heap.size w4 w->(Instr.lookup 122 (.map (some kb)) (.int .i64 (r:Int)) true).run Tryz.prog w=.ok (.tuple #[.int .i64 sr,.bool true]) w:=λw hw=>by
    have:=Pe.o w (WT.o w hw);rw[hgr]at this;exact this
   refine dD (S:=Below w4.heap.size w4) (S0.drew) λw6 S1=>?_;refine bJ 0 1 2 3 4 5 ?_;refine bJ 6 7 8 9 10 11 ?_;refine aO ?_;have HJJ:=ak (HJ.o sl sr hgl hgr w6 (WT.o w6 S1));have y0:=c0 w6 S1;clear lk c0 c1 r0 r2 r3 S0 S1 hgl hgr;go_wp2_with fail
   clear y0;refine HJJ.o.mono ?_;rintro e w7 ⟨E7,rfl,g7,s7⟩;have HRE:=ak (mh.o E7 w7 (.of g7) s7 (yV.o.kp g7.ext g7.kp (λk hk=>by have:=iI.o;rcases hk with rfl|rfl<;>omega)));obtain⟨s,hs⟩:=ay (num E7 (sig (txt E x)));rw[hs]at HRE⊢;clear g7 s7 hs;go_wp2_with fail
   refine HRE.o.mono ?_;rintro e w8 ⟨rfl,hr⟩;have HR:=ak hr;clear hr;go_wp2_with fail
   exact af_ (v:=.tuple #[.int .i64 0,.nilIface]) (by simp[results,Tryz.results96,go_sem]) rfl HR.o
end
theorem gV.app{n0 B most g lo:Nat}{F:List Sy}{E:List En}{A C:World}{α:Type}{e:TypeId}{size:Nat}{enc:α->List Value}{v:Value}{l:List α}{o:Obj}(h:gV n0 B most g F E A)(hS:aP lo A e size enc v l)(hg:(A.alloc o).grownBy C v.ownBlock)(he:e∉Du)(hlo:n0<=lo):Gw n0 B most g F (λq=>lo<=q) E E A C:=by
 have b1:Below A.heap.size A (A.alloc o):=(af6 _ _).alloc (af7 _) _;have g1:Gw n0 B most g F (λq=>lo<=q) E E A (A.alloc o):=Gw.of h b1;rcases hS.2 with⟨rfl,_⟩|⟨gb,cap,cur,rfl,TU,hgb,_⟩
 .exact g1.trans (Gw.of g1.st ((af6 _ _).grown hg (af7 _) (λk e=>by cases e)))
 exact g1.trans (Gw.put g1.st hg (au b1 hgb) he (af9 hlo TU) TU)
def xS(N:Nat)(K:List (Int×Nat)):Nat:=(List.range (N+1)).countP λi:Nat=>(IM.dQ (i:Int) K).isNone
theorem EY{p q:Nat->Bool}:∀{l:List Nat} {x:Nat},(∀y,p y=true->q y=true)->x∈l->q x=true->p x=false->l.countP p<l.countP q
 |a::l,x,h,hx,h1,h2=>by
  have hle:l.countP p<=l.countP q:=List.countP_mono_left λy _=>h y
  rw[List.countP_cons,List.countP_cons]
  rcases agm.1 hx with rfl|hx
  .rw[h1,h2];simp;omega
  .have:=EY h hx h1 h2
   by_cases ha:p a=true
   .rw[ha,h a ha];simp;omega
   .rw[show p a=false by simpa using ha];simp;omega
theorem TV{N x s:Nat}{K:List (Int×Nat)}(hx:x<=N)(h:IM.dQ (x:Int) K=none):xS N (IM.dM (x:Int) s K)<xS N K:=by
 refine EY (x:=x) (λy hy=>?_) (ahN.2 (by omega)) (by rw[h];rfl) (by rw[IM.qZ,af5 rfl];rfl);rw[IM.qZ]at hy;split at hy
 .cases hy
 exact hy
def vQ(N:Nat)(K:List (Int×Nat))(l:List Nat):Nat:=match l.getLast? with
 |none=>0
 |some x=>if(IM.dQ (x:Int) K).isSome then N+l.length else x
theorem t_(N:Nat)(K:List (Int×Nat))(l:List Nat)(x:Nat):vQ N K (l++[x])=if(IM.dQ (x:Int) K).isSome then N+(l.length+1)else x:=by
 unfold vQ;rw[List.getLast?_append];simp
theorem NM{N:Nat}(K:List (Int×Nat)){l:List Nat}(h:∀x∈l,x<=N):vQ N K l<=N+l.length:=by
 rcases agR l with rfl|⟨l',x,rfl⟩
 .exact agb _
 rw[agO]at h⊢;rw[t_,af8,agk];have:=h x (by simp);split<;>omega
theorem NN:∀{l:List Nat} {m:Nat},l.Pairwise (λa b=>b<a)->(∀x∈l,0<x/\x<=m)->l.length<=m
 | [],m,_,_=>agb _
 |a::l,m,h,hb=>by
  obtain⟨h1,h2⟩:=List.pairwise_cons.1 h
  have:=hb a (by simp)
  have:=NN (m:=m-1) h2 (λx hx=>by have:=h1 x hx;have:=hb x (by simp[hx]);omega)
  rw[agc];omega
theorem WU{lo:Nat}{w:World}{v:Value}{l:List Nat}{x ln:Nat}(hI:Ids lo w v (l++[x]))(hln:l.length=ln):∃ga cap,v=.slice (some ⟨ga,0,none⟩) (ln+1) cap/\w.cell? ⟨ga,ln,none⟩=some (.int .i64 x)/\ln+1<=cap/\cap<=9223372036854775807:=by
 have hlen1:(l++[x]).length=ln+1:=by rw[af8,hln];rfl
 rcases hI.shape with⟨-,h⟩|⟨ga,cap,rfl,h1,h2⟩
 .simp at h
 unfold maxLen at h2;refine⟨ga,cap,by rw[hlen1],?_,by omega,by omega⟩;have:=aP.cell bX hI (i:=ln) (by rw[hlen1];omega) (j:=0) (by omega);rw[ag3,ahC]at this;rw[this];simp[gF,<-hln]
section
variable {n0 B most g:Nat} {F:List Sy} {E:List En} {W:World} {mb pa kb:Nat} {K:List (Int×Nat)}
def OfJ(n0 B most g:Nat)(F:List Sy)(E:List En)(W:World)(mb pa kb id k:Nat)(tv:Value)(wr:World):Prop:=
 ∃(l:List Nat) (E1:List En) (K1:List (Int×Nat)),Ids W.heap.size wr tv l/\l.Pairwise (λa b=>b<a)/\(∀x∈l,Need F E1 x/\x<=E.length/\(txt E1 x).length<=300000)/\(l=[]->(IM.dQ (id:Int) K1).isSome=true)/\(∀y,l.head?=some y->y=id)/\Gm n0 B most g F (λq=>W.heap.size<=q) E E1 W wr/\bT n0 wr mb pa kb B g E1 K1/\k=xS E.length K1*(2*E.length+2)+vQ E.length K1 l
def OfP(n0 B most g:Nat)(F:List Sy)(E:List En)(W:World)(mb pa kb:Nat)(t:List Nat)(e:Ending)(w':World):Prop:=∃E' K',e=.returned (.tuple #[vI (VO E' t),.nilIface])/\Gm n0 B most g F (λq=>W.heap.size<=q) E E' W w'/\bT n0 w' mb pa kb B g E' K'/\(t≠[]->sig t∈syms E')
theorem TW(hP:gV n0 B most g F E W)(hM:bT n0 W mb pa kb B g E K){id:Nat}(hN:id=0\/Need F E id)(hlen:(txt E id).length<=300000):
    Calls Tryz.prog 46 #[.pointer (some ⟨mb,0,none⟩),vI id] W (OfP n0 B most g F E W mb pa kb (txt E id)):=by
 have HF:∀f,Fence.wide.fn f:=λ_=>trivial;have hE:=hP.room;have TY:id<=E.length:=by
  rcases hN with rfl|h
  .exact agb _
  exact h.at.2.1
 have hll:=hM.lt;have HP0:=ak hP;have yV:=ak hM;have HN:=ak hN;have iI:=ak hll;have IK:=ak (iQ hM.par);have uT:=ak (wY hP.st);obtain⟨m0,m1⟩:=hM.cells;obtain⟨el,hel⟩:=ay (E.length);rw[hel]at uT;have a1:¬(id:Int)<0:=by omega
 have a2:¬(id:Int)>(el:Int):=by omega
 have a3:decide ((id:Int)<0)=false:=agD a1;have a4:decide (el<id)=false:=agD (by omega);rcases agP id with h0|h0
 .have HR:aA (OfP n0 B most g F E W mb pa kb (txt E id) (.returned (.tuple #[.int .i64 0,.nilIface])) W):=ak (by
   rw[h0,cZ];exact⟨E,K,rfl,.refl hP,hM,λh=>absurd rfl h⟩)
  have h1:(id:Int)=0:=by omega
  have h2:((id:Int)==(0:Int))=true:=by rw[h1];rfl
  clear hP hM hN hlen hE TY hll hel h0;go_enter Tryz.func46,Tryz.ntmps46;go_wp2_with fail
  refine IK.o.mono ?_;rintro e w' ⟨rfl,hw⟩;rw[hw];clear hw w';go_wp2_with fail
  refine IK.o.mono ?_;rintro e w' ⟨rfl,hw⟩;rw[hw];clear hw w';go_wp2_with fail
  refine uT.o.mono ?_;rintro e w' ⟨rfl,hw⟩;rw[hw];clear hw w';go_wp2_with fail
  exact af_ (v:=.tuple #[.int .i64 0,.nilIface]) (by simp[results,Tryz.results46,go_sem]) rfl HR.o
 have hNd:Need F E id:=hN.resolve_left (by omega);have h1:¬(id:Int)=0:=by omega
 have h2:((id:Int)==(0:Int))=false:=agh.2 h1;obtain⟨w1,hw1⟩:=ay (W.alloc (.cells #[.int .i64 id] 27));have b1:Below W.heap.size W w1:=by rw[<-hw1];exact(af6 _ _).alloc (af7 _) _
 have afP:Ids W.heap.size w1 (.slice (some ⟨W.heap.size,0,none⟩) 1 1) [id]:=by rw[<-hw1];exact aP.lit bX (l:=[id]) rfl (by simp[maxLen])
 have HJ0:aA (OfJ n0 B most g F E W mb pa kb id (xS E.length K*(2*E.length+2)+vQ E.length K [id]) (.slice (some ⟨W.heap.size,0,none⟩) 1 1) w1):=ak ⟨[id],E,K,afP,by simp,λx hx=>by
  rw[agl.1 hx];exact⟨hNd,TY,hlen⟩,λh=>by simp at h,λy hy=>by simpa using hy.symm,.of (Gw.of hP b1),hM.below b1,rfl⟩
 have xu:aA (txt E id≠[]/\id<=E.length):=ak ⟨by
  intro e;have:=(hP.wf.wf.get id h0 TY).2.2.1;rw[e]at this;exact ahh _ this,TY⟩
 have eG:aA (n0<=W.heap.size):=ak hP.lt;have HEB:aA (E.length<=1048575):=ak hE.2;obtain⟨k0,hk0⟩:=ay (xS E.length K*(2*E.length+2)+vQ E.length K [id]);rw[hk0]at HJ0;have HIN:aA (id<=9223372036854775807):=ak (by omega);clear hP hM hN hNd hlen hE TY hll hel h0 b1 afP hk0;go_enter Tryz.func46,Tryz.ntmps46;go_wp2_with fail
 refine IK.o.mono ?_;rintro e w' ⟨rfl,hw⟩;rw[hw];clear hw w';go_wp2_with fail
 refine IK.o.mono ?_;rintro e w' ⟨rfl,hw⟩;rw[hw];clear hw w';go_wp2_with fail
 refine uT.o.mono ?_;rintro e w' ⟨rfl,hw⟩;rw[hw];clear hw w';go_wp2_with fail
 clear hw1 m0 m1 a1 a2 a3 a4 h1 h2;go_loopg [6] k0 (λk tv wr=>OfJ n0 B most g F E W mb pa kb id k tv wr)
 case atStart=>exact HJ0.o
 clear HJ0;obtain⟨l,E1,K1,hI,hpw,hnd,hnil,hhd,hg,hm,hk⟩:=hrel;obtain⟨m0,m1⟩:=hm.cells;rcases agR l with rfl|⟨l',x,rfl⟩
 .obtain⟨ta,tc,htv⟩:=hI.len;replace htv:_=Value.slice ta 0 tc:=htv;subst htv;have hks:=hnil rfl;obtain⟨s,hs⟩:∃s,IM.dQ (id:Int) K1=some s:=Option.isSome_iff_exists.1 hks;obtain⟨e1,e2⟩:=hm.get hs;have hext:=hg.ext.txt xu.o.2;have hlk:(Instr.lookup 122 (.map (some kb)) (.int .i64 (id:Int)) false).run Tryz.prog wr=.ok (.int .i64 (s:Int)) wr:=by
   have h:=IM.MapAt.look (P:=Tryz.prog) (t:=122) (k:=27) (e:=27) false hm.map Tryz.underlying27 Tryz.underlying122 (z:=.int .i64 0) (by kernel_rfl) (FP HIN.o);rw[h,hs];rfl
  have HR:aA (OfP n0 B most g F E W mb pa kb (txt E id) (.returned (.tuple #[.int .i64 (s:Int),.nilIface])) wr):=ak (by
   rw[hext]at e1 e2;refine⟨E1,K1,?_,hg,hm,λ_=>e2⟩;unfold VO;rw[af4 xu.o.1,<-e1])
  clear hI hpw hnd hnil hhd hg hm hk hks hs e1 e2 hext;go_wp2_with fail
  exact af_ (v:=.tuple #[.int .i64 s,.nilIface]) (by simp[results,Tryz.results46,go_sem]) rfl HR.o
 rw[agO]at hI hpw hnd hnil hhd hk;obtain⟨hxn,XA,hxl⟩:=hnd x (by simp);obtain⟨hx0,hx1,-⟩:=hxn.at;obtain⟨ln,hln⟩:=ay (l'.length);have hlen1:(l'++[x]).length=ln+1:=by rw[af8,hln];rfl
 obtain⟨ga,cap,rfl,hcell,hcap,hcap2⟩:=WU hI hln;have hlb:ln+1<=E.length:=by
  rw[<-hlen1];exact NN hpw λy hy=>⟨(hnd y hy).1.at.1,(hnd y hy).2.1⟩
 have hLK:=Da hm (c:=x) (by have:=HEB.o;omega);have HIX:=ak (And.intro hln hlb);have HEl:=HEB.o;cases hgx:IM.dQ (x:Int) K1 with
 |some s=>
  rw[hgx]at hLK;replace hLK:(Instr.lookup 122 (.map (some kb)) (.int .i64 (x:Int)) true).run Tryz.prog wr=.ok (.tuple #[.int .i64 (s:Int),.bool true]) wr:=hLK;have kH:aA (OfJ n0 B most g F E W mb pa kb id (xS E.length K1*(2*E.length+2)+vQ E.length K1 l') (.slice (some ⟨ga,0,none⟩) ln cap) wr):=ak ⟨l',E1,K1,hI.pop bX hln,(air.1 hpw).1,λy hy=>hnd y (by simp[hy]),λh=>by
   subst h;have:=hhd x rfl;rw[<-this,hgx];rfl,λy hy=>hhd y (by
    cases l' with
    |nil=>cases hy
    |cons a l'=>exact hy),hg,hm,rfl⟩
  have tJ:aA (xS E.length K1*(2*E.length+2)+vQ E.length K1 l'<gk):=ak (by
   rw[hk,t_,hgx];show _<_+(E.length+(l'.length+1));have:=NM K1 (N:=E.length) (l:=l') (λy hy=>(hnd y (by simp[hy])).2.1);omega)
  clear hI hpw hnd hnil hhd hg hm hk hxn XA hxl hx0 hx1 hln hlen1 hgx;go_wp2_with fail
  go_roundg (xS E.length K1*(2*E.length+2)+vQ E.length K1 l')
  case measure=>exact tJ.o
  case rel=>exact kH.o
 |none=>
  rw[hgx]at hLK;replace hLK:(Instr.lookup 122 (.map (some kb)) (.int .i64 (x:Int)) true).run Tryz.prog wr=.ok (.tuple #[.int .i64 0,.bool false]) wr:=hLK;have oG:=ak (PN hg.st hm hxn hxl);have HI:=ak hI;have VH:=ak hpw;have HND:=ak hnd;have AL:=ak hhd;have HG:=ak hg;have HM:=ak hm;have HK:=ak hk;have HGX:=ak hgx;have HXE:=ak XA;clear hI hpw hnd hnil hhd hg hm hk hxn XA hxl hx0 hx1 hln hlen1 hgx;go_wp2_with fail
  clear m0 m1 hLK hcell;refine oG.o.mono ?_;rintro e w2 (⟨E2,rfl,hg2,hm2⟩|⟨c,rfl,hg2,hm2,hgc,hc0,hcx,hcn,hcl⟩)
  .have hIX:Ids W.heap.size w2 (.slice (some ⟨ga,0,none⟩) (ln+1) cap) (l'++[x]):=hg2.km.sl HI.o (by decide) (λb hb=>by
    obtain⟨-,cur,jN⟩:=aP.blk HI.o hb;have:=(aga.1 jN).1;omega)
   have HG2:aA (Gm n0 B most g F (λq=>W.heap.size<=q) E E2 W w2):=ak (HG.o.trans (hg2.mono λq _ hq=>af9 HG.o.below.size hq));have kH:aA (OfJ n0 B most g F E W mb pa kb id (xS E.length (IM.dM (x:Int) (num E2 (sig (txt E2 x))) K1)*(2*E.length+2)+vQ E.length (IM.dM (x:Int) (num E2 (sig (txt E2 x))) K1) (l'++[x])) (.slice (some ⟨ga,0,none⟩) (ln+1) cap) w2):=ak ⟨l'++[x],E2,_,hIX,VH.o,λy hy=>by
    obtain⟨a,b,c⟩:=HND.o y hy;exact⟨a.ext hg2.ext,b,by rw[hg2.ext.txt a.at.2.1];exact c⟩,λh=>by simp at h,AL.o,HG2.o,hm2,rfl⟩
   have tJ:aA (xS E.length (IM.dM (x:Int) (num E2 (sig (txt E2 x))) K1)*(2*E.length+2)+vQ E.length (IM.dM (x:Int) (num E2 (sig (txt E2 x))) K1) (l'++[x])<gk):=ak (by
    have h1:=TV (s:=num E2 (sig (txt E2 x))) HXE.o HGX.o;have h2:=NM (IM.dM (x:Int) (num E2 (sig (txt E2 x))) K1) (N:=E.length) (l:=l'++[x]) (λy hy=>(HND.o y hy).2.1);have h3:(l'++[x]).length<=E.length:=(by rw[af8,HIX.o.1];exact HIX.o.2);rw[HK.o];have h4:=agY (2*E.length+2) (Nat.succ_le_of_lt h1);rw[ag6]at h4;omega)
   clear hIX hg2 hm2;generalize xS E.length (IM.dM (x:Int) (num E2 (sig (txt E2 x))) K1)*(2*E.length+2)+vQ E.length (IM.dM (x:Int) (num E2 (sig (txt E2 x))) K1) (l'++[x])=k2 at tJ kH;go_wp2_with fail
   go_roundg k2
   case measure=>exact tJ.o
   case rel=>exact kH.o
  have hIX:Ids W.heap.size w2 (.slice (some ⟨ga,0,none⟩) (ln+1) cap) (l'++[x]):=hg2.km.sl HI.o (by decide) (λb hb=>by
   obtain⟨-,cur,jN⟩:=aP.blk HI.o hb;have:=(aga.1 jN).1;omega)
  have HG2:aA (Gm n0 B most g F (λq=>W.heap.size<=q) E E1 W w2):=ak (HG.o.trans (hg2.mono λq _ hq=>af9 HG.o.below.size hq));have kZ:=ak hm2;have afR:=ak hIX;have HC:=ak (And.intro hgc (And.intro hcx (And.intro hcn hcl)));have ZP:aA (l'++[x,c]=(l'++[x])++[c]):=ak (by simp);have hcz:((c:Int) !=(0:Int))=true:=by unfold bne;rw[agh.2 (by omega)];rfl
  have hcz':((c:Int)==(0:Int))=false:=agh.2 (by omega);have hcz2:¬(c:Int)=0:=by omega
  have hcz3:(c:Int)≠0:=by omega
  have hsz:W.heap.size<=w2.heap.size:=HG2.o.below.size;clear hIX hg2 hm2 hgc hc0 hcx hcn hcl;go_wp2_with (first
   | (at_builtin;refine bP (v:=.slice (some ⟨ga,0,none⟩) (ln+1) cap) elemId bX rfl _ _ rfl rfl afR.o c rfl rfl ?c1 ?c2 hsz ?_))
  case c1=>simp[gF,Value.oneCell']
  case c2=>rw[af8,HIX.o.1];have:=HIX.o.2;simp;omega
  intro v3 w3 Ey hg3 hb3;have hgw:=gV.app HG2.o.st afR.o hg3 (by decide) eG.o;have kH:aA (OfJ n0 B most g F E W mb pa kb id (xS E.length K1*(2*E.length+2)+vQ E.length K1 (l'++[x,c])) v3 w3):=ak ⟨l'++[x,c],E1,K1,Ey,by
   rw[ZP.o];refine air.2 ⟨VH.o,by simp,λa ha b hb=>?_⟩;rw[agl.1 hb];rcases ags.1 ha with q|q
   .have h1:=(air.1 VH.o).2.2 a q x (by simp);have h2:=HC.o.2.1;omega
   .rw[agl.1 q];exact HC.o.2.1,λy hy=>by
   rw[ZP.o]at hy;rcases ags.1 hy with q|q
   .exact HND.o y q
   rw[agl.1 q];exact⟨HC.o.2.2.1,by have:=HC.o.2.1;have:=HXE.o;omega,HC.o.2.2.2⟩,λh=>by simp at h,λy hy=>AL.o y (by
   cases l' with
   |nil=>exact hy
   |cons a l'=>exact hy),HG2.o.trans (.of hgw),kZ.o.kp (Ext.refl _) hgw.kp (λq hq=>by have:=iI.o;rcases hq with rfl|rfl<;>omega),rfl⟩
  have tJ:aA (xS E.length K1*(2*E.length+2)+vQ E.length K1 (l'++[x,c])<gk):=ak (by
   rw[HK.o,ZP.o,t_,t_,HC.o.1,HGX.o];have:=HC.o.2.1;simp;omega)
  clear Ey hg3 hb3 hgw;go_wp2_with fail
  go_roundg (xS E.length K1*(2*E.length+2)+vQ E.length K1 (l'++[x,c]))
  case measure=>exact tJ.o
  case rel=>exact kH.o
def SmP(n0 B most g:Nat)(F:List Sy)(E:List En)(W:World)(mb pa kb:Nat)(s t:List Nat)(e:Ending)(w':World):Prop:=∃E' K',e=.returned (.tuple #[.bool (decide (s=t)),.nilIface])/\Gm n0 B most g F (λq=>W.heap.size<=q) E E' W w'/\bT n0 w' mb pa kb B g E' K'
theorem T9(hP:gV n0 B most g F E W)(hM:bT n0 W mb pa kb B g E K){a b:Nat}(hA:a=0\/Need F E a)(hla:(txt E a).length<=300000)(hB:b=0\/Need F E b)(hlb:(txt E b).length<=300000):
    Calls Tryz.prog 27 #[.pointer (some ⟨mb,0,none⟩),vI a,vI b] W (SmP n0 B most g F E W mb pa kb (txt E a) (txt E b)):=by
 have HF:∀f,Fence.wide.fn f:=λ_=>trivial;have hbE:b<=E.length:=by
  rcases hB with rfl|h
  .exact agb _
  exact h.at.2.1
 have HA:=ak (TW hP hM hA hla);have HB:aA (∀E1 K1 w1,Gm n0 B most g F (λq=>W.heap.size<=q) E E1 W w1->bT n0 w1 mb pa kb B g E1 K1->Calls Tryz.prog 46 #[.pointer (some ⟨mb,0,none⟩),vI b] w1 (OfP n0 B most g F E1 w1 mb pa kb (txt E b))):=ak λE1 K1 w1 hg hm=>by
  have ht:=hg.ext.txt hbE;have:=TW hg.st hm (id:=b) (hB.imp id (λh=>h.ext hg.ext)) (by rw[ht];exact hlb);rw[ht]at this;exact this
 go_enter Tryz.func27,Tryz.ntmps27;go_wp2_with fail
 refine HA.o.mono ?_;rintro e w1 ⟨E1,K1,rfl,g1,m1,s1⟩;have HG1:=ak g1;have j_:=ak s1;have HBB:=ak (HB.o E1 K1 w1 g1 m1);obtain⟨x,hx⟩:=ay (VO E1 (txt E a));rw[hx];have HX:=ak hx;go_wp2_with fail
 refine HBB.o.mono ?_;rintro e w2 ⟨E2,K2,rfl,g2,m2,s2⟩;have hG2:=HG1.o.trans (g2.mono λq _ h=>af9 HG1.o.below.size h);have hxe:VO E2 (txt E a)=x:=by
  rw[<-HX.o];unfold VO;split
  .rfl
  rename_i h;exact eZ g2.ext (j_.o h)
 have hiff:=VP (E:=E2) (s:=txt E a) (t:=txt E b) (λh=>g2.ext.mem (j_.o h)) s2;rw[hxe]at hiff;obtain⟨y,hy⟩:=ay (VO E2 (txt E b));rw[hy]at hiff⊢;have HR:aA (SmP n0 B most g F E W mb pa kb (txt E a) (txt E b) (.returned (.tuple #[.bool ((x:Int)==(y:Int)),.nilIface])) w2):=ak ⟨E2,K2,by
  have:((x:Int)==(y:Int))=decide (txt E a=txt E b):=by
   by_cases h:x=y
   .rw[agw (hiff.1 h),h];exact ai4 _
   rw[agD (λq=>h (hiff.2 q))];exact agh.2 (by omega)
  rw[this],hG2,m2⟩
 go_wp2_with fail
 exact af_ (v:=.tuple #[.bool ((x:Int)==(y:Int)),.nilIface]) (by simp[results,Tryz.results27,go_sem]) rfl HR.o
end
end M
end
end Go.Proofs.YtgbhohfabhilgaaGreatDoor
