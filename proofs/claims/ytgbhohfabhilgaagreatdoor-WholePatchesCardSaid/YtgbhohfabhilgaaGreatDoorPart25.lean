import Derived.Test.YtgbhohfabhilgaaGreatDoorPart24
set_option maxRecDepth 100000
set_option maxHeartbeats 8000000
set_option linter.unusedVariables false
set_option linter.unusedSimpArgs false
namespace Go.Proofs.YtgbhohfabhilgaaGreatDoor
section
open Go.RowKit Go.Lib
theorem zK{α:Type}{enc:α->List Value}{size:Nat}(he:∀a,(enc a).length=size):∀(l:List α) (i j:Nat) (hi:i<l.length) (_:j<size) (x':α) (u:Value),enc x'=(enc l[i]).set j u->(l.set i x').flatMap enc=(l.flatMap enc).set (i*size+j) u
 |a::l,0,j,_,hj,x',u,hx=>by
  rw[agu,agW,agW,aiS,ahi,List.set_append_left _ _ (by rw[he];exact hj)]
  rw[hx];rfl
 |a::l,i+1,j,hi,hj,x',u,hx=>by
  rw[agv,agW,agW,aiY _ _ (by rw[he,aha];omega),he,show(i+1)*size+j-size=i*size+j by rw[aha];omega]
  rw[zK he l i j (by simpa using hi) hj x' u hx]
theorem aP.setAt{α:Type}{B:Nat}{W:World}{e:TypeId}{size:Nat}{enc:α->List Value}(he:∀a,(enc a).length=size){g cap n:Nat}{l:List α}(h:aP B W e size enc (.slice (some ⟨g,0,none⟩) n cap) l){i j:Nat}(hi:i<l.length)(hj:j<size){x':α}{u:Value}(hx:enc x'=(enc l[i]).set j u):
    aP B (W.setCell ⟨g,i*size+j,none⟩ u) e size enc (.slice (some ⟨g,0,none⟩) n cap) (l.set i x'):=by
 unfold aP at h⊢
 rw[zK he l i j hi hj x' u hx,agL]
 refine⟨by rw[agL];exact h.1,?_⟩
 rcases h.2 with⟨hv,_⟩|⟨g',cap',cur,hv,hg,hgb,h1,h2,h3,h4⟩
 .cases hv
 .cases hv
  refine .inr ⟨g,cap,cur.setIfInBounds (i*size+j) u,rfl,hg,aC _ hgb,h1,h2,by simpa using h3,?_⟩
  rw[ajh,akj,h4]
theorem aP.congr{α:Type}{B:Nat}{W:World}{e:TypeId}{size:Nat}{enc enc':α->List Value}{v:Value}{l:List α}(h:aP B W e size enc v l)(hx:∀x∈l,enc' x=enc x):aP B W e size enc' v l:=by
 have e1:l.flatMap enc'=l.flatMap enc:=by
  clear h
  induction l with
  |nil=>rfl
  |cons a l ih=>rw[agW,agW,hx a (by simp),ih λx q=>hx x (by simp[q])]
 unfold aP at h⊢
 rw[e1];exact h
theorem aP.grown{α:Type}{B:Nat}{A C:World}{e:TypeId}{size:Nat}{enc:α->List Value}{v:Value}{l:List α}(h:aP B A e size enc v l){row:Option Nat}(hg:A.grownBy C row)(hr:v.ownBlock=none\/v.ownBlock≠row):aP B C e size enc v l:=ajz h hg hr
theorem aP.blk{α:Type}{B:Nat}{W:World}{e:TypeId}{size:Nat}{enc:α->List Value}{v:Value}{l:List α}(h:aP B W e size enc v l){b:Nat}(hb:v.ownBlock=some b):B<=b/\∃cur,W.heap[b]?=some (.cells cur e (0,0)):=by
 rcases h.2 with⟨rfl,_⟩|⟨g,cap,cur,rfl,hg,hgb,_⟩
 .cases hb
 .have e1:g=b:=by simpa[Value.ownBlock]using hb
  subst e1
  exact⟨hg,cur,hgb⟩
namespace M
attribute [local go_sem] Oper.semAt_some
theorem Kp.sl{α:Type}{B:Nat}{X:Nat->Prop}{A C:World}(h:Kp B X A C){lo:Nat}{e:TypeId}{size:Nat}{enc:α->List Value}{v:Value}{l:List α}(hs:aP lo A e size enc v l)(he:e∉Du)(hX:∀b,v.ownBlock=some b->¬X b):aP lo C e size enc v l:=by
 refine⟨hs.1,?_⟩
 rcases hs.2 with hn|⟨g,cap,cur,rfl,hb,hg,rest⟩
 .exact .inl hn
 .exact .inr ⟨g,cap,cur,rfl,hb,h.cells e he g (hX g rfl) _ _ hg,rest⟩
def zL(E:List En)(f:Sy×Nat):List Value:=[vI (num E f.1),.int .i64 (yP E f.1).kind,.int .u8 (yP E f.1).letter,.int .i64 (yP E f.1).left,.int .i64 (yP E f.1).right,.int .i64 (yP E f.1).times,vI (aQ f.1),vI f.2]
theorem tY(E:List En)(f:Sy×Nat):(zL E f).length=8:=rfl
theorem O5(E:List En)(f:Sy×Nat):∀u∈zL E f,u.oneCell'=true:=by simp[zL,Value.oneCell']
abbrev frV(E:List En)(y:Sy)(h:Nat):Value:=.agg #[vI (num E y),.int .i64 (yP E y).kind,.int .u8 (yP E y).letter,.int .i64 (yP E y).left,.int .i64 (yP E y).right,.int .i64 (yP E y).times,vI (aQ y),vI h]
theorem VQ{A B:List En}(h:Ext A B)(hwf:Wf A){y:Sy}(hy:y∈syms A):yP B y=yP A y:=by
 cases y with
 |lt b=>rfl
 |pr l r=>
  have h1:=pz hwf hy (x:=l) (by simp[aZ])
  have h2:=pz hwf hy (x:=r) (by simp[aZ])
  show(⟨2,0,num B l,num B r,0⟩:Ru)=⟨2,0,num A l,num A r,0⟩
  rw[eZ h h1,eZ h h2]
 |pw x k=>
  have h1:x∈syms A:=by
   obtain⟨i,h0,hi,e⟩:=FD hy
   rcases fI hwf h0 hi with⟨b,r1,s1,-⟩|⟨l,r,r1,s1,l1,l2,l3,l4⟩|⟨x',k',r1,s1,l1,l2,l3,l4⟩
   .rw[s1]at e;cases e
   .rw[s1]at e;cases e
   .rw[s1]at e
    injection e with e1 _
    rw[<-e1];exact tF l1 (by omega)
  show(⟨3,0,num B x,0,k⟩:Ru)=⟨3,0,num A x,0,k⟩
  rw[eZ h h1]
theorem O6{A B:List En}(h:Ext A B)(hwf:Wf A){f:Sy×Nat}(hf:f.1∈syms A):zL B f=zL A f:=by
 unfold zL
 rw[eZ h hf,VQ h hwf hf]
theorem aap:Elem Tryz.prog 245 289 8 64:=gP Tryz.underlying245 (z:=.agg #[.int .i64 0,.int .i64 0,.int .u8 0,.int .i64 0,.int .i64 0,.int .i64 0,.int .i64 0,.int .i64 0]) (by kernel_rfl) rfl (by decide) (by decide)
abbrev G9(lo:Nat)(W:World)(E:List En)(v:Value)(p:gI):Prop:=aP lo W 289 8 (zL E) v p.reverse
abbrev ku(pa:Nat):Value:=.pointer (some ⟨pa,0,none⟩)
structure iq(W:World)(E:List En)(T:TypeId)(lo sb o pa:Nat)(b:Bool)(p:gI)(i k:Nat)(cs:Array Value)(v:Value):Prop where
 blk:W.heap[sb]?=some (.cells cs T (0,0))
 c0:cs[o]?=some (ku pa)
 c1:cs[o+1]?=some (.bool b)
 c2:cs[o+2]?=some v
 c3:cs[o+3]?=some (vI i)
 c4:cs[o+4]?=some (vK k)
 path:G9 lo W E v p
 mem:∀f∈p,f.1∈syms E/\jF f.1
theorem iq.cells{W:World}{E:List En}{T:TypeId}{lo sb o pa:Nat}{b:Bool}{p:gI}{i k:Nat}{cs:Array Value}{v:Value}(h:iq W E T lo sb o pa b p i k cs v):
    W.cell? ⟨sb,o,none⟩=some (ku pa)/\W.cell? ⟨sb,o+1,none⟩=some (.bool b)/\W.cell? ⟨sb,o+2,none⟩=some v/\W.cell? ⟨sb,o+3,none⟩=some (vI i)/\W.cell? ⟨sb,o+4,none⟩=some (vK k)/\∀j,W.frozen? ⟨sb,j,none⟩=false:=by
 refine⟨?_,?_,?_,?_,?_,λj=>?_⟩
 .simp only[World.cell?,h.blk];simpa using h.c0
 .simp only[World.cell?,h.blk];simpa using h.c1
 .simp only[World.cell?,h.blk];simpa using h.c2
 .simp only[World.cell?,h.blk];simpa using h.c3
 .simp only[World.cell?,h.blk];simpa using h.c4
 .simp[World.frozen?,h.blk]
structure lV(o:Nat)(cs cs':Array Value):Prop where
 size:cs'.size=cs.size
 get:∀j,(j<o\/o+5<=j)->cs'[j]?=cs[j]?
theorem lV.refl(o:Nat)(cs:Array Value):lV o cs cs:=⟨rfl,λ_ _=>rfl⟩
theorem lV.trans{o:Nat}{a b c:Array Value}(h:lV o a b)(k:lV o b c):lV o a c:=⟨k.size.trans h.size,λj hj=>(k.get j hj).trans (h.get j hj)⟩
theorem lV.set{o:Nat}{cs:Array Value}{j:Nat}(h1:o<=j)(h2:j<o+5)(x:Value):lV o cs (cs.setIfInBounds j x):=⟨by simp,λq hq=>by rw[aiU (by omega)]⟩
theorem Cn{cs:Array Value}{j:Nat}{x y:Value}(h:cs[j]?=some y):(cs.setIfInBounds j x)[j]?=some x:=by
 have:=(aga.1 h).1
 rw[ajg this]
theorem iP{cs:Array Value}{j q:Nat}{x:Value}(h:j≠q):(cs.setIfInBounds j x)[q]?=cs[q]?:=aiU h
structure EdL(n0 lo sb:Nat)(T:TypeId):Prop where
 l0:n0<=lo
 l1:lo<=sb
 t1:T∉Du
 t2:T≠289
 t3:T≠129
section
variable {W w':World} {E:List En} {T:TypeId} {lo sb o pa:Nat} {b:Bool} {p:gI} {i k:Nat} {cs:Array Value} {v:Value}
theorem iq.ne(h:iq W E T lo sb o pa b p i k cs v)(hT:T≠289){q:Nat}(hq:v.ownBlock=some q):q≠sb:=by
 rintro rfl
 obtain⟨-,cur,hc⟩:=h.path.blk hq
 rw[h.blk]at hc
 injection hc with hc;injection hc with _ hc _
 exact hT hc
theorem iq.id(h:iq W E T lo sb o pa b p i k cs v)(hT:T≠289)(i':Nat):iq (W.setCell ⟨sb,o+3,none⟩ (vI i')) E T lo sb o pa b p i' k (cs.setIfInBounds (o+3) (vI i')) v:=
 ⟨aC _ h.blk,by rw[iP (by omega)];exact h.c0,by rw[iP (by omega)];exact h.c1,by rw[iP (by omega)];exact h.c2,Cn h.c3,by rw[iP (by omega)];exact h.c4,h.path.setCell _ h.blk hT,h.mem⟩
theorem iq.key(h:iq W E T lo sb o pa b p i k cs v)(hT:T≠289)(k':Nat):iq (W.setCell ⟨sb,o+4,none⟩ (vK k')) E T lo sb o pa b p i k' (cs.setIfInBounds (o+4) (vK k')) v:=
 ⟨aC _ h.blk,by rw[iP (by omega)];exact h.c0,by rw[iP (by omega)];exact h.c1,by rw[iP (by omega)];exact h.c2,by rw[iP (by omega)];exact h.c3,Cn h.c4,h.path.setCell _ h.blk hT,h.mem⟩
theorem iq.slice(h:iq W E T lo sb o pa b p i k cs v)(hT:T≠289){v':Value}{p':gI}(hp:G9 lo W E v' p')(hm:∀f∈p',f.1∈syms E/\jF f.1):iq (W.setCell ⟨sb,o+2,none⟩ v') E T lo sb o pa b p' i k (cs.setIfInBounds (o+2) v') v':=
 ⟨aC _ h.blk,by rw[iP (by omega)];exact h.c0,by rw[iP (by omega)];exact h.c1,Cn h.c2,by rw[iP (by omega)];exact h.c3,by rw[iP (by omega)];exact h.c4,hp.setCell _ h.blk hT,hm⟩
theorem iq.below(h:iq W E T lo sb o pa b p i k cs v)(hb:Below W.heap.size W w'):iq w' E T lo sb o pa b p i k cs v:=
 ⟨au hb h.blk,h.c0,h.c1,h.c2,h.c3,h.c4,h.path.below hb,h.mem⟩
theorem iq.gw{n0 B most g:Nat}{F:List Sy}{X:Nat->Prop}{E':List En}(h:iq W E T lo sb o pa b p i k cs v)(hg:Gw n0 B most g F X E E' W w')(hwf:Wf E)(hT:T∉Du)(hX:¬X sb)(hX2:∀q,v.ownBlock=some q->¬X q):iq w' E' T lo sb o pa b p i k cs v:=
 ⟨hg.kp.cells _ hT _ hX _ _ h.blk,h.c0,h.c1,h.c2,h.c3,h.c4,(hg.kp.sl h.path (by decide) hX2).congr (λf hf=>O6 hg.ext hwf (h.mem f (by simpa using hf)).1),λf hf=>⟨hg.ext.mem (h.mem f hf).1,(h.mem f hf).2⟩⟩
end
def EF:Ed->gI
 |none=>[]
 |some (p,_)=>p
def Uw(E:List En):Ed->Nat
 |none=>0
 |some (_,x)=>num E x
def O7:Ed->Nat
 |none=>0
 |some (_,x)=>key x
structure J6(W:World)(E:List En)(T:TypeId)(lo sb o pa:Nat)(b:Bool)(e:Ed)(cs:Array Value)(v:Value):Prop where
 r:iq W E T lo sb o pa b (EF e) (Uw E e) (O7 e) cs v
 sym:∀p x,e=some (p,x)->x∈syms E/\jF x
theorem J6.gw{W w':World}{E:List En}{T:TypeId}{lo sb o pa:Nat}{b:Bool}{e:Ed}{cs:Array Value}{v:Value}{n0 B most g:Nat}{F:List Sy}{X:Nat->Prop}{E':List En}(h:J6 W E T lo sb o pa b e cs v)(hg:Gw n0 B most g F X E E' W w')(hwf:Wf E)(hT:T∉Du)(hX:¬X sb)(hX2:∀q,v.ownBlock=some q->¬X q):J6 w' E' T lo sb o pa b e cs v:=by
 have h1:=h.r.gw hg hwf hT hX hX2
 have e1:Uw E' e=Uw E e:=by
  cases e with
  |none=>rfl
  |some q=>obtain⟨p,x⟩:=q;exact eZ hg.ext (h.sym p x rfl).1
 exact⟨by rw[e1];exact h1,λp x e=>⟨hg.ext.mem (h.sym p x e).1,(h.sym p x e).2⟩⟩
theorem J6.below{W w':World}{E:List En}{T:TypeId}{lo sb o pa:Nat}{b:Bool}{e:Ed}{cs:Array Value}{v:Value}(h:J6 W E T lo sb o pa b e cs v)(hb:Below W.heap.size W w'):J6 w' E T lo sb o pa b e cs v:=⟨h.r.below hb,h.sym⟩
abbrev G_(sb:Nat)(v:Value)(n:Nat)(q:Nat):Prop:=q=sb\/v.ownBlock=some q\/n<=q
theorem iq.pa{W:World}{E:List En}{T:TypeId}{n0 lo sb o pa B g:Nat}{b:Bool}{p:gI}{i k:Nat}{cs:Array Value}{v:Value}(h:iq W E T lo sb o pa b p i k cs v)(hl:EdL n0 lo sb T)(hp:iW W pa B g):¬G_ sb v W.heap.size pa:=by
 have hlt:=(aga.1 hp).1
 unfold iW at hp
 rintro(q|q|q)
 .rw[q,h.blk]at hp
  injection hp with hp;injection hp with _ hp _
  exact hl.t3 hp
 .obtain⟨-,cur,hc⟩:=h.path.blk q
  rw[hc]at hp
  injection hp with hp;injection hp with _ hp _
  exact absurd hp (by decide)
 .omega
theorem iq.lt{W:World}{E:List En}{T:TypeId}{lo sb o pa:Nat}{b:Bool}{p:gI}{i k:Nat}{cs:Array Value}{v:Value}(h:iq W E T lo sb o pa b p i k cs v):sb<W.heap.size:=(aga.1 h.blk).1
theorem iq.Ux{W:World}{E:List En}{T:TypeId}{lo sb o pa:Nat}{b:Bool}{p:gI}{i k:Nat}{cs:Array Value}{v:Value}(h:iq W E T lo sb o pa b p i k cs v){q:Nat}(hq:v.ownBlock=some q):lo<=q/\q<W.heap.size:=by
 obtain⟨a,cur,hc⟩:=h.path.blk hq
 exact⟨a,(aga.1 hc).1⟩
def He(n0 B most g:Nat)(F:List Sy)(E:List En)(W:World)(T:TypeId)(lo sb o pa:Nat)(b:Bool)(cs:Array Value)(v:Value)(e:Ed)(w':World):Prop:=
 ∃cs' v',J6 w' E T lo sb o pa b e cs' v'/\lV o cs cs'/\pE W.heap.size v v'/\Gw n0 B most g F (G_ sb v W.heap.size) E E W w'
theorem vB(n:Nat)(v:Value):pE n v v:=.inl rfl
theorem zM{n m:Nat}{a b c:Value}(h:pE n a b)(k:pE m b c)(hm:n<=m):pE n a c:=by
 rcases k with k|⟨q,k1,k2⟩
 .rcases h with h|⟨q,h1,h2⟩
  .exact .inl (k.trans h)
  .exact .inr ⟨q,k.trans h1,h2⟩
 .exact .inr ⟨q,k1,by omega⟩
theorem dY.len{b:Bool}{root:Sy}:∀{p:gI} {x:Sy},dY b root p x->p.length+aQ x<=aQ root
 | [],x,h=>by rw[show x=root from h];simp
 | (y,h)::p,x,hs=>by
  have hl:=jQ (qp.1 (agE hs.2.1))
  have:=dY.len hs.2.2
  rw[agc];omega
end M
theorem eT(b:Nat):∀(vs:List Value) (o:Nat) (w:World),w.grownBy (w.setCells b o vs) (some b)
 | [],_,w=>⟨rfl,rfl,rfl,af7 _,λ_ _ _=>rfl⟩
 |v::r,o,w=>by
  have h:=eT b r (o+1) (w.setCell ⟨b,o,none⟩ v)
  rw[World.setCells]
  exact⟨h.os,h.tape,h.output,af9 (by simp[World.setCell]) h.size,λi hi hn=>(h.block i (by simpa[World.setCell]using hi) hn).trans (agU _ _ _ i (λe=>hn (by rw[e])))⟩
theorem jq(b:Nat):∀(vs:List Value) (o:Nat) (w:World) {cur:Array Value} {e:TypeId},w.heap[b]?=some (.cells cur e (0,0))->o+vs.length<=cur.size->∃cur',(w.setCells b o vs).heap[b]?=some (.cells cur' e (0,0))/\cur'.toList=cur.toList.take o++vs++cur.toList.drop (o+vs.length)/\cur'.size=cur.size
 | [],o,w,cur,e,h,_=>⟨cur,h,by simp,rfl⟩
 |v::r,o,w,cur,e,h,hl=>by
  rw[agc]at hl
  obtain⟨cur',h1,h2,h3⟩:=jq b r (o+1) (w.setCell ⟨b,o,none⟩ v) (aC (i:=o) v h) (by simp;omega)
  refine⟨cur',h1,?_,by rw[h3];simp⟩
  have ho:o<cur.toList.length:=by rw[ah2];omega
  have hlt:(cur.toList.take o).length=o:=by rw[agB];omega
  rw[h2,ajh,List.set_eq_take_append_cons_drop,af5 ho]
  have e1:(cur.toList.take o++v::cur.toList.drop (o+1)).take (o+1)=cur.toList.take o++[v]:=by
   rw[aiL,hlt,agI (by omega),show o+1-o=1 by omega];rfl
  have e2:(cur.toList.take o++v::cur.toList.drop (o+1)).drop (o+1+r.length)=cur.toList.drop (o+(v::r).length):=by
   rw[ajD,hlt,ag9 (by omega),agH,show o+1+r.length-o=r.length+1 by omega,agr,ahn,agc]
   congr 1;omega
  rw[e1,e2]
  simp
theorem tZ{P:Program}(w:World)(dT sT ty elem:TypeId)(k b o dLen dCap:Nat)(a:Addr)(sLen sCap:Nat)(cs:List Value)
    (hu:P.underlying dT=some (.slice elem)) (hs:(P.info? elem).map (·.size)=some k) (hn:cs.length=Nat.min sLen dLen*k)
    (hsrc:∀j v,cs[j]?=some v->w.cell? (a.add j)=some v) (hc:∀j,j<cs.length->(w.cell? ⟨b,o+j,none⟩).isSome=true) (hf:∀j,j<cs.length->w.frozen? ⟨b,o+j,none⟩=false) (h1:∀v∈cs,v.oneCell'=true):
    (Builtin.copy_ #[dT,sT] ty #[.slice (some ⟨b,o,none⟩) dLen dCap,.slice (some a) sLen sCap]).run P w=.ok (goInt (Nat.min sLen dLen)) (w.setCells b o cs):=by
 have hl:=run_loadCells_list (P:=P) w a cs hsrc
 have hst:=run_storeCells_cells (P:=P) b o cs 0 w (by simpa using hc) (by simpa using hf) h1
 cases hq:P.info? elem with
 |none=>simp[hq]at hs
 |some i=>
  have hi:i.size=k:=by simpa[hq]using hs
  rw[hn]at hl
  simp[Builtin.copy_,ahs hu,Builtin.lenOf,Builtin.firstCells,sizeOf,typeInfo,hq,hi,hl,hst]
theorem zO{P:Program}{w w':World}{ops:Array Oper}{rest:List Oper}{o:Oper}{a:Act}{Q:Exit->Act->World->Prop}{t:TypeId}{v v1 v2:Value}(hgd:o.guard=none)(s x:Operand)(ho:o.op=.call { callee:=.builtin .copy,args:=#[s,x],argTypes:=#[t,t] })
    (h1:a.eval s=v1) (h2:a.eval x=v2) (hrun:(Builtin.copy_ #[t,t] o.type #[v1,v2]).run P w=.ok v w') (hK:wpList P ops Q rest (a.put o.dst v) w'):wpList P ops Q (o::rest) a w:=
 wpList_plain hgd λ_ hK'=>by
  unfold Oper.wp execOp
  simp only[ho,resolve,invoke,builtin,Sem.run_bind,Sem.run_pure,Result.andThen_ok,List.map_toArray,ag8,List.map_nil,h1,h2,hrun]
  exact hK' _ _ hK
namespace M
attribute [local go_sem] Oper.semAt_some
theorem m_:Elem Tryz.prog 249 254 4 32:=gP Tryz.underlying249 (z:=.agg #[.int .i64 0,.int .i64 0,.int .u64 0,.int .i64 0]) (by kernel_rfl) rfl (by decide) (by decide)
def uz(_:World):Prop:=True
def vD{α:Type}(lo:Nat)(enc:α->List Value)(W:World)(l:List α)(e:Ending)(w':World):Prop:=∃v',e=.returned v'/\aP lo w' 254 4 enc v' l/\bS [254] W w'/\Below lo W w'
section
variable {α:Type} {enc:α->List Value}
theorem VX(he:∀a,(enc a).length=4)(h1:∀a,∀u∈enc a,u.oneCell'=true){W:World}{lo:Nat}(hlo:lo<=W.heap.size){v:Value}(hs:aP lo W 254 4 enc v []){vb:Nat}{y:α}(hy:W.heap[vb]?=some (.cells (enc y).toArray 254 (0,0))):
    Calls Tryz.prog 209 #[v,.int .i64 0,.slice (some ⟨vb,0,none⟩) 1 1] W (vD lo enc W [y]):=by
 have hv:aP 0 W 254 4 enc (.slice (some ⟨vb,0,none⟩) 1 1) [y]:=⟨by simp[he],.inr ⟨vb,1,_,rfl,agb _,hy,af7 _,by unfold maxLen;omega,by simp[he],by simp[agI (aiq (he y))]⟩⟩
 have HV:=ak hv;have HS:=ak hs;have HE:=ak he;have H1:=ak h1;have eG:=ak hlo
 have hsh:∃a cap,v=.slice a 0 cap:=by obtain⟨a,c,e⟩:=hs.len;exact⟨a,c,e⟩
 obtain⟨a,cap,rfl⟩:=hsh
 clear hv hs he h1 hlo hy
 go_enter Tryz.func209,Tryz.ntmps209
 go_wp2_with (first
  | (at_builtin;refine mo m_ HE.o H1.o rfl _ _ rfl rfl HS.o rfl rfl HV.o (by simp) eG.o ?_))
 all_goals
  intro v' w' hs' hg hb
  have HR:aA (aP lo w' 254 4 enc v' [y]/\bS [254] W w'/\Below lo W w'):=ak ⟨hs',bS.own HS.o (af6 _ _) hg (agl.2 rfl),hb⟩
  clear hs' hg hb
  go_wp2_with fail
  go_ret
  exact⟨v',rfl,HR.o⟩
theorem Ct:(Tryz.prog.info? 254).map (·.size)=some 4:=by kernel_rfl
theorem Pb(he:∀a,(enc a).length=4)(h1:∀a,∀u∈enc a,u.oneCell'=true){W:World}{lo:Nat}(hlo:lo<=W.heap.size){b n c:Nat}{l:List α}(hn:l.length=n)(hs:aP lo W 254 4 enc (.slice (some ⟨b,0,none⟩) n c) l)(h0:0<n)(hroom:n+1<=c)(hn2:n<=1000000){vb:Nat}{y:α}(hy:W.heap[vb]?=some (.cells (enc y).toArray 254 (0,0)))(hvb:vb≠b):
    Calls Tryz.prog 209 #[.slice (some ⟨b,0,none⟩) n c,.int .i64 0,.slice (some ⟨vb,0,none⟩) 1 1] W (vD lo enc W (y::l)):=by
 have HF:∀f,Fence.wide.fn f:=λ_=>trivial
 obtain⟨hb,cur,jN⟩:=hs.blk (b:=b) rfl
 obtain⟨hc,hcs,htk⟩:c<=maxLen/\cur.size=c*4/\cur.toList.take (n*4)=l.flatMap enc:=by
  rcases hs.2 with⟨hv,_⟩|⟨g',cap',cur',hv,hg,hgb,h1,h2,h3,h4⟩
  .cases hv
  .cases hv
   rw[jN]at hgb
   cases hgb
   rw[hn]at h4
   exact⟨h2,h3,h4⟩
 obtain⟨Fl,SH⟩:=ay (l.flatMap enc)
 have Gb:Fl.length=n*4:=by rw[<-SH,bf he,hn]
 have hF1:∀u∈Fl,u.oneCell'=true:=by
  intro u hu
  rw[<-SH]at hu
  obtain⟨a,-,ha⟩:=ah4.1 hu
  exact h1 a u ha
 have hov:∀lb cb,(callFunc 222 #[.slice (some ⟨vb,0,none⟩) 1 1,.slice (some ⟨b,4,none⟩) lb cb]).run Tryz.prog W=.ok (.value (.bool false)) W:=λlb cb=>by
  rw[run_callFunc_extern (fn:=Tryz.f222) (by kernel_rfl) (by kernel_rfl) (by kernel_rfl) (by kernel_rfl) (e:=Extern.SlicesOverlaps.overlaps #[249,249] #[4]) (by kernel_rfl),
   Lib.run_overlaps_apart W 249 4 254 Tryz.underlying249 4 (λw=>by
    obtain⟨i,hi,hz⟩:=ahx.1 Ct
    simp[sizeOf,typeInfo,hi,hz]) ⟨vb,0,none⟩ ⟨b,4,none⟩ 1 1 lb cb hvb 254 254 4 (c*4) (by simp[World.shape?,hy,he]) (by simp[World.shape?,jN,hcs]) (by omega) (by simp[World.frozen?,hy]) (by simp[World.frozen?,hy])]
  rfl
 have hcp1:∀ty dc sc,(Builtin.copy_ #[249,249] ty #[.slice (some ⟨b,4,none⟩) n dc,.slice (some ⟨b,0,none⟩) (n+1) sc]).run Tryz.prog W.drew=.ok (goInt n) (W.drew.setCells b 4 Fl):=λty dc sc=>by
  have hmin:Nat.min (n+1) n=n:=by simp[ajL]
  have:=tZ (P:=Tryz.prog) W.drew 249 249 ty 254 4 b 4 n dc ⟨b,0,none⟩ (n+1) sc Fl Tryz.underlying249 Ct (by rw[hmin,Gb]) (λj u hj=>by
   rw[ai9,ahi]
   show World.cell? W _=_
   have hlt:=(agA.1 hj).1
   rw[<-SH,<-htk,ahT,af5 (by omega)]at hj
   simp only[World.cell?,jN]
   simpa using hj) (λj hj=>by
   show(World.cell? W _).isSome=true
   simp only[World.cell?,jN]
   rw[ah9 (by omega)];rfl) (λj hj=>by show World.frozen? W _=false;simp[World.frozen?,jN]) hF1
  rw[hmin]at this
  exact this
 obtain⟨W1,hW1⟩:=ay (W.drew.setCells b 4 Fl)
 obtain⟨cur1,hc1,hl1,hz1⟩:=jq b Fl 4 W.drew (cur:=cur) (e:=254) jN (by omega)
 rw[hW1]at hcp1 hc1
 have hg1:=eT b Fl 4 W.drew
 rw[hW1]at hg1
 have hy1:W1.heap[vb]?=some (.cells (enc y).toArray 254 (0,0)):=aI hg1 hy hvb
 have hcp2:∀ty dc,(Builtin.copy_ #[249,249] ty #[.slice (some ⟨b,0,none⟩) (n+1) dc,.slice (some ⟨vb,0,none⟩) 1 1]).run Tryz.prog W1=.ok (goInt 1) (W1.setCells b 0 (enc y)):=λty dc=>by
  have hmin:Nat.min 1 (n+1)=1:=by simp only[ajL];split<;>omega
  have:=tZ (P:=Tryz.prog) W1 249 249 ty 254 4 b 0 (n+1) dc ⟨vb,0,none⟩ 1 1 (enc y) Tryz.underlying249 Ct (by rw[hmin,he]) (λj u hj=>by
   rw[ai9,ahi]
   simp only[World.cell?,hy1]
   simpa using hj) (λj hj=>by
   simp only[World.cell?,hc1]
   rw[he]at hj
   rw[ah9 (by omega)];rfl) (λj hj=>by simp[World.frozen?,hc1]) (h1 y)
  rw[hmin]at this
  exact this
 obtain⟨W2,hW2⟩:=ay (W1.setCells b 0 (enc y))
 obtain⟨aaA,hc2,hl2,hz2⟩:=jq b (enc y) 0 W1 hc1 (by rw[he];omega)
 have hg2:=eT b (enc y) 0 W1
 rw[hW2]at hcp2 hc2 hg2
 have HR:aA (vD lo enc W (y::l) (.returned (.slice (some ⟨b,0,none⟩) (n+1) c)) W2):=ak (by
  have hd:=(af6 W.heap.size W).drew
  have hg0:W.grownBy W.drew (some b):=⟨hd.os,hd.tape,hd.output,hd.size,λk hk _=>hd.block k hk⟩
  have hg:W.grownBy W2 (some b):=aM (aM hg0 hg1) hg2
  refine⟨_,rfl,⟨by rw[bf he],.inr ⟨b,c,aaA,by rw[agc,hn],hb,hc2,by rw[agc,hn];exact hroom,hc,by rw[hz2,hz1,hcs],?_⟩⟩,jJ hg jN,bL hg hb hlo⟩
  rw[hl2,he,ah5,agH,hl1,agc,hn,agW,SH]
  have e1:(cur.toList.take 4).length=4:=by rw[agB,ah2];omega
  rw[ahj (by rw[af8,e1];omega),ahj (by rw[e1];exact af7 _),ag9 (by rw[e1];exact af7 _),agH,<-agf]
  rw[ahP (by rw[af8,he,Gb];omega),agI (by rw[af8,he,Gb];omega)])
 have hz1':¬((1:Int)=0):=by omega
 have hz2':¬((0:Int)=(n:Int)):=by omega
 have hc63:c<=9223372036854775807:=by unfold maxLen at hc;omega
 have hb0:¬(c=0):=by omega
 have hb1:¬(c=1):=by omega
 clear he h1 hlo hn hs hy hvb jN hc hcs htk SH Gb hF1 hc1 hl1 hz1 hg1 hy1 hc2 hl2 hz2 hg2 hb
 go_enter Tryz.func209,Tryz.ntmps209
 go_wp2_with (simp only[hov])
 have hwr:IntKind.i64.wrap 1=1:=by rw[agd];rfl
 have hn1:(1:Int)<=(n:Int)+1:=by omega
 have hn0:(0:Int)<=(n:Int)+1:=by omega
 refine aU uz ?_
 have T0:uz W.drew:=trivial
 refine bJ 0 1 2 3 4 5 ?_
 refine tk2 6 7 ?_
 have hrun:=hcp1 3 (c-1) c
 refine aT 8 λK hK=>?_
 simp[execOp,resolve,invoke,builtin,hrun,Result.andThen,Act.eval,Oper.uponIn]
 refine hK _ _ trivial ?_
 clear hK K hrun
 refine aO ?_
 go_wp2_with (first
  | (at_builtin;refine zO rfl _ _ rfl rfl rfl (hcp2 _ _) ?_))
 go_ret
 exact HR.o
theorem SI(he:∀a,(enc a).length=4)(h1:∀a,∀u∈enc a,u.oneCell'=true){W:World}{lo:Nat}(hlo:lo<=W.heap.size){b n c:Nat}{l:List α}(hn:l.length=n)(hs:aP lo W 254 4 enc (.slice (some ⟨b,0,none⟩) n c) l)(h0:0<n)(hroom:c<n+1)(hn2:n<=1000000){vb:Nat}{y:α}(hy:W.heap[vb]?=some (.cells (enc y).toArray 254 (0,0)))(hvb:vb≠b):
    Calls Tryz.prog 209 #[.slice (some ⟨b,0,none⟩) n c,.int .i64 0,.slice (some ⟨vb,0,none⟩) 1 1] W (vD lo enc W (y::l)):=by
 have HF:∀f,Fence.wide.fn f:=λ_=>trivial
 obtain⟨hb,cur,jN⟩:=hs.blk (b:=b) rfl
 obtain⟨hnc,hcs,htk⟩:n<=c/\cur.size=c*4/\cur.toList.take (n*4)=l.flatMap enc:=by
  rcases hs.2 with⟨hv,_⟩|⟨g',cap',cur',hv,hg,hgb,h1,h2,h3,h4⟩
  .cases hv
  .cases hv
   rw[jN]at hgb
   cases hgb
   rw[hn]at h4 h1
   exact⟨h1,h3,h4⟩
 have hbw:b<W.heap.size:=(aga.1 jN).1
 have hvw:vb<W.heap.size:=(aga.1 hy).1
 obtain⟨Fl,SH⟩:=ay (l.flatMap enc)
 have Gb:Fl.length=n*4:=by rw[<-SH,bf he,hn]
 have hF1:∀u∈Fl,u.oneCell'=true:=by
  intro u hu
  rw[<-SH]at hu
  obtain⟨a,-,ha⟩:=ah4.1 hu
  exact h1 a u ha
 obtain⟨-,i0,z,hi0,hz0,hzs,hby,hzc,-,-⟩:=m_
 obtain⟨G,hG⟩:=ay (grownCap W (n+1) c 254)
 have hG1:n+1<=G:=by rw[<-hG];exact akq W _ _ _
 have hG2:G<=maxLen:=by rw[<-hG];exact aj4 W (n+1) c _ (by unfold maxLen;omega)
 obtain⟨ROW,hROW⟩:=ay ((([]:List Value).toArray++Builtin.zeroCells z.cells (n+1)++Builtin.zeroCells z.cells (G-(n+1))))
 have hRz:ROW.size=G*4:=by
  rw[<-hROW]
  simp only[Array.size_append,ajI,hzc,hzs]
  simp only[ajA,ahX]
  have:n+1+(G-(n+1))=G:=by omega
  rw[ahi,<-aha,this]
 have hap:∀ty,(Builtin.append_ #[249,3] ty #[.slice (some ⟨b,0,none⟩) 0 c,.int .i64 ((n:Int)+1)]).run Tryz.prog W=.ok (.slice (some ⟨W.heap.size,0,none⟩) (n+1) G) (W.drew.alloc (.cells ROW 254)):=λty=>by
  have hold:(Builtin.firstCells i0.size 0 (.slice (some ⟨b,0,none⟩) 0 c)).run Tryz.prog W.drew=.ok ([]:List Value).toArray W.drew:=by
   rw[hzs]
   exact akO W.drew 4 0 ⟨b,0,none⟩ 0 c [] (by simp) (λj v hj=>by simp at hj)
  have h:=ajP W 249 3 ty 254 i0 z .i64 .i64 Tryz.underlying249 Tryz.underlying3 hi0 hz0 (some ⟨b,0,none⟩) 0 c [] hold (n+1) (by omega) (by rw[hzs];omega) (by omega) (by omega) (by rw[hby];omega) (by rw[hby,ahi];exact aki hroom (by omega))
  rw[ahi,hG,hROW]at h
  exact h
 obtain⟨W1,hW1⟩:=ay (W.drew.alloc (.cells ROW 254))
 rw[hW1]at hap
 have hc1:W1.heap[W.heap.size]?=some (.cells ROW 254 (0,0)):=by rw[<-hW1];exact aD W.drew _
 have hB1:Below W.heap.size W W1:=by rw[<-hW1];exact(af6 _ _).drew.alloc (af7 _) _
 have hy1:W1.heap[vb]?=some (.cells (enc y).toArray 254 (0,0)):=au hB1 hy
 have hcp1:∀ty dc,(Builtin.copy_ #[249,249] ty #[.slice (some ⟨W.heap.size,0,none⟩) (n+1) dc,.slice (some ⟨vb,0,none⟩) 1 1]).run Tryz.prog W1=.ok (goInt 1) (W1.setCells W.heap.size 0 (enc y)):=λty dc=>by
  have hmin:Nat.min 1 (n+1)=1:=by simp only[ajL];split<;>omega
  have:=tZ (P:=Tryz.prog) W1 249 249 ty 254 4 W.heap.size 0 (n+1) dc ⟨vb,0,none⟩ 1 1 (enc y) Tryz.underlying249 Ct (by rw[hmin,he]) (λj u hj=>by
   rw[ai9,ahi]
   simp only[World.cell?,hy1]
   simpa using hj) (λj hj=>by
   simp only[World.cell?,hc1]
   rw[he]at hj
   rw[ah9 (by omega)];rfl) (λj hj=>by simp[World.frozen?,hc1]) (h1 y)
  rw[hmin]at this
  exact this
 obtain⟨W2,hW2⟩:=ay (W1.setCells W.heap.size 0 (enc y))
 obtain⟨aaA,hc2,hl2,hz2⟩:=jq W.heap.size (enc y) 0 W1 hc1 (by rw[he];omega)
 have hg2:=eT W.heap.size (enc y) 0 W1
 rw[hW2]at hcp1 hc2 hg2
 have hb2:W2.heap[b]?=some (.cells cur 254 (0,0)):=aI hg2 (au hB1 jN) (by omega)
 have hcp2:∀ty dc sc,(Builtin.copy_ #[249,249] ty #[.slice (some ⟨W.heap.size,4,none⟩) n dc,.slice (some ⟨b,0,none⟩) n sc]).run Tryz.prog W2.drew=.ok (goInt n) (W2.drew.setCells W.heap.size 4 Fl):=λty dc sc=>by
  have hmin:Nat.min n n=n:=by simp[ajL]
  have:=tZ (P:=Tryz.prog) W2.drew 249 249 ty 254 4 W.heap.size 4 n dc ⟨b,0,none⟩ n sc Fl Tryz.underlying249 Ct (by rw[hmin,Gb]) (λj u hj=>by
   rw[ai9,ahi]
   show World.cell? W2 _=_
   have hlt:=(agA.1 hj).1
   rw[<-SH,<-htk,ahT,af5 (by omega)]at hj
   simp only[World.cell?,hb2]
   simpa using hj) (λj hj=>by
   show(World.cell? W2 _).isSome=true
   simp only[World.cell?,hc2]
   rw[ah9 (by omega)];rfl) (λj hj=>by show World.frozen? W2 _=false;simp[World.frozen?,hc2]) hF1
  rw[hmin]at this
  exact this
 obtain⟨W3,hW3⟩:=ay (W2.drew.setCells W.heap.size 4 Fl)
 obtain⟨cur3,hc3,hl3,hz3⟩:=jq W.heap.size Fl 4 W2.drew (cur:=aaA) (e:=254) hc2 (by omega)
 have hg3:=eT W.heap.size Fl 4 W2.drew
 rw[hW3]at hcp2 hc3 hg3
 have HR:aA (vD lo enc W (y::l) (.returned (.slice (some ⟨W.heap.size,0,none⟩) (n+1) G)) W3):=ak (by
  have hd:=(af6 W2.heap.size W2).drew
  have hg0:W2.grownBy W2.drew (some W.heap.size):=⟨hd.os,hd.tape,hd.output,hd.size,λk hk _=>hd.block k hk⟩
  have hbel:Below W.heap.size W W3:=hB1.grown (aM (aM hg2 hg0) hg3) hB1.size (λk e=>by cases e;exact af7 _)
  refine⟨_,rfl,⟨by rw[bf he],.inr ⟨W.heap.size,G,cur3,by rw[agc,hn],hlo,hc3,by rw[agc,hn];exact hG1,hG2,by rw[hz3,hz2,hRz],?_⟩⟩,bS.of hbel,hbel.mono hlo⟩
  rw[hl3,hl2,he,ah5,agH,agc,hn,agW,SH]
  have e1:((enc y++ROW.toList.drop (0+4)).take 4)=enc y:=by rw[ahP (by rw[he];exact af7 _),agI (by rw[he];exact af7 _)]
  rw[e1,ahP (by rw[af8,he,Gb];omega),agI (by rw[af8,he,Gb];omega)])
 have hz1':¬((1:Int)=0):=by omega
 have hz2':¬((0:Int)=(n:Int)):=by omega
 have hz3':(n:Int)+1>(c:Int):=by omega
 have hG63:G<=9223372036854775807:=by unfold maxLen at hG2;omega
 have hG0:¬(G=0):=by omega
 have hG1':¬(G=1):=by omega
 have hc0:¬(c=0):=by omega
 clear he h1 hlo hn hs hy hvb jN hcs htk SH Gb hF1 hc1 hc2 hl2 hz2 hg2 hb hbw hvw hi0 hz0 hzs hby hzc hG hROW hRz hB1 hy1 hb2 hc3 hl3 hz3 hg3
 go_enter Tryz.func209,Tryz.ntmps209
 go_wp2_with (first
  | (at_builtin;refine Lib.wpList_append_run _ rfl _ _ _ _ rfl _ _ rfl rfl _ _ (hap _) ?_)
  | (at_builtin;refine zO rfl _ _ rfl rfl rfl (hcp1 _ _) ?_))
 have hwr:IntKind.i64.wrap 1=1:=by rw[agd];rfl
 have hn1:(1:Int)<=(n:Int)+1:=by omega
 have hn0:(0:Int)<=(n:Int)+1:=by omega
 have aao:(0:Int)<=(n:Int):=by omega
 refine aU uz ?_
 have T0:uz W2.drew:=trivial
 refine bJ 0 1 2 3 4 5 ?_
 refine tk2 6 7 ?_
 have hrun:=hcp2 3 (G-1) c
 refine aT 8 λK hK=>?_
 simp[execOp,resolve,invoke,builtin,hrun,Result.andThen,Act.eval,Oper.uponIn]
 refine hK _ _ trivial ?_
 clear hK K hrun
 refine aO ?_
 go_wp2_with fail
 go_ret
 exact HR.o
theorem AU(he:∀a,(enc a).length=4)(h1:∀a,∀u∈enc a,u.oneCell'=true){W:World}{lo:Nat}(hlo:lo<=W.heap.size){v:Value}{l:List α}(hs:aP lo W 254 4 enc v l)(hl:l.length<=1000000){vb:Nat}{y:α}(hy:W.heap[vb]?=some (.cells (enc y).toArray 254 (0,0)))(hvb:v.ownBlock≠some vb):
    Calls Tryz.prog 209 #[v,.int .i64 0,.slice (some ⟨vb,0,none⟩) 1 1] W (vD lo enc W (y::l)):=by
 rcases agP l.length with h0|h0
 .have:l=[]:=ahE.1 h0
  subst this
  exact VX he h1 hlo hs hy
 .rcases hs.shape with⟨-,rfl⟩|⟨b,c,rfl,hc,hm⟩
  .simp at h0
  .have hne:vb≠b:=λe=>hvb (by rw[e];rfl)
   by_cases hr:l.length+1<=c
   .exact Pb he h1 hlo rfl hs h0 hr hl hy hne
   .exact SI he h1 hlo rfl hs h0 (by omega) hl hy hne
end
end M
end
section
open Go.RowKit Go.Lib
namespace M
attribute [local go_sem] Oper.semAt_some
theorem iQ{W:World}{p B g:Nat}(hp:iW W p B g):Calls Tryz.prog 16 #[ku p] W λe w'=>e=.returned (.pointer (some ⟨B,0,none⟩))/\w'=W:=by
 obtain⟨p0,p1⟩:=hp.cells
 clear hp
 go_enter Tryz.func16,Tryz.ntmps16
 go_wp2_with fail
 refine af_ (v:=.pointer (some ⟨B,0,none⟩)) (by simp[results,Tryz.results16,go_sem]) rfl ⟨rfl,rfl⟩
theorem kT{W:World}{p B g:Nat}(hp:iW W p B g):Calls Tryz.prog 186 #[ku p] W λe w'=>e=.returned (.pointer (some ⟨g,0,none⟩))/\w'=W:=by
 obtain⟨p0,p1⟩:=hp.cells
 clear hp
 go_enter Tryz.func186,Tryz.ntmps186
 go_wp2_with fail
 refine af_ (v:=.pointer (some ⟨g,0,none⟩)) (by simp[results,Tryz.results186,go_sem]) rfl ⟨rfl,rfl⟩
def Co(W:World)(g:Nat)(r:Ru):Prop:=W.heap[g]?=some (.cells #[.int .i64 r.kind,.int .u8 r.letter,.int .i64 r.left,.int .i64 r.right,.int .i64 r.times] 50 (0,0))
theorem Co.cells{W:World}{g:Nat}{r:Ru}(h:Co W g r):W.cell? ⟨g,0,none⟩=some (.int .i64 r.kind)/\W.cell? ⟨g,4,none⟩=some (.int .i64 r.times):=by
 unfold Co at h
 simp[World.cell?,h]
def dK:Sy->Nat
 | .pw _ k=>k
 |_=>2
theorem zN{y:Sy}{n:Nat}(h:n<aQ y):dK y=(aZ y).length:=by
 cases y with
 |lt c=>exact absurd h (aiw _)
 |pr l r=>rfl
 |pw x k=>show k=(List.replicate k x).length;rw[ahF]
theorem EG{W:World}(E:List En)(y:Sy):Calls Tryz.prog 185 #[qN (yP E y)] W λe w'=>e=.returned (vI (dK y))/\Below W.heap.size W w':=by
 obtain⟨⟨kd,lt,l,r,tm⟩,hr⟩:∃r,yP E y=r:=⟨_,rfl⟩
 rw[hr]
 obtain⟨W1,hW1⟩:=ay (W.alloc (.cells #[.int .i64 kd,.int .u8 lt,.int .i64 l,.int .i64 r,.int .i64 tm] 50))
 have k1:Co W1 W.heap.size ⟨kd,lt,l,r,tm⟩:=by rw[<-hW1];exact aD _ _
 have b1:Below W.heap.size W W1:=by rw[<-hW1];exact(af6 _ _).alloc (af7 _) _
 obtain⟨c0,c4⟩:=k1.cells
 have B1:=ak b1
 by_cases h3:kd=3
 .have hw:dK y=tm:=by
   cases y with
   |lt b=>injection hr with h1;omega
   |pr a b=>injection hr with h1;omega
   |pw x k=>injection hr
  rw[hw]
  clear hw hr k1 b1
  subst h3
  replace hW1:W.alloc (.cells #[.int .i64 3,.int .u8 lt,.int .i64 l,.int .i64 r,.int .i64 tm] 50)=W1:=hW1
  replace c0:W1.cell? ⟨W.heap.size,0,none⟩=some (.int .i64 3):=c0
  show Calls _ _ #[.agg #[.int .i64 3,.int .u8 lt,.int .i64 l,.int .i64 r,.int .i64 tm]] W _
  go_enter Tryz.func185,Tryz.ntmps185
  go_wp2_with fail
  refine af_ (v:=.int .i64 tm) (by simp[results,Tryz.results185,go_sem]) rfl ⟨rfl,B1.o⟩
 .have hw:dK y=2:=by
   cases y with
   |lt b=>rfl
   |pr a b=>rfl
   |pw x k=>injection hr with h1;omega
  rw[hw]
  clear hw hr k1 b1
  have l3:¬(kd:Int)=3:=by omega
  go_enter Tryz.func185,Tryz.ntmps185
  go_wp2_with fail
  refine af_ (v:=.int .i64 2) (by simp[results,Tryz.results185,go_sem]) rfl ⟨rfl,B1.o⟩
theorem Sz(W:World)(i kd lt l r tm lv h:Nat):∃W1,W.alloc (.cells #[.int .i64 i,.int .i64 kd,.int .u8 lt,.int .i64 l,.int .i64 r,.int .i64 tm,.int .i64 lv,.int .i64 h] 289)=W1/\Below W.heap.size W W1/\
    W1.cell? ⟨W.heap.size,1,none⟩=some (.int .i64 kd)/\W1.cell? ⟨W.heap.size,3,none⟩=some (.int .i64 l)/\W1.cell? ⟨W.heap.size,4,none⟩=some (.int .i64 r)/\W1.cell? ⟨W.heap.size,7,none⟩=some (.int .i64 h):=by
 have k:=aD W (.cells #[.int .i64 i,.int .i64 kd,.int .u8 lt,.int .i64 l,.int .i64 r,.int .i64 tm,.int .i64 lv,.int .i64 h] 289)
 exact⟨_,rfl,(af6 _ _).alloc (af7 _) _,by simp only[World.cell?,k];rfl,by simp only[World.cell?,k];rfl,by simp only[World.cell?,k];rfl,by simp only[World.cell?,k];rfl⟩
theorem EH{W:World}(E:List En){y:Sy}{h:Nat}(b:Bool)(h1:1<=h)(h2:h<=(aZ y).length):Calls Tryz.prog 177 #[frV E y h,.bool b] W λe w'=>e=.returned (vI (num E (AA b y h)))/\Below W.heap.size W w':=by
 cases y with
 |lt c=>exact absurd (af9 h1 h2) (aiw _)
 |pr a c=>
  have h2':h<=2:=h2
  show Calls _ _ #[.agg #[.int .i64 (num E (.pr a c):Nat),.int .i64 2,.int .u8 0,.int .i64 (num E a:Nat),.int .i64 (num E c:Nat),.int .i64 0,.int .i64 (aQ (.pr a c):Nat),.int .i64 (h:Nat)],.bool b] W _
  obtain⟨i,hi⟩:=ay (num E (.pr a c))
  obtain⟨lv,hlv⟩:=ay (aQ (.pr a c))
  rw[hi,hlv]
  obtain⟨W1,hW1,b1,c1,c3,c4,c7⟩:=Sz W i 2 0 (num E a) (num E c) 0 lv h
  replace c1:W1.cell? ⟨W.heap.size,1,none⟩=some (.int .i64 2):=c1
  have hW1':W.alloc (.cells #[.int .i64 i,.int .i64 2,.int .u8 0,.int .i64 (num E a:Nat),.int .i64 (num E c:Nat),.int .i64 0,.int .i64 lv,.int .i64 h] 289)=W1:=hW1
  clear hW1
  have B1:=ak b1
  clear b1 hi hlv h2
  have hh:h=1\/h=2:=by omega
  obtain⟨na,hna⟩:=ay (num E a)
  obtain⟨nc,hnc⟩:=ay (num E c)
  have HN:=ak (And.intro hna hnc)
  rw[hna,hnc]at hW1'
  rw[hna]at c3⊢
  rw[hnc]at c4⊢
  clear hna hnc
  rcases hh with rfl|rfl<;>cases b
  .replace c7:W1.cell? ⟨W.heap.size,7,none⟩=some (.int .i64 1):=c7
   replace hW1':W.alloc (.cells #[.int .i64 i,.int .i64 2,.int .u8 0,.int .i64 na,.int .i64 nc,.int .i64 0,.int .i64 lv,.int .i64 1] 289)=W1:=hW1'
   go_enter Tryz.func177,Tryz.ntmps177
   go_wp2_with fail
   exact af_ (v:=.int .i64 na) (by simp[results,Tryz.results177,go_sem]) rfl ⟨by rw[<-HN.o.1];rfl,B1.o⟩
  .replace c7:W1.cell? ⟨W.heap.size,7,none⟩=some (.int .i64 1):=c7
   replace hW1':W.alloc (.cells #[.int .i64 i,.int .i64 2,.int .u8 0,.int .i64 na,.int .i64 nc,.int .i64 0,.int .i64 lv,.int .i64 1] 289)=W1:=hW1'
   go_enter Tryz.func177,Tryz.ntmps177
   go_wp2_with fail
   exact af_ (v:=.int .i64 nc) (by simp[results,Tryz.results177,go_sem]) rfl ⟨by rw[<-HN.o.2];rfl,B1.o⟩
  .replace c7:W1.cell? ⟨W.heap.size,7,none⟩=some (.int .i64 2):=c7
   replace hW1':W.alloc (.cells #[.int .i64 i,.int .i64 2,.int .u8 0,.int .i64 na,.int .i64 nc,.int .i64 0,.int .i64 lv,.int .i64 2] 289)=W1:=hW1'
   go_enter Tryz.func177,Tryz.ntmps177
   go_wp2_with fail
   exact af_ (v:=.int .i64 nc) (by simp[results,Tryz.results177,go_sem]) rfl ⟨by rw[<-HN.o.2];rfl,B1.o⟩
  .replace c7:W1.cell? ⟨W.heap.size,7,none⟩=some (.int .i64 2):=c7
   replace hW1':W.alloc (.cells #[.int .i64 i,.int .i64 2,.int .u8 0,.int .i64 na,.int .i64 nc,.int .i64 0,.int .i64 lv,.int .i64 2] 289)=W1:=hW1'
   go_enter Tryz.func177,Tryz.ntmps177
   go_wp2_with fail
   exact af_ (v:=.int .i64 na) (by simp[results,Tryz.results177,go_sem]) rfl ⟨by rw[<-HN.o.1];rfl,B1.o⟩
 |pw x k=>
  show Calls _ _ #[.agg #[.int .i64 (num E (.pw x k):Nat),.int .i64 3,.int .u8 0,.int .i64 (num E x:Nat),.int .i64 0,.int .i64 (k:Nat),.int .i64 (aQ (.pw x k):Nat),.int .i64 (h:Nat)],.bool b] W _
  obtain⟨i,hi⟩:=ay (num E (.pw x k))
  obtain⟨lv,hlv⟩:=ay (aQ (.pw x k))
  rw[hi,hlv]
  obtain⟨W1,hW1,b1,c1,c3,c4,c7⟩:=Sz W i 3 0 (num E x) 0 k lv h
  replace c1:W1.cell? ⟨W.heap.size,1,none⟩=some (.int .i64 3):=c1
  have hW1':W.alloc (.cells #[.int .i64 i,.int .i64 3,.int .u8 0,.int .i64 (num E x:Nat),.int .i64 0,.int .i64 k,.int .i64 lv,.int .i64 h] 289)=W1:=hW1
  have B1:=ak b1
  clear hW1 b1 hi hlv h2 c4
  show Calls _ _ _ W λe w'=>e=.returned (vI (num E x))/\_
  generalize num E x=na at hW1' c3⊢
  go_enter Tryz.func177,Tryz.ntmps177
  go_wp2_with fail
  exact af_ (v:=.int .i64 na) (by simp[results,Tryz.results177,go_sem]) rfl ⟨rfl,B1.o⟩
end M
end
end Go.Proofs.YtgbhohfabhilgaaGreatDoor
