import Derived.Test.YtgbhohfabhilgaaGreatDoorBase00
set_option maxRecDepth 100000
set_option maxHeartbeats 8000000
set_option linter.unusedVariables false
set_option linter.unusedSimpArgs false
namespace Go.Proofs.YtgbhohfabhilgaaGreatDoor
section
open Go.RowKit
variable{B₀:Nat}{α:Type}{e:TypeId}{v:Value}{W:World}
def aP{α:Type}(B₀:Nat)(W:World)(e:TypeId)(size:Nat)(enc:α->List Value)(v:Value)(l:List α):Prop:=
 W.ownsRow B₀ e size v l.length (l.flatMap enc)
theorem bf{enc:α->List Value}{size:Nat}(he:∀a,(enc a).length=size)(l:List α):(l.flatMap enc).length=l.length*size:=by
 induction l with
 |nil=>simp
 |cons a l ih=>simp only[agW,af8,he,ih,agc,aha];omega
theorem nQ{α:Type}{enc:α->List Value}{size:Nat}(he:∀a,(enc a).length=size):∀(l:List α) (i j:Nat) (hi:i<l.length),j<size->(l.flatMap enc)[i*size+j]?=(enc l[i])[j]?
 |a::l,0,j,_,hj=>by
  simp only[agW,aiS,ahi,ajq]
  rw[agV (by rw[he];exact hj)]
 |a::l,i+1,j,hi,hj=>by
  simp only[agW,List.getElem_cons_succ]
  rw[agN (by rw[he,aha];omega),he]
  rw[show(i+1)*size+j-size=i*size+j by rw[aha];omega]
  exact nQ he l i j (by simpa using hi) hj
theorem aP.nil(B₀:Nat)(W:World)(e:TypeId)(size:Nat)(enc:α->List Value):aP B₀ W e size enc (.slice none 0 0) []:=World.ownsRow_nil W B₀ e size
theorem aP.mono{B₁:Nat}{size:Nat}{enc:α->List Value}{l:List α}(h:aP B₁ W e size enc v l)(hb:B₀<=B₁):aP B₀ W e size enc v l:=by
 refine⟨h.1,?_⟩;rcases h.2 with hn|⟨g,cap,cur,hv,hg,rest⟩
 .exact .inl hn
 exact .inr ⟨g,cap,cur,hv,af9 hb hg,rest⟩
theorem aP.below{A B:World}{size:Nat}{enc:α->List Value}{l:List α}(h:aP B₀ A e size enc v l)(hb:Below A.heap.size A B):aP B₀ B e size enc v l:=
 ajz (row:=none) h ⟨hb.os,hb.tape,hb.output,hb.size,λk hk _=>hb.block k hk⟩ (by cases v.ownBlock<;>simp)
theorem aP.setCell{α:Type}{B₀:Nat}{W:World}{e:TypeId}{size:Nat}{enc:α->List Value}{v:Value}{l:List α}(h:aP B₀ W e size enc v l){a:Addr}(u:Value){cs:Array Value}{t:TypeId}{fz:Nat×Nat}(hb:W.heap[a.block]?=some (.cells cs t fz))(ht:t≠e):aP B₀ (W.setCell a u) e size enc v l:=by
 refine ajz (row:=some a.block) h ⟨rfl,rfl,rfl,by simp[World.setCell],λk _ hk=>agU _ _ _ k (λe=>hk (by rw[e]))⟩ ?_;rcases h.2 with⟨rfl,_⟩|⟨g,cap,cur,rfl,_,hgg,_⟩
 .left;rfl
 right;intro e';obtain rfl:g=a.block:=by simpa[Value.ownBlock]using e'
 rw[hgg]at hb;simp at hb;exact ht hb.2.1.symm
theorem aP.shape{size:Nat}{enc:α->List Value}{l:List α}(h:aP B₀ W e size enc v l):(v=.slice none 0 0/\l=[])\/∃g cap,v=.slice (some ⟨g,0,none⟩) l.length cap/\l.length<=cap/\cap<=maxLen:=by
 rcases h.2 with⟨hv,hn⟩|⟨g,cap,cur,hv,_,_,h1,h2,_⟩
 .exact .inl ⟨hv,ahw hn⟩
 exact .inr ⟨g,cap,hv,h1,h2⟩
theorem aP.cell{α:Type}{B₀:Nat}{W:World}{e:TypeId}{size:Nat}{enc:α->List Value}(he:∀a,(enc a).length=size){g cap n:Nat}{l:List α}(h:aP B₀ W e size enc (.slice (some ⟨g,0,none⟩) n cap) l)
    {i:Nat} (hi:i<l.length) {j:Nat} (hj:j<size):W.cell? ⟨g,i*size+j,none⟩=(enc l[i])[j]?:=by
 have hc:=ait h (g:=g) rfl (i*size+j) ((enc l[i])[j]'(by rw[he];exact hj)) (by rw[nQ he l i j hi hj];exact agt _);rw[agt (by rw[he];exact hj),<-hc];congr 1;unfold Addr.add;split<;>simp_all
theorem aP.len{size:Nat}{enc:α->List Value}{l:List α}(h:aP B₀ W e size enc v l):∃a cap,v=.slice a l.length cap:=by
 rcases h.shape with⟨rfl,rfl⟩|⟨g,cap,rfl,_⟩
 .exact⟨_,_,rfl⟩
 exact⟨_,_,rfl⟩
theorem aP.append{W':World}{size:Nat}{enc:α->List Value}{v':Value}{l:List α}{n m:Nat}{xs:List Value}{l2:List α}(h:W'.ownsRow B₀ e size v' (n+m) (l.flatMap enc++xs))(hn:n=l.length)(hm:m=l2.length)(hx:xs=l2.flatMap enc):
    aP B₀ W' e size enc v' (l++l2):=by
 subst hn hm hx;unfold aP;rw[af8,ag_];exact h
def Elem(P:Program)(t e:TypeId)(size bytes:Nat):Prop:=
 P.underlying t=some (.slice e)/\∃i z,P.info? e=some i/\i.zero=some z/\i.size=size/\i.bytes=bytes/\z.cells.size=size/\0<size/\0<bytes
theorem gP{P:Program}{t:TypeId}{z:Value}{size bytes:Nat}(ht:P.underlying t=some (.slice e))(h:(P.info? e).map (λi=>(i.zero,i.size,i.bytes))=some (some z,size,bytes))(hz:z.cells.size=size)(h0:0<size)(h1:0<bytes):Elem P t e size bytes:=by
 obtain⟨i,hi,hzz⟩:=ahx.1 h;simp only[agX]at hzz;exact⟨ht,i,z,hi,hzz.1,hzz.2.1,hzz.2.2,hz,h0,h1⟩
end
section
variable {F:Fence} {n:Nat} {P:Program} {ops:Array Oper} {Q:Exit->Act->World->Prop} {S:World->Prop}
variable{a:Act}{listed:Array Bool}{i j k:Nat}{o oi:Oper}{v:Value}{w:World}
def Zd(ops:Array Oper):Nat->Nat->Nat->Bool
 |0,_,_=>false
 |k+1,j,i=>match ops[j]? with
  |none=>false
  |some o=>o.after.any λe=>Region.binds .any e&&(e.on==i || Zd ops k e.on i)
def Down(ops:Array Oper)(listed:Array Bool):Prop:=∀(j:Nat) (o:Oper),ops[j]?=some o->listed.getD j true=true->∀e∈o.after,Region.binds .any e=true->listed.getD e.on false=true
def bar(ops:Array Oper)(listed:Array Bool)(i:Nat):Bool:=(List.range ops.size).all λj=> !listed.getD j true || Zd ops ops.size i j
theorem A9{listed:Array Bool}(hd:Down ops listed):∀(k j i:Nat),Zd ops k j i=true->listed.getD j true=true->listed.getD i false=true
 |0,_,_,h,_=>by cases h
 |k+1,j,i,h,hj=>by
  unfold Zd at h
  split at h
  .cases h
  .rename_i o ho
   obtain⟨e,he,h⟩:=Array.any_eq_true'.1 h
   simp only[agy,ajF,ahf]at h
   have h1:=hd j o ho hj e he h.1
   rcases h.2 with rfl|h2
   .exact h1
   .refine A9 hd k e.on i h2 ?_
    rw[ahZ]at h1⊢
    cases hx:listed[e.on]? with
    |none=>rfl
    |some x=>rw[hx]at h1;exact h1
theorem Dy(hd:Down ops listed)(h:Zd ops k j i=true)(hi:listed.getD i true=false)(hi2:i<listed.size):j∉Region.ready .any ops listed:=by
 intro hr;obtain⟨_,o,ho,hall⟩:=aje.1 hr;have hi3:listed.getD i false=false:=by
  rw[ahZ]at hi⊢;rw[ah9 hi2]at hi⊢;exact hi
 cases k with
 |zero=>cases h
 |succ k=>
  unfold Zd at h;rw[ho]at h;obtain⟨e,he,h⟩:=Array.any_eq_true'.1 h;simp only[agy,ajF,ahf]at h;have h1:=hall e he h.1;rcases h.2 with rfl|h2
  .rw[h1]at hi3;cases hi3
  have h1':listed.getD e.on true=true:=by
   rw[ahZ]at h1⊢;cases hx:listed[e.on]? with
   |none=>rfl
   |some x=>rw[hx]at h1;exact h1
  have:=A9 hd k e.on i h2 h1';rw[this]at hi3;cases hi3
theorem Down.set(hd:Down ops listed)(hr:j∈Region.ready .any ops listed):Down ops (listed.setIfInBounds j true):=by
 intro m o hm hl e he hb;have mono:listed.getD e.on false=true->(listed.setIfInBounds j true).getD e.on false=true:=λh=>by
  by_cases x:j=e.on
  .rw[x];have hlt:e.on<listed.size:=by
    rcases aja e.on listed.size with h'|h'
    .exact h'
    rw[ahZ,aia h']at h;cases h
   simp[hlt]
  rw[akp false x];exact h
 by_cases x:j=m
 .subst x;obtain⟨_,o',ho',hall⟩:=aje.1 hr;rw[ho']at hm;cases hm;exact mono (hall e he hb)
 rw[akp true x]at hl;exact mono (hd m o hm hl e he hb)
theorem kG:Down ops (Array.replicate ops.size false):=by
 intro j o hj hl;have:j<ops.size:=(aga.1 hj).1;simp[this]at hl
def aJ(F:Fence)(n:Nat)(P:Program)(ops:Array Oper)(Q:Exit->Act->World->Prop)(S:World->Prop):Nat->Array Bool->Act->World->Prop
 |0,listed,a,w=>Region.ready .any ops listed=[]/\Q .normal a w
 |k + 1, listed, a, w => (Region.ready .any ops listed = [] -> Q .normal a w) /\
     ∀i∈Region.ready .any ops listed,wpOpIn F n P ops Q i (λa' w'=>(S w'/\aJ F n P ops Q S k (listed.setIfInBounds i true) a' w')\/
      (bar ops listed i=true/\wpAnyIn F n P .any ops Q k (listed.setIfInBounds i true) a' w')) a w
theorem aJ.any:∀(k:Nat) {listed:Array Bool} {a:Act} {w:World},aJ F n P ops Q S k listed a w->wpAnyIn F n P .any ops Q k listed a w
 |0,_,_,_,h=>h
 |k+1,_,_,_,h=>⟨h.1,λi hi=>ajN (λ_ _ x=>x.elim (λy=>aJ.any k y.2) (λy=>y.2)) (h.2 i hi)⟩
theorem Hq(hF:∀f,F.fn f)(hro:F.round=none\/∀c,o.op≠ .defer c)(hi:ops[i]?=some o)(hy:YieldsIf P ops S o v a){K:Act->World->Prop}(hS:S w)(h:K (a.put o.dst v) w):wpOpIn F n P ops Q i K a w:=by
 have hab:∀f,o.about P w a.eval=some f->F.fn f:=λf _=>hF f;have UJ:o.semAt F.round a.eval=execOp a.eval o:=by
  rcases hro with h|h
  .rw[h];rfl
  exact aip _ _ _ h
 unfold wpOpIn;rw[hi];rcases hy with⟨hw,hv⟩|⟨hw,rfl⟩
 .simp only[hw,ahv,Oper.wpIn,UJ,hv w hS,Oper.uponIn];exact⟨hab,h⟩
 simp only[hw,aii,ahu];exact⟨hab,h⟩
theorem D8(hy:YieldsIf P ops S o v a)(hs:∀cs b,o.op≠ .select cs b)(dst:Option Tmp)(u:Value)(h:∀d,dst=some d->d∉o.looksAt ops):YieldsIf P ops S o v (a.put dst u):=
 hy.of_same (execOp_put o hs a dst u h) (wanted_put o a dst u h)
theorem Kc(hF:∀f,F.fn f){oj:Oper}(hnd:F.round=none\/∀c,oj.op≠ .defer c)(hj:ops[j]?=some oj)(hap:oi.apart ops oj=true)(hsi:∀cs b,oi.op≠ .select cs b)(hsj:∀cs b,oj.op≠ .select cs b)
    (hQ:∀c a w,Q (.panic c) (a.put oi.dst v) w->Q (.panic c) a w) {K:Act->World->Prop} {a:Act} {w:World} (hy:YieldsIf P ops S oi v a) (h:wpOpIn F n P ops Q j K (a.put oi.dst v) w):
    wpOpIn F n P ops Q j (λa' w'=>YieldsIf P ops S oi v a'/\K (a'.put oi.dst v) w') a w:=by
 obtain⟨h1,h2,h3⟩:=Oper.apart_spec hap;have hk:∀u,YieldsIf P ops S oi v (a.put oj.dst u):=λu=>D8 hy hsi oj.dst u h3;have hkd:∀d u,YieldsIf P ops S oi v (({ a with defers:=d::a.defers }:Act).put oj.dst u):=λd u=>
  D8 (a:={ a with defers:=d::a.defers }) (hy.of_same rfl rfl) hsi oj.dst u h3
 have UJ:∀a:Act,oj.semAt F.round a.eval=execOp a.eval oj:=λa=>by
  rcases hnd with h|h
  .rw[h];rfl
  exact aip _ _ _ h
 have hcomm:∀u,(a.put oi.dst v).put oj.dst u=(a.put oj.dst u).put oi.dst v:=λu=>(Act.put_comm a v u h2);unfold wpOpIn at *;rw[hj]at *;dsimp only at *;rw[wanted_put oj a oi.dst v h1]at h;by_cases hw:Region.wanted oj (yielded ops a.tmps)=true
 .rw[af5 hw]at h⊢;unfold Oper.wpIn at *;rw[UJ,execOp_put oj hsj a oi.dst v h1]at h;rw[UJ];refine⟨λf _=>hF f,?_⟩;have h':=h.2;revert h';generalize(execOp a.eval oj).run P w=r;intro h';cases r with
  |halt x w'=>cases x<;>first|exact h'|exact hQ _ _ _ h'
  |ok x w'=>
   cases x<;>first
    |exact h'
    | (refine⟨hk _,?_⟩;have e:=h';simp only[Oper.uponIn]at e;rw[hcomm]at e;exact e)
    | (refine⟨hkd _ _,?_⟩
       have e:=h';simp only[Oper.uponIn]at e;rw[<-Act.put_comm _ v undef h2,<-Act.put_defers];exact e)
    |exact⟨h'.1,CallsIn.mono h'.2 λe w'' he=>by
        cases e with
        |returned u=>exact⟨hk u,by rw[<-hcomm];exact he⟩
        |panicked c=>exact hQ _ _ _ he
        |outgrown=>exact he⟩
    |exact⟨h'.1,RowsIn.mono h'.2 λu w'' he=>⟨hk u,by rw[<-hcomm];exact he⟩⟩
    |exact⟨h'.1,RoundIn.mono h'.2 λe w'' he=>by
        cases e with
        |returned u=>exact⟨hk u,by rw[<-hcomm];exact he⟩
        |panicked c=>exact hQ _ _ _ he
        |outgrown=>exact he⟩
 rw[af4 hw]at h⊢;exact⟨λf _=>hF f,hk _,by rw[<-hcomm];exact h.2⟩
theorem aJ.first(hF:∀f,F.fn f)(hnd:F.round=none\/∀(j:Nat) (o:Oper),ops[j]?=some o->∀c,o.op≠ .defer c)(hi:ops[i]?=some oi)(hsel:∀(j:Nat) (o:Oper) cs b,ops[j]?=some o->o.op≠ .select cs b)(hQ:∀c a w,Q (.panic c) (a.put oi.dst v) w->Q (.panic c) a w):
    ∀(k:Nat) (listed:Array Bool) (a:Act) (w:World),
     Down ops listed->(∀j oj,ops[j]?=some oj->j≠i->listed.getD j true=false->(∀e∈oj.after,Region.binds .any e=true->e.on≠i)->oi.apart ops oj=true)->
     i∈Region.ready .any ops listed->YieldsIf P ops S oi v a->S w->aJ F n P ops Q S k (listed.setIfInBounds i true) (a.put oi.dst v) w->aJ F n P ops Q S (k+1) listed a w:=by
 have hnd':∀(j:Nat) (o:Oper),ops[j]?=some o->(F.round=none\/∀c,o.op≠ .defer c):=λj o hj=>hnd.imp id λh=>h j o hj;intro k
 induction k with
 |zero=>
  intro listed a w hdn _ hr hy hS H;refine⟨λh=>absurd (h▸hr) (by simp),λj hj=>?_⟩;by_cases e:j=i
  .subst e;exact Hq hF (hnd' _ _ hi) hi hy hS (.inl ⟨hS,H⟩)
  have:=ready_mono hj e;rw[H.1]at this;cases this
 |succ k ih=>
  intro listed a w hdn hfree hr hy hS H;refine⟨λh=>absurd (h▸hr) (by simp),λj hj=>?_⟩;by_cases e:j=i
  .subst e;exact Hq hF (hnd' _ _ hi) hi hy hS (.inl ⟨hS,H⟩)
  obtain⟨hun,oj,hoj,hall⟩:=aje.1 hj;have hnot:∀e∈oj.after,Region.binds .any e=true->e.on≠i:=λe he hb heq=>by
   have x1:=hall e he hb;have x0:=(aje.1 hr).1;rw[heq]at x1;by_cases hb:i<listed.size
   .simp[hb]at x0 x1;rw[x0]at x1;cases x1
   simp[aia (Nat.le_of_not_lt hb)]at x1
  have h2:=Kc hF (hnd' _ _ hoj) hoj (hfree j oj hoj e hun hnot) (λcs b=>hsel i oi cs b hi) (λcs b=>hsel j oj cs b hoj) hQ hy (H.2 j (ready_mono hj e));have hir:=aje.1 hr;have hin:i<listed.size:=by
   rcases aja i listed.size with h|h
   .exact h
   have:=hir.1;simp[aia h]at this
  refine ajN (λa' w' x=>?_) h2;rcases x.2 with y|y
  .refine .inl ⟨y.1,ih _ a' w' (hdn.set hj) (λm om hm hmi hmu hmn=>?_) (ready_mono hr (Ne.symm e)) x.1 y.1 ?_⟩
   .refine hfree m om hm hmi ?_ hmn;by_cases ej:j=m
    .subst ej;exact hun
    rw[akp true ej]at hmu;exact hmu
   rw[Array.setIfInBounds_comm _ _ e];exact y.2
  exfalso;have hb:=y.1;unfold bar at hb;have Dp:i<ops.size:=(aga.1 hi).1;have:=agS.1 hb i (ahN.2 Dp);have hl:(listed.setIfInBounds i true).getD i true=true:=by simp[ahZ,hin]
  rw[hl]at this;exact Dy hdn (k:=ops.size) (by simpa using this) hir.1 hin hj
def nR(ops:Array Oper):Bool:=ops.all λo=>match o.op with | .defer _=>false|_=>true
theorem gQ(h:nR ops=true):∀(j:Nat) (o:Oper),ops[j]?=some o->∀c,o.op≠ .defer c:=by
 intro j o hj c e;obtain⟨hlt,rfl⟩:=aga.1 hj;have:=Array.all_eq_true.1 h j hlt;rw[e]at this;cases this
def Xi(ops:Array Oper)(listed:Array Bool):Bool:=(List.range ops.size).all λj=>match ops[j]? with
 |none=>true
 |some o=> !listed.getD j true || o.after.all λe=> !Region.binds .any e || listed.getD e.on false
theorem Ke(h:Xi ops listed=true):Down ops listed:=by
 intro j o hj hl e he hb;have h1:=agS.1 h j (ahN.2 (aga.1 hj).1);rw[hj]at h1;simp only[hl,ajJ,aix]at h1;have h2:=Array.all_eq_true'.1 h1 e he;rw[hb]at h2;simpa using h2
def dP(ops:Array Oper)(listed:Array Bool)(i:Nat):Bool:=Xi ops listed&&nR ops&&Region.noSelect ops&&Region.free .any ops listed i&&(Region.ready .any ops listed).contains i
theorem aJ.take{d:Option Tmp}(hc:dP ops listed i=true)(hi:ops[i]?=some oi)(hd:oi.dst=d)(hF:∀f,F.fn f)
    (hQ:∀c a w,Q (.panic c) (a.put d v) w->Q (.panic c) a w) (hy:YieldsIf P ops S oi v a) (hS:S w) (h:aJ F n P ops Q S k (listed.setIfInBounds i true) (a.put d v) w):aJ F n P ops Q S (k+1) listed a w:=by
 subst hd;unfold dP at hc;simp only[agy]at hc;obtain⟨⟨⟨⟨h0,h1⟩,h2⟩,h3⟩,h4⟩:=hc;exact aJ.first hF (.inr (gQ h1)) hi (aj1 h2) hQ k listed a w (Ke h0) (Region.free_spec hi h3) (by simpa using h4) hy hS h
theorem aJ.one(hr:(Region.ready .any ops listed ==[i])=true)(hd:nR ops=true)(hi:ops[i]?=some oi)(hF:∀f,F.fn f)(hw:Region.wanted oi (yielded ops a.tmps)=true)
    (h:∀K:Act->World->Prop,(∀a w,S w->aJ F n P ops Q S k (listed.setIfInBounds i true) a w->K a w)->oi.uponIn F n P a K Q ((execOp a.eval oi).run P w)):
    aJ F n P ops Q S (k+1) listed a w:=by
 have hr:Region.ready .any ops listed=[i]:=by simpa using hr
 refine⟨λh0=>(by rw[hr]at h0;cases h0),λj hj=>?_⟩;rw[hr]at hj;obtain rfl:j=i:=by simpa using hj
 refine ajO hi λK hK=>?_;rw[af5 hw];refine⟨λf _=>hF f,?_⟩;rw[aip _ _ _ (gQ hd _ _ hi)];exact h K λa w hS hA=>hK a w (.inl ⟨hS,hA⟩)
theorem aJ.wall(hr:(Region.ready .any ops listed ==[i]&&bar ops listed i&&nR ops)=true)(hi:ops[i]?=some oi)(hF:∀f,F.fn f)(hw:Region.wanted oi (yielded ops a.tmps)=true)
    (h:∀K:Act->World->Prop,(∀(S':World->Prop) a w,aJ F n P ops Q S' k (listed.setIfInBounds i true) a w->K a w)->oi.uponIn F n P a K Q ((execOp a.eval oi).run P w)):
    aJ F n P ops Q S (k+1) listed a w:=by
 simp only[agy]at hr;have hd:=hr.2;have hb:=hr.1.2;have hr:Region.ready .any ops listed=[i]:=by simpa using hr.1.1
 refine⟨λh0=>(by rw[hr]at h0;cases h0),λj hj=>?_⟩;rw[hr]at hj;obtain rfl:j=i:=by simpa using hj
 refine ajO hi λK hK=>?_;rw[af5 hw];refine⟨λf _=>hF f,?_⟩;rw[aip _ _ _ (gQ hd _ _ hi)];exact h K λS' a w hA=>hK a w (.inr ⟨hb,aJ.any k hA⟩)
theorem aJ.done(hr:Region.ready .any ops listed=[])(h:Q .normal a w):aJ F n P ops Q S k listed a w:=by
 cases k with
 |zero=>exact⟨hr,h⟩
 |succ k=>exact⟨λ_=>h,by rw[hr];simp⟩
theorem oK{id:Nat}{l:List Oper}(S:World->Prop)(hm:P.follows .mixedOrders=true)(h:aJ F n P l.toArray Q S l.length (Array.replicate l.length false) a w.drew):(Code.region id l.toArray true).wpIn F n P Q a w:=
 wpIn_region_any hm (aJ.any _ (by simpa using h))
end
theorem qX{P:Program}{Q:Exit->Act->World->Prop}{id:Nat}{l:List Oper}{a:Act}{w:World}(S:World->Prop)(hm:P.follows .mixedOrders=true)(h:aJ Fence.wide 0 P l.toArray Q S l.length (Array.replicate l.length false) a w.drew):(Code.region id l.toArray true).wp P Q a w:=
 (wpIn_wide (n:=0)).1 (oK S hm h)
section
open Go.RowKit
variable{B B₀ k:Nat}{α:Type}{e t:TypeId}{v:Value}{A C w w':World}
def Ao(B:Nat)(A:World)(row:Option Nat):Prop:=∀r,row=some r->B<=r/\∃o:Obj,A.heap[r]?=some o/\o.isCells=false
theorem yh{row:Option Nat}(hg:A.grownBy C row)(hr:Ao B A row){cs:Array Value}{fz:Nat×Nat}(h:A.heap[k]?=some (.cells cs t fz)):C.heap[k]?=some (.cells cs t fz):=by
 rw[hg.block k (aga.1 h).1 (λe=>?_)]
 .exact h
 obtain⟨-,o,ho,hc⟩:=hr k e.symm;rw[h]at ho;cases ho;cases hc
theorem UK{row:Option Nat}(hg:A.grownBy C row)(hr:Ao B A row){size:Nat}{enc:α->List Value}{l:List α}(h:aP B₀ A e size enc v l):aP B₀ C e size enc v l:=by
 refine ajz h hg ?_;rcases h.2 with⟨rfl,_⟩|⟨g,cap,cur,rfl,_,hgb,_⟩
 .exact .inl rfl
 right;intro e';obtain⟨-,o,ho,hc⟩:=hr g (by simpa[Value.ownBlock]using e'.symm);rw[hgb]at ho;cases ho;cases hc
theorem own_below{n₀:Nat}{w₀:World}{row:Option Nat}(hg:A.grownBy C row)(hr:Ao B A row)(hn:n₀<=w₀.heap.size)(hB:n₀<=B)(h:Below n₀ w₀ A):Below n₀ w₀ C:=
 h.grown hg (af9 hn h.size) (λk e=>af9 hB (hr k e).1)
theorem vZ(h:Below A.heap.size A C):KeepsOthers A C:=⟨h.size,λk o hk _=>by rw[h.block k (aga.1 hk).1];exact hk⟩
theorem g_{w0:World}{size:Nat}{enc:α->List Value}{l:List α}{cs cs':Array Value}{fz:Nat×Nat}(hS:aP B₀ w0 e size enc v l)(hg:(w0.alloc (.cells cs e)).grownBy w' v.ownBlock)(h:w0.heap[k]?=some (.cells cs' t fz))(ht:t≠e):w'.heap[k]?=some (.cells cs' t fz):=by
 have hk:=(aga.1 h).1;rw[hg.block k (by simp;omega) ?_,ahM _ _ _ hk]
 .exact h
 rcases hS.2 with⟨rfl,_⟩|⟨g,cap,cur,rfl,_,hgb,_⟩
 .simp[Value.ownBlock]
 intro e';obtain rfl:k=g:=by simpa[Value.ownBlock]using e'
 rw[h]at hgb;simp at hgb;exact ht hgb.2.1
theorem lQ{w0:World}{size:Nat}{enc:α->List Value}{l:List α}{cs:Array Value}(hS:aP B₀ w0 e size enc v l)(hg:(w0.alloc (.cells cs e)).grownBy w' v.ownBlock):KeepsOthers w0 w':=by
 refine⟨by have:=hg.size;simp at this;omega,λk o hk ho=>?_⟩;have hlt:=(aga.1 hk).1;rw[hg.block k (by simp;omega) ?_,ahM _ _ _ hlt]
 .exact hk
 rcases hS.2 with⟨rfl,_⟩|⟨g,cap,cur,rfl,_,hgb,_⟩
 .simp[Value.ownBlock]
 intro e';obtain rfl:k=g:=by simpa[Value.ownBlock]using e'
 rw[hk]at hgb;cases hgb;cases ho
def NP(Q:Exit->Act->World->Prop):Exit->Act->World->Prop
 | .panic _,_,_=>False
 |e,a,w=>Q e a w
theorem NP.normal{Q:Exit->Act->World->Prop}{a:Act}{w:World}(h:Q .normal a w):NP Q .normal a w:=h
theorem wh{F:Fence}{n:Nat}{P:Program}{Q:Exit->Act->World->Prop}{id:Nat}{l:List Oper}{a:Act}(S:World->Prop)(hm:P.follows .mixedOrders=true)(h:aJ F n P l.toArray (NP Q) S l.length (Array.replicate l.length false) a w.drew):(Code.region id l.toArray true).wpIn F n P Q a w:=
 wpIn_mono (oK S hm h) λe _ _ h=>by cases e<;>first|exact h|exact h.elim
theorem bM{P:Program}{Q:Exit->Act->World->Prop}{id:Nat}{l:List Oper}{a:Act}(S:World->Prop)(hm:P.follows .mixedOrders=true)(h:aJ Fence.wide 0 P l.toArray (NP Q) S l.length (Array.replicate l.length false) a w.drew):(Code.region id l.toArray true).wp P Q a w:=
 (wpIn_wide (n:=0)).1 (wh S hm h)
end
section
variable {F:Fence} {n:Nat} {P:Program} {ops:Array Oper} {Q:Exit->Act->World->Prop} {S:World->Prop}
def oL(ops:Array Oper):Nat->Array Bool->Nat->Bool
 |0,listed,m=>m==ops.size&&Region.ready .any ops listed ==[]
 |k+1,listed,m=>Region.ready .any ops listed ==[m]&&decide (m<ops.size)&&oL ops k (listed.setIfInBounds m true) (m+1)
theorem A_:∀(k m:Nat) {listed:Array Bool} {a:Act} {w:World},oL ops k listed m=true->wpListIn F n P ops Q (ops.toList.drop m) a w->wpAnyIn F n P .any ops Q k listed a w
 |0,m,listed,a,w,hl,h=>by
  simp only[oL,agy,ahf]at hl
  obtain⟨rfl,hr⟩:=hl
  rw[ag9 (by simp)]at h
  exact⟨hr,h⟩
 |k+1,m,listed,a,w,hl,h=>by
  simp only[oL,agy,ahf,aiJ]at hl
  obtain⟨⟨hr,hm⟩,hl⟩:=hl
  refine⟨λe=>(by rw[hr]at e;cases e),λi hi=>?_⟩
  rw[hr]at hi
  obtain rfl:i=m:=by simpa using hi
  have hd:ops.toList.drop i=ops[i]::ops.toList.drop (i+1):=by
   rw[ahc (by simpa using hm)];simp
  rw[hd]at h;unfold wpOpIn;rw[ah9 hm];simp only[wpListIn]at h;show if Region.wanted ops[i] (yielded ops a.tmps)=true then _ else _
  split
  .rename_i hw;rw[af5 hw]at h;exact Oper.wpIn_mono (λ_ _=>A_ k (i+1) hl) h
  .rename_i hw;rw[af4 hw]at h;exact⟨h.1,A_ k (i+1) hl h.2⟩
def Kg(ops:Array Oper)(k:Nat)(listed:Array Bool)(m:Nat):Bool:=oL ops (k+1) listed m&&bar ops listed m
theorem aJ.tail(m:Nat){k:Nat}{listed:Array Bool}{a:Act}{w:World}(hl:Kg ops k listed m=true)(h:wpListIn F n P ops Q (ops.toList.drop m) a w):aJ F n P ops Q S (k+1) listed a w:=by
 unfold Kg at hl;simp only[agy]at hl;obtain⟨hl,hb⟩:=hl;have hl0:=hl;simp only[oL,agy,ahf]at hl;obtain⟨⟨hr,-⟩,-⟩:=hl;refine⟨λe=>(by rw[hr]at e;cases e),λi hi=>?_⟩;rw[hr]at hi;obtain rfl:i=m:=by simpa using hi
 have hh:=(A_ (k+1) i hl0 h).2 i (by rw[hr];simp);exact ajN (λ_ _ x=> .inr ⟨hb,x⟩) hh
theorem aJ.cK{l:List Oper}(m:Nat){k:Nat}{listed:Array Bool}{a:Act}{w:World}(hl:Kg l.toArray k listed m=true)(h:wpListIn F n P l.toArray Q (l.drop m) a w):aJ F n P l.toArray Q S (k+1) listed a w:=
 aJ.tail m hl (by simpa using h)
end
section
open Go.RowKit
variable{B₀ bytes:Nat}{α:Type}{e nt t:TypeId}{v:Value}{A B w w':World}
theorem Qk{P:Program}{size:Nat}(hE:Elem P t e size bytes){enc:α->List Value}(he:∀a,(enc a).length=size)(ty:TypeId)
    {B₀:Nat} {w0:World} {v:Value} {l:List α} (hS:aP B₀ w0 e size enc v l) (y:α) (c:Nat) {cs:Array Value} (hcs:cs.toList=enc y) (h1:∀u∈enc y,u.oneCell'=true)
    (hbytes:(l.length+1)*bytes<=140737488355328) (hbase:B₀<=w0.heap.size):
    ∃v' w',(Builtin.append_ #[t,t] ty #[v,.slice (some ⟨w0.heap.size,0,none⟩) 1 c]).run P (w0.alloc (.cells cs e))=.ok v' w'/\aP B₀ w' e size enc v' (l++[y])/\(w0.alloc (.cells cs e)).grownBy w' v.ownBlock/\Below B₀ w0 w':=by
 obtain⟨ht,i,z,hi,hz,hsz,hby,hzs,h0,hb0⟩:=hE;have hnew:(w0.alloc (.cells cs e)).heap[w0.heap.size]?=some (.cells cs e):=by show(w0.heap.push _)[w0.heap.size]?=_;simp
 obtain⟨v',w',hrun,hown,hg,-⟩:=run_append_own (P:=P) (w0.alloc (.cells cs e)) B₀ t ty e i z size bytes ht hi hz hsz hby hzs h0 v l.length (l.flatMap enc) (ajx hS _) ⟨w0.heap.size,0,none⟩ 1 c (enc y) (by rw[he,ah6]) (by
  intro j u hu;have e1:(⟨w0.heap.size,0,none⟩:Addr).add j=⟨w0.heap.size,j,none⟩:=by unfold Addr.add;split<;>simp_all
  rw[e1];rw[<-hcs]at hu;simp only[World.cell?,hnew];simpa using hu) h1 (by
  have:(l.length+1)*1<=(l.length+1)*bytes:=ahK _ hb0;simp only[maxLen];omega) hbytes (by simp;omega)
 refine⟨v',w',hrun,aP.append (l2:=[y]) hown rfl rfl (by simp),hg,?_⟩;refine((af6 B₀ w0).alloc hbase _).grown hg (by simp;omega) ?_;intro k hk;rcases hS.2 with⟨rfl,_⟩|⟨g,cap,cur,rfl,hb,_⟩
 .simp[Value.ownBlock]at hk
 simp[Value.ownBlock]at hk;omega
def jd(nt:TypeId)(W W':World):Prop:=∀(b:Nat) (cs:Array Value) (fz:Nat×Nat),W.heap[b]?=some (.cells cs nt fz)->W'.heap[b]?=some (.cells cs nt fz)
theorem jd.trans{C:World}(h:jd nt A B)(k:jd nt B C):jd nt A C:=λb cs fz e=>k b cs fz (h b cs fz e)
theorem jd.below(h:Below A.heap.size A B):jd nt A B:=λb cs fz e=>by
 have hb:b<A.heap.size:=(aga.1 e).1
 rw[h.block b hb];exact e
theorem aP.keep{size:Nat}{enc:α->List Value}{l:List α}(h:aP B₀ A e size enc v l)(hk:jd e A B):aP B₀ B e size enc v l:=by
 refine⟨h.1,?_⟩;rcases h.2 with hn|⟨g,cap,cur,hv,hb,hg,rest⟩
 .exact .inl hn
 exact .inr ⟨g,cap,cur,hv,hb,hk _ _ _ hg,rest⟩
theorem Kh(h:A.grownBy B none):Below A.heap.size A B:=(af6 _ A).grown h (af7 _) (λk e=>by cases e)
theorem qY{size:Nat}{enc:α->List Value}{l:List α}(hS:aP B₀ w e size enc v l)(hg:w.grownBy w' v.ownBlock)(ht:t≠e):jd t w w':=λk cs fz h=>by
 rw[hg.block k (aga.1 h).1 ?_]
 .exact h
 .rcases hS.2 with⟨rfl,_⟩|⟨g,cap,cur,rfl,_,hgb,_⟩
  .simp[Value.ownBlock]
  .intro e'
   obtain rfl:k=g:=by simpa[Value.ownBlock]using e'
   rw[h]at hgb;simp at hgb;exact ht hgb.2.1
theorem oM{size:Nat}{enc:α->List Value}{l:List α}(hS:aP B₀ w e size enc v l)(hg:w.grownBy w' v.ownBlock)(hb:B₀<=w.heap.size):Below B₀ w w':=by
 refine(af6 B₀ w).grown hg hb ?_;intro k hk;rcases hS.2 with⟨rfl,_⟩|⟨g,cap,cur,rfl,hb,_⟩
 .simp[Value.ownBlock]at hk
 simp[Value.ownBlock]at hk;omega
theorem aP.lit{size:Nat}{enc:α->List Value}(he:∀a,(enc a).length=size){cs:Array Value}{l:List α}(hcs:cs.toList=l.flatMap enc)(hn:l.length<=maxLen):
    aP w.heap.size (w.alloc (.cells cs e)) e size enc (.slice (some ⟨w.heap.size,0,none⟩) l.length l.length) l:=by
 refine⟨bf he l,.inr ⟨w.heap.size,l.length,cs,rfl,af7 _,?_,af7 _,hn,?_,?_⟩⟩
 .show(w.heap.push _)[w.heap.size]?=_;simp
 .rw[<-bf he l,<-hcs];simp
 rw[hcs,<-bf he l,ahe]
theorem Ba{P:Program}{z:Value}{size:Nat}(ht:P.underlying t=some (.slice e))(hinfo:(P.info? e).map (λi=>(i.zero,i.size,i.bytes))=some (some z,size,bytes))(l c:Nat)(hlc:l<=c)(hb:bytes*c<=281474976710656)(h63:c<=9223372036854775807)(w:World):
    (Instr.makeSlice t (.int .i64 (l:Int)) (.int .i64 (c:Int))).run P w=.ok (.slice (some ⟨w.heap.size,0,none⟩) l c) (w.alloc (.cells (madeCells z.cells (c*size)) e)):=by
 obtain⟨i,hi,hzz⟩:=ahx.1 hinfo
 simp only[agX]at hzz
 obtain⟨hz,hs,hby⟩:=hzz
 have h := run_make (P := P) w t e i z ht hi hz .i64 .i64 (l : Int) (c : Int) (by omega) (by omega) (by rw[hby]; have : ((bytes*c : Nat) : Int) <= 281474976710656 := by omega
                                                                                                        rwa [ai6]at this) (by omega)
 simpa[hs]using h
theorem bP{P:Program}{ops:Array Oper}{rest:List Oper}{o:Oper}{a:Act}{Q:Exit->Act->World->Prop}{size:Nat}(hE:Elem P t e size bytes){enc:α->List Value}(he:∀a,(enc a).length=size)
    (hgd:o.guard=none) (s x:Operand) (ho:o.op=.call { callee:=.builtin .append,args:=#[s,x],argTypes:=#[t,t] })
    {B₀:Nat} {w0:World} {v:Value} {l:List α} (hs:a.eval s=v) (hS:aP B₀ w0 e size enc v l) (y:α) {c:Nat} (hx:a.eval x=.slice (some ⟨w0.heap.size,0,none⟩) 1 c) {cs:Array Value} (hcs:cs.toList=enc y) (h1:∀u∈enc y,u.oneCell'=true)
    (hbytes:(l.length+1)*bytes<=140737488355328) (hbase:B₀<=w0.heap.size)
    (h:∀v' w',aP B₀ w' e size enc v' (l++[y])->(w0.alloc (.cells cs e)).grownBy w' v.ownBlock->Below B₀ w0 w'->wpList P ops Q rest (a.put o.dst v') w'):wpList P ops Q (o::rest) a (w0.alloc (.cells cs e)):=by
 obtain⟨ht,i,z,hi,hz,hsz,hby,hzs,h0,hb0⟩:=hE;have hnew:(w0.alloc (.cells cs e)).heap[w0.heap.size]?=some (.cells cs e):=by show(w0.heap.push _)[w0.heap.size]?=_;simp
 refine aj8 _ hgd s x t ho B₀ e i z size bytes ht hi hz hsz hby hzs h0 v l.length (l.flatMap enc) hs (ajx hS _) ⟨w0.heap.size,0,none⟩ 1 c (enc y) hx (by rw[he,ah6]) ?_ h1 ?_ hbytes (by simp;omega) ?_
 .intro j u hu;have e1:(⟨w0.heap.size,0,none⟩:Addr).add j=⟨w0.heap.size,j,none⟩:=by unfold Addr.add;split<;>simp_all
  rw[e1];rw[<-hcs]at hu;simp only[World.cell?,hnew];simpa using hu
 .have:(l.length+1)*1<=(l.length+1)*bytes:=ahK _ hb0;simp only[maxLen];omega
 intro v' w' hown hg _;refine h v' w' (aP.append (l2:=[y]) hown rfl rfl (by simp)) hg ?_;refine((af6 B₀ w0).alloc hbase _).grown hg (by simp;omega) ?_;intro k hk;rcases hS.2 with⟨rfl,_⟩|⟨g,cap,cur,rfl,hb,_⟩
 .simp[Value.ownBlock]at hk
 simp[Value.ownBlock]at hk;omega
theorem uO{P:Program}{ops:Array Oper}{rest:List Oper}{o:Oper}{a:Act}{Q:Exit->Act->World->Prop}{v1 v2:Value}(hgd:o.guard=none)(s x:Operand)(ho:o.op=.call { callee:=.builtin .append,args:=#[s,x],argTypes:=#[t,t] })
    (h1:a.eval s=v1) (h2:a.eval x=v2) (hrun:(Builtin.append_ #[t,t] o.type #[v1,v2]).run P w=.ok v w') (hK:wpList P ops Q rest (a.put o.dst v) w'):wpList P ops Q (o::rest) a w:=
 wpList_plain hgd λ_ hK'=>by
  unfold Oper.wp execOp
  simp only[ho,resolve,invoke,builtin,Sem.run_bind,Sem.run_pure,Result.andThen_ok,List.map_toArray,ag8,List.map_nil,h1,h2,hrun]
  exact hK' _ _ hK
end
section
open Go.RowKit Go.MapKept Go.ChangeMaps Go.WideMaps
section
variable {α:Type}
def dQ(s:ByteArray):List (ByteArray×α)->Option α
 | []=>none
 |p::l=>if p.1=s then some p.2 else dQ s l
def dM(s:ByteArray)(a:α):List (ByteArray×α)->List (ByteArray×α)
 | []=>[(s,a)]
 |p::l=>if p.1=s then(s,a)::l else p::dM s a l
theorem oN{s:ByteArray}:∀{l:List (ByteArray×α)},(∀p∈l,p.1≠s)->dQ s l=none
 | [],_=>rfl
 |p::l,h=>by rw[dQ,af4 (h p (ahl ..))];exact oN λq hq=>h q (agK _ hq)
theorem wm{s:ByteArray}:∀{l:List (ByteArray×α)} {j:Nat} {a:α},(l.map Prod.fst).Nodup->l[j]?=some (s,a)->dQ s l=some a
 |p::l,0,a,_,h=>by
  simp only[agJ,agG]at h
  subst h
  rw[dQ,af5 rfl]
 |p::l,j+1,a,hn,h=>by
  rw[agF]at h
  obtain⟨h1,h2⟩:=ail.1 hn
  rw[dQ,af4 (λe:p.1=s=>h1 (agz.2 ⟨_,agE h,e.symm⟩))]
  exact wm h2 h
theorem oO{s:ByteArray}{a:α}:∀{l:List (ByteArray×α)},(∀p∈l,p.1≠s)->dM s a l=l++[(s,a)]
 | [],_=>rfl
 |p::l,h=>by rw[dM,af4 (h p (ahl ..)),oO λq hq=>h q (agK _ hq)];rfl
theorem wo{s:ByteArray}{a:α}:∀{l:List (ByteArray×α)} {j:Nat} {b:α},(l.map Prod.fst).Nodup->l[j]?=some (s,b)->dM s a l=l.set j (s,a)
 |p::l,0,b,_,h=>by
  simp only[agJ,agG]at h
  subst h
  rw[dM,af5 rfl];rfl
 |p::l,j+1,b,hn,h=>by
  rw[agF]at h
  obtain⟨h1,h2⟩:=ail.1 hn
  rw[dM,af4 (λe:p.1=s=>h1 (agz.2 ⟨_,agE h,e.symm⟩)),wo h2 h];rfl
theorem wE{s:ByteArray}{a:α}:∀{l:List (ByteArray×α)},dQ s l=some a->(s,a)∈l
 | [],h=>by cases h
 |p::l,h=>by
  rw[dQ]at h
  by_cases e:p.1=s
  .rw[af5 e]at h;cases h;rw[<-e];exact ahl ..
  .rw[af4 e]at h;exact agK _ (wE h)
theorem qZ{s t:ByteArray}{a:α}:∀{l:List (ByteArray×α)},dQ t (dM s a l)=if s=t then some a else dQ t l
 | []=>by simp only[dM,dQ]
 |p::l=>by
  rw[dM]
  by_cases e:p.1=s
  .rw[af5 e,dQ]
   by_cases e2:s=t
   .rw[af5 e2,af5 e2]
   .rw[af4 e2,af4 e2,dQ,af4 (λx=>e2 (e▸x))]
  .rw[af4 e,dQ,qZ,dQ]
   by_cases e2:p.1=t
   .rw[af5 e2,af4 (λx=>e (e2.trans x.symm)),af5 e2]
   .rw[af4 e2,af4 e2]
theorem nS{s:ByteArray}{a:α}:∀{l:List (ByteArray×α)},l.length<=(dM s a l).length/\(dM s a l).length<=l.length+1
 | []=>by simp[dM]
 |p::l=>by
  rw[dM]
  have:=nS (s:=s) (a:=a) (l:=l)
  split<;>simp<;>omega
def ent(ev:α->Value)(p:ByteArray×α):Value×Value:=(.string p.1,ev p.2)
def MapAt(ev:α->Value)(w:World)(b:Nat)(l:List (ByteArray×α)):Prop:=
 ∃es clock,w.heap[b]?=some (.map es clock)/\Stamped es clock/\es.toList.map (λe=>(e.key,e.val))=l.map (ent ev)/\∀p∈l,p.1.size<=maxLen
variable {ev:α->Value} {w:World} {b:Nat} {l:List (ByteArray×α)}
theorem MapAt.lt(h:MapAt ev w b l):b<w.heap.size:=by obtain⟨es,c,h,-⟩:=h;exact(aga.1 h).1
theorem MapAt.of_block{w':World}(h:MapAt ev w b l)(hb:w'.heap[b]?=w.heap[b]?):MapAt ev w' b l:=by
 obtain⟨es,c,h1,h2⟩:=h;exact⟨es,c,hb.trans h1,h2⟩
theorem MapAt.below{w':World}(h:MapAt ev w b l)(hb:Below w.heap.size w w'):MapAt ev w' b l:=h.of_block (hb.block b h.lt)
theorem MapAt.made(ev:α->Value)(w:World):MapAt ev (w.alloc (.map #[] 0)) w.heap.size []:=
 ⟨#[],0,by show(w.heap.push _)[w.heap.size]?=_;simp,stamped_empty 0,by simp,by simp⟩
theorem MapAt.nodup(h:MapAt ev w b l):(l.map Prod.fst).Nodup:=by
 obtain⟨es,c,-,h2,h3,-⟩:=h;have h4:=((stamped_iff es c).1 h2).2.2;have h5:(es.toList.map (λe=>(e.key,e.val))).Pairwise (λx y=>x.1≠y.1):=aiu.2 h4;rw[h3]at h5;have h6:=aiu.1 h5;refine aiu.2 (h6.imp λ{x y} h e=>h ?_);simp only[ent];rw[e]
variable {P:Program} {k e t:TypeId}
variable{es:Array MapEntry}{s:ByteArray}
theorem MapAt.reads(hk:P.underlying k=some .string)(h3:es.toList.map (λe=>(e.key,e.val))=l.map (ent ev))(h4:∀p∈l,p.1.size<=maxLen):∀x∈es.toList,∃lx,keyOf P k x.key=some lx:=by
 intro x hx;have:(x.key,x.val)∈l.map (ent ev):=by rw[<-h3];exact agz.2 ⟨x,hx,rfl⟩
 obtain⟨p,hp,e⟩:=agz.1 this;simp only[ent,agX]at e;rw[<-e.1];exact⟨_,keyOf_string_mk hk (h4 p hp)⟩
theorem MapAt.spot(h3:es.toList.map (λe=>(e.key,e.val))=l.map (ent ev)){j:Nat}{x:MapEntry}(h:es.toList[j]?=some x)(hs:x.key=.string s):∃a,l[j]?=some (s,a)/\x.val=ev a:=by
 have h5:(l.map (ent ev))[j]?=some (x.key,x.val):=by rw[<-h3,ahg,h];rfl
 rw[ahg]at h5;obtain⟨p,hp,e⟩:=ahx.1 h5;simp only[ent,agX]at e;rw[hs]at e;have e1:p.1=s:=by have:=e.1;cases this;rfl
 exact⟨p.2,by rw[hp,<-e1],e.2.symm⟩
theorem MapAt.wF(h3:es.toList.map (λe=>(e.key,e.val))=l.map (ent ev))(h:∀x∈es.toList,x.key≠ .string s):∀p∈l,p.1≠s:=by
 intro p hp e;have:ent ev p∈es.toList.map (λe=>(e.key,e.val)):=by rw[h3];exact agz.2 ⟨p,hp,rfl⟩
 obtain⟨x,hx,e2⟩:=agz.1 this;simp only[ent,agX]at e2;exact h x hx (by rw[e2.1,e])
theorem MapAt.look(c:Bool)(h:MapAt ev w b l)(hk:P.underlying k=some .string)(ht:P.underlying t=some (.map k e)){z:Value}(hz:(zeroValue e).run P w=.ok z w)(hs:s.size<=maxLen):
    (Instr.lookup t (.map (some b)) (.string s) c).run P w=.ok (match dQ s l with|some a=>if c then .tuple #[ev a,.bool true]else ev a|none=>if c then .tuple #[z,.bool false]else z) w:=by
 have hn:=h.nodup;obtain⟨es,clock,hb,h2,h3,h4⟩:=h;have K:=Maps.string_keyed hk;have hkey:=keyOf_string_mk hk hs;rcases K.find w hkey es.toList (MapAt.reads hk h3 h4)with⟨h5,h6⟩|⟨j,e0,h5,h6,h7⟩
 .rw[oN (MapAt.wF h3 h6)];simp[Instr.lookup,ahs ht,ahI hb,K.check w _ hkey,h5,hz,Result.andThen]
 obtain⟨a,h8,h9⟩:=MapAt.spot h3 h6 h7;rw[wm hn h8];simp[Instr.lookup,ahs ht,ahI hb,K.check w _ hkey,h5,h9,Result.andThen]
theorem MapAt.put(h:MapAt ev w b l)(hk:P.underlying k=some .string)(ht:P.underlying t=some (.map k e))(hroom:l.length<maxLen)(hs:s.size<=maxLen)(a:α):
    ∃w',(Instr.mapUpdate t (.map (some b)) (.string s) (ev a)).run P w=.ok () w'/\MapAt ev w' b (dM s a l)/\w.grownBy w' (some b)/\w'.heap.size=w.heap.size:=by
 have hn:=h.nodup;obtain⟨es,clock,hb,h2,h3,h4⟩:=h;have K:=Maps.string_keyed hk;have hkey:=keyOf_string_mk hk hs;have hsz:es.size=l.length:=by have:=agC List.length h3;simpa using this
 have grow:∀o,w.grownBy (setBlock w b o) (some b):=λo=>⟨rfl,rfl,rfl,by simp[setBlock],λi _ hi=>heap_setBlock_other hb _ (λe=>hi (by rw[e]))⟩;have h10:∀p∈dM s a l,p.1.size<=maxLen:=by
  have:∀{l:List (ByteArray×α)},(∀p∈l,p.1.size<=maxLen)->∀p∈dM s a l,p.1.size<=maxLen:=by
   intro l
   induction l with
   |nil=>intro _ p hp;simp only[dM,agl]at hp;subst hp;exact hs
   |cons q l ih=>
    intro h p hp;rw[dM]at hp;split at hp
    .rcases agm.1 hp with rfl|hp
     .exact hs
     exact h p (agK _ hp)
    rcases agm.1 hp with rfl|hp
    .exact h _ (ahl ..)
    exact ih (λq hq=>h q (agK _ hq)) p hp
  exact this h4
 rcases K.find w hkey es.toList (MapAt.reads hk h3 h4)with⟨h5,h6⟩|⟨j,e0,h5,h6,h7⟩
 .refine⟨setBlock w b (.map (es.push ⟨.string s,ev a,clock⟩) (clock+1)),?_,⟨_,_,heap_setBlock_same hb _,stamped_push h2 h6,?_,h10⟩,grow _,by simp[setBlock]⟩
  .have:es.size<maxLen:=by omega
   simp[Instr.mapUpdate,ahs ht,ahI hb,K.check w false hkey,h5,aiW _ hb,Result.andThen,setBlock]
  rw[oO (MapAt.wF h3 h6),aj5,ag2,h3,ag2];simp[ent]
 obtain⟨a0,h8,h9⟩:=MapAt.spot h3 h6 h7;have hj:es[j]?=some e0:=by simpa using h6
 have hkeyf:∀e',es[j]?=some e'->({ e' with key:=.string s,val:=ev a }:MapEntry).key=e'.key:=λe' he'=>by rw[hj]at he';cases he';exact h7.symm
 have hlist:(es.modify j (λe'=>{ e' with key:=.string s,val:=ev a })).toList=es.toList.set j { e0 with key:=.string s,val:=ev a }:=by rw[akJ,modify_eq_set _ _ _ _ h6]
 refine⟨setBlock w b (.map (es.modify j (λe'=>{ e' with key:=.string s,val:=ev a })) clock),?_,⟨_,_,heap_setBlock_same hb _,stamped_modify h2 _ _ (λ_ _=>rfl) (λe' _ he'=>hkeyf e' he'),?_,h10⟩,grow _,by simp[setBlock]⟩
 .simp[Instr.mapUpdate,ahs ht,ahI hb,K.check w false hkey,h5,hj,h7,K.stays w hkey,aiW _ hb,Result.andThen,setBlock]
 rw[hlist,ai_,h3,wo hn h8,ai_];rfl
end
end
section
open Go.RowKit
section
variable {F:Fence} {n:Nat} {P:Program} {ops:Array Oper} {Q:Exit->Act->World->Prop} {S:World->Prop}
variable{a b:Act}{listed:Array Bool}{k:Nat}{w:World}
def subs:List Nat->List (List Nat)
 | []=>[[]]
 |x::xs=>subs xs++(subs xs).map (x:: ·)
theorem nT(p:Nat->Bool):∀l:List Nat,l.filter p∈subs l
 | []=>by simp[subs]
 |x::xs=>by
  have h:=nT p xs
  simp only[subs,ags,agz]
  cases hp:p x with
  |true=>right;exact⟨_,h,by simp[aiv,hp]⟩
  |false=>left;simpa[aiv,hp]using h
def mark(listed:Array Bool)(s:List Nat):Array Bool:=s.foldl (λl i=>l.setIfInBounds i true) listed
theorem yj:∀(s:List Nat) (l:Array Bool),(mark l s).size=l.size
 | [],_=>rfl
 |x::s,l=>by
  show(mark (l.setIfInBounds x true) s).size=_
  rw[yj s,ajj]
theorem Bb:∀(s:List Nat) (l:Array Bool) (i:Nat),(mark l s)[i]?=if i∈s/\i<l.size then some true else l[i]?
 | [],l,i=>by simp[mark]
 |x::s,l,i=>by
  show(mark (l.setIfInBounds x true) s)[i]?=_
  rw[Bb s,ajj]
  by_cases hs:i∈s/\i<l.size
  .rw[af5 hs,af5 ⟨agK _ hs.1,hs.2⟩]
  .rw[af4 hs]
   by_cases hx:x=i
   .subst hx
    by_cases hl:x<l.size
    .rw[ajg hl,af5 ⟨ahl ..,hl⟩]
    .rw[af4 (λh=>hl h.2),aia (by rw[ajj];omega),aia (by omega)]
   .rw[aiU hx]
    rw[af4]
    rintro⟨h1,h2⟩
    rcases agm.1 h1 with e|e
    .exact hx e.symm
    .exact hs ⟨e,h2⟩
theorem D9(l:Array Bool)(js:List Nat)(p:Nat->Bool)(i:Nat)(hi:i∈js):(mark l (js.filter p)).setIfInBounds i true=mark l (js.filter λx=>p x || x==i):=by
 apply Array.ext_getElem?;intro t;rw[Bb];by_cases ht:i=t
 .subst ht;by_cases hl:i<l.size
  .rw[ajg (by rw[yj];exact hl),af5];exact⟨by simp[ahB,hi],hl⟩
  rw[aia (by rw[ajj,yj];omega),af4 (λh=>hl h.2),aia (by omega)]
 rw[aiU ht,Bb];have:(t∈js.filter λx=>p x || x==i)↔t∈js.filter p:=by
  simp only[ahB,ajF,ahf];constructor
  .rintro⟨h1,h2|h2⟩
   .exact⟨h1,h2⟩
   exact absurd h2.symm ht
  rintro⟨h1,h2⟩;exact⟨h1,.inl h2⟩
 simp only[this]
theorem rz{p:Nat->Bool}{i:Nat}:∀{js:List Nat},i∈js->p i=false->(js.filter p).length+1<=(js.filter λx=>p x || x==i).length
 |x::js,hi,hp=>by
  have hle:∀l:List Nat,(l.filter p).length<=(l.filter λx=>p x || x==i).length:=λl=>by
   induction l with
   |nil=>simp
   |cons a l ih=>
    cases ha:p a with
    |true=>simp only[aiv,ha,Bool.true_or,ahv,agc];omega
    |false=>
     simp only[aiv,ha,aix,aii,ahu]
     split
     .rw[agc];omega
     .exact ih
  rcases agm.1 hi with rfl|h
  .simp only[aiv,hp,aix,ai4,ahv]
   have:=hle js
   simp only[aii,ahu,agc]
   omega
  .have ih:=rz h hp
   cases ha:p x with
   |true=>simp only[aiv,ha,Bool.true_or,ahv,agc];omega
   |false=>
    simp only[aiv,ha,aix,aii,ahu]
    split
    .rw[agc];omega
    .exact ih
def b_(ops:Array Oper)(j:Nat):Option Tmp:=(ops[j]?).bind (·.dst)
def gu(ops:Array Oper)(vs:Nat->Value)(a:Act)(s:List Nat):Act:=s.foldl (λa j=>a.put (b_ ops j) (vs j)) a
theorem wG(a:Act)(d:Option Tmp)(v:Value):(a.put d v).tmps.size=a.tmps.size:=by cases d<;>simp[Act.put]
theorem put_defers(a:Act)(d:Option Tmp)(v:Value):(a.put d v).defers=a.defers:=by cases d<;>rfl
theorem mO(a:Act)(d:Option Tmp)(v:Value){t:Tmp}(h:d≠some t):(a.put d v).tmps[t]?=a.tmps[t]?:=by
 cases d with
 |none=>rfl
 |some d=>simp only[Act.put];exact aiU (λe=>h (by rw[e]))
theorem iG(a:Act){d:Tmp}(v:Value)(h:d<a.tmps.size):(a.put (some d) v).tmps[d]?=some v:=by
 simp only[Act.put];exact ajg h
theorem lC(vs:Nat->Value):∀(s:List Nat) (a:Act),(gu ops vs a s).tmps.size=a.tmps.size
 | [],_=>rfl
 |x::s,a=>by show(gu ops vs (a.put (b_ ops x) (vs x)) s).tmps.size=_;rw[lC vs s,wG]
theorem ow(vs:Nat->Value):∀(s:List Nat) (a:Act),(gu ops vs a s).defers=a.defers
 | [],_=>rfl
 |x::s,a=>by show(gu ops vs (a.put (b_ ops x) (vs x)) s).defers=_;rw[ow vs s,put_defers]
theorem mE(vs:Nat->Value){t:Tmp}:∀(s:List Nat) (a:Act),(∀j∈s,b_ ops j≠some t)->(gu ops vs a s).tmps[t]?=a.tmps[t]?
 | [],_,_=>rfl
 |x::s,a,h=>by
  show(gu ops vs (a.put (b_ ops x) (vs x)) s).tmps[t]?=_
  rw[mE vs s _ (λj hj=>h j (agK _ hj)),mO _ _ _ (h x (ahl ..))]
theorem oP(vs:Nat->Value){t:Tmp}{j:Nat}:∀(s:List Nat) (a:Act),(∀i∈s,b_ ops i=some t->i=j)->j∈s->b_ ops j=some t->t<a.tmps.size->(gu ops vs a s).tmps[t]?=some (vs j)
 |x::s,a,hd,hj,hdj,ht=>by
  show(gu ops vs (a.put (b_ ops x) (vs x)) s).tmps[t]?=_
  by_cases hs:j∈s
  .exact oP vs s _ (λi hi=>hd i (agK _ hi)) hs hdj (by rw[wG];exact ht)
  .obtain rfl:j=x:=by rcases agm.1 hj with e|e;exact e;exact absurd e hs
   rw[mE vs s _ (λi hi e=>hs ((hd i (agK _ hi) e)▸hi)),hdj]
   exact iG _ _ ht
def deps(ops:Array Oper)(js:List Nat)(j:Nat):List Nat:=js.filter λi=>Zd ops ops.size j i
def sQ(ops:Array Oper)(js:List Nat)(j:Nat):Bool:=match ops[j]? with
 |none=>false
 |some o=>(o.looksAt ops).all λt=>js.all λi=>b_ ops i !=some t || (deps ops js j).contains i
def Fe(ops:Array Oper)(listed:Array Bool)(js:List Nat)(m sz:Nat):Bool:=
 nR ops&&Region.noSelect ops &&
 (js.all λj=>sQ ops js j&&(match b_ ops j with|some d=>decide (d<sz)|none=>false)) &&
 (js.all λi=>js.all λj=>i==j || b_ ops i !=b_ ops j) &&
 (subs js).all λs=> !(s.all λj=>(deps ops js j).all s.contains) || if s.length==js.length then oL ops (ops.size-m) (mark listed s) m&&(ops.size==m || bar ops (mark listed s) m)
  else(Region.ready .any ops (mark listed s) !=[])&&(Region.ready .any ops (mark listed s)).all λi=>js.contains i && !s.contains i&&(deps ops js i).all s.contains
def iH(F:Fence)(n:Nat)(P:Program)(ops:Array Oper)(j:Nat)(K:Act->World->Prop)(a:Act)(w:World):Prop:=
 ∃o,ops[j]?=some o/\(if Region.wanted o (yielded ops a.tmps)then o.uponIn F n P a K (λ_ _ _=>False) ((execOp a.eval o).run P w)else K (a.put o.dst undef) w)
theorem D_{o:Oper}{d:Tmp}(hd:o.dst=some d)(ha:d<a.tmps.size){G:Value->World->Prop}{K:Act->World->Prop}(hK:∀v w,G v w->K (b.put (some d) v) w){r:Result Next}
    (h:o.uponIn F n P a (λx w=>∃v,x.tmps[d]?=some v/\x.defers=a.defers/\G v w) (λ_ _ _=>False) r):o.uponIn F n P b K Q r:=by
 have hv:∀{v u:Value},(a.put (some d) v).tmps[d]?=some u->v=u:=λe=>by rw[iG a _ ha]at e;exact agQ e
 cases r with
 |ok nx w'=>
  cases nx with
  |value v=>
   rw[Oper.uponIn_value,hd]at h⊢;obtain⟨u,h1,-,h2⟩:=h;rw[hv h1];exact hK _ _ h2
  |skip=>
   rw[Oper.uponIn_skip,hd]at h⊢;obtain⟨u,h1,-,h2⟩:=h;rw[hv h1];exact hK _ _ h2
  |defer dd=>
   rw[Oper.uponIn_defer,hd]at h;obtain⟨u,-,h1,-⟩:=h;exfalso;have:=agC List.length h1;simp[Act.put]at this
  |enter f args=>
   rw[Oper.uponIn_enter]at h⊢;refine⟨h.1,h.2.mono ?_⟩;intro e w'' hx;cases e with
   |returned v=>
    obtain⟨u,h1,-,h2⟩:=(show ∃v_1,(a.put o.dst v).tmps[d]?=some v_1/\_/\_ from hx);rw[hd]at h1;show K (b.put o.dst v) w'';rw[hd,hv h1];exact hK _ _ h2
   |panicked c=>exact hx.elim
   |outgrown=>exact(show LetsOut (λ_ _ _=>False) from hx).elim λ_ hx=>hx.elim λ_ hx=>hx.elim
  |row rw' args=>
   rw[Oper.uponIn_row]at h⊢;refine⟨h.1,h.2.mono ?_⟩;intro v w'' hx;obtain⟨u,h1,-,h2⟩:=hx;rw[hd]at h1⊢;rw[hv h1];exact hK _ _ h2
  |round l f tmps as_ body=>
   rw[Oper.uponIn_round]at h⊢;refine⟨h.1,h.2.mono ?_⟩;intro e w'' hx;cases e with
   |returned v=>
    obtain⟨u,h1,-,h2⟩:=(show ∃v_1,(a.put o.dst v).tmps[d]?=some v_1/\_/\_ from hx);rw[hd]at h1;show K (b.put o.dst v) w'';rw[hd,hv h1];exact hK _ _ h2
   |panicked c=>exact hx.elim
   |outgrown=>exact(show LetsOut (λ_ _ _=>False) from hx).elim λ_ hx=>hx.elim λ_ hx=>hx.elim
  |_=>exact h.elim
 |halt hl w'=>
  cases hl with
  |panic v=>exact(show False from h).elim
  |_=>exact h.elim
theorem yt:∀(k0 k m:Nat) {listed:Array Bool} {a:Act} {w:World},k0<=k->oL ops k0 listed m=true->wpListIn F n P ops Q (ops.toList.drop m) a w->wpAnyIn F n P .any ops Q k listed a w
 |0,k,m,listed,a,w,_,hl,h=>by
  simp only[oL,agy,ahf]at hl
  obtain⟨rfl,hr⟩:=hl
  rw[ag9 (by simp)]at h
  cases k with
  |zero=>exact⟨hr,h⟩
  |succ k=>exact⟨λ_=>h,λi hi=>by rw[hr]at hi;cases hi⟩
 |k0+1,0,m,listed,a,w,hk,_,_=>absurd hk (by omega)
 |k0+1,k+1,m,listed,a,w,hk,hl,h=>by
  simp only[oL,agy,ahf,aiJ]at hl
  obtain⟨⟨hr,hm⟩,hl⟩:=hl
  refine⟨λe=>(by rw[hr]at e;cases e),λi hi=>?_⟩
  rw[hr]at hi
  obtain rfl:i=m:=by simpa using hi
  have hd:ops.toList.drop i=ops[i]::ops.toList.drop (i+1):=by
   rw[ahc (by simpa using hm)];simp
  rw[hd]at h;unfold wpOpIn;rw[ah9 hm];simp only[wpListIn]at h;show if Region.wanted ops[i] (yielded ops a.tmps)=true then _ else _
  split
  .rename_i hw;rw[af5 hw]at h;exact Oper.wpIn_mono (λ_ _=>yt k0 k (i+1) (by omega) hl) h
  .rename_i hw;rw[af4 hw]at h;exact⟨h.1,yt k0 k (i+1) (by omega) hl h.2⟩
theorem NY{k0 m:Nat}(hk:k0<=k)(hl:oL ops k0 listed m=true)(hb:(ops.size==m || bar ops listed m)=true)(h:wpListIn F n P ops Q (ops.toList.drop m) a w):aJ F n P ops Q S k listed a w:=by
 cases k0 with
 |zero=>
  simp only[oL,agy,ahf]at hl;obtain⟨rfl,hr⟩:=hl;rw[ag9 (by simp)]at h;exact aJ.done hr h
 |succ k0=>
  obtain⟨k,rfl⟩:∃k',k=k'+1:=⟨k-1,by omega⟩;have hl0:=hl;simp only[oL,agy,ahf,aiJ]at hl;obtain⟨⟨hr,hm⟩,hl⟩:=hl;have hb:bar ops listed m=true:=by
   simp only[ajF,ahf]at hb;rcases hb with e|e
   .omega
   exact e
  refine⟨λe=>(by rw[hr]at e;cases e),λi hi=>?_⟩;have hx:=(yt (k0+1) (k+1) m hk hl0 h).2 i hi;rw[hr]at hi;obtain rfl:i=m:=by simpa using hi
  exact ajN (λ_ _ x=> .inr ⟨hb,x⟩) hx
structure FJ(ops:Array Oper)(js:List Nat)(PP:Nat->Value->World->Prop)(al:Nat->Bool)(a0:Act)(p:Nat->Bool)(vs:Nat->Value)(a:Act)(w:World):Prop where
 defers:a.defers=a0.defers
 size:a.tmps.size=a0.tmps.size
 other:∀t:Tmp,(∀j∈js,p j=true->b_ ops j≠some t)->a.tmps[t]?=a0.tmps[t]?
 own:∀j∈js,p j=true->∀t:Tmp,b_ ops j=some t->a.tmps[t]?=some (vs j)
 hP:∀j∈js,p j=true->PP j (vs j) w
 dist:∀i∈js,∀j∈js,p i=true->p j=true->al i=true->al j=true->i≠j->vs i≠vs j
 down:∀j∈js,p j=true->∀i∈deps ops js j,p i=true
theorem FJ.closed{ops:Array Oper}{js:List Nat}{PP:Nat->Value->World->Prop}{al:Nat->Bool}{a0:Act}{p:Nat->Bool}{vs:Nat->Value}(h:FJ ops js PP al a0 p vs a w):
    ((js.filter p).all λj=>(deps ops js j).all (js.filter p).contains)=true:=by
 rw[agS];intro j hj;obtain⟨h1,h2⟩:=ahB.1 hj;rw[agS];intro i hi;simp only[ajX,ahB];exact⟨(ahB.1 hi).1,h.down j h1 h2 i hi⟩
theorem Md(h1:∀t:Nat,a.tmps[t]?=b.tmps[t]?)(h2:a.defers=b.defers):a=b:=by
 obtain⟨t1,d1⟩:=a;obtain⟨t2,d2⟩:=b;simp only at h1 h2;have:=Array.ext_getElem? h1;subst this h2;rfl
theorem aJ.float{l:List Oper}(js:List Nat)(m:Nat)(PP:Nat->Value->World->Prop)(al:Nat->Bool)
    (hc:Fe l.toArray listed js m a.tmps.size=true) (hk:js.length+(l.toArray.size-m)<=k) (hF:∀f,F.fn f) (hS:S w)
    (hmono:∀j∈js,∀v w w',PP j v w->Below w.heap.size w w'->PP j v w')
    (Fg:∀j∈js,al j=true->∀v w,PP j v w->∃B,v=.pointer (some ⟨B,0,none⟩)/\B<w.heap.size)
    (hstep:∀j∈js,∀vs w,S w->(∀i∈deps l.toArray js j,PP i (vs i) w)->∀K:Act->World->Prop,(∀v w',S w'->Below w.heap.size w w'->PP j v w'->(al j=true->v=.pointer (some ⟨w.heap.size,0,none⟩))->K ((gu l.toArray vs a (deps l.toArray js j)).put (b_ l.toArray j) v) w')->iH F n P l.toArray j K (gu l.toArray vs a (deps l.toArray js j)) w)
    (htail:∀vs w,S w->(∀j∈js,PP j (vs j) w)->(∀i∈js,∀j∈js,al i=true->al j=true->i≠j->vs i≠vs j)->wpListIn F n P l.toArray Q (l.drop m) (gu l.toArray vs a js) w):
    aJ F n P l.toArray Q S k listed a w:=by
 simp only[Fe,agy]at hc;obtain⟨⟨⟨⟨hnd,hns⟩,hl⟩,hdd⟩,hsub⟩:=hc;have Ql:∀j∈js,sQ l.toArray js j=true:=λj hj=>by
  have:=agS.1 hl j hj;simp only[agy]at this;exact this.1
 have hdst:∀j∈js,∃d,b_ l.toArray j=some d/\d<a.tmps.size:=λj hj=>by
  have:=agS.1 hl j hj;simp only[agy]at this;have h2:=this.2;cases hd:b_ l.toArray j with
  |none=>rw[hd]at h2;cases h2
  |some d=>rw[hd]at h2;exact⟨d,rfl,by simpa using h2⟩
 have hne:∀i∈js,∀j∈js,i≠j->b_ l.toArray i≠b_ l.toArray j:=λi hi j hj hij=>by
  have:=agS.1 (agS.1 hdd i hi) j hj;simpa[hij]using this
 suffices H:∀(k:Nat) (p:Nat->Bool) (vs:Nat->Value) (b:Act) (w:World),FJ l.toArray js PP al a p vs b w->S w->(js.length-(js.filter p).length)+(l.toArray.size-m)<=k->aJ F n P l.toArray Q S k (mark listed (js.filter p)) b w by
  have hf:js.filter (λ_=>false)=[]:=ajV.2 (λ_ _ h=>by cases h);have h0:=H k (λ_=>false) (λ_=>undef) a w ⟨rfl,rfl,λ_ _=>rfl,λ_ _ h=>(by cases h),λ_ _ h=>(by cases h),λ_ _ _ _ h=>(by cases h),λ_ _ h=>(by cases h)⟩ hS (by rw[hf];simpa using hk);rw[hf]at h0;exact h0
 have hfin:∀(k:Nat) (p:Nat->Bool) (vs:Nat->Value) (b:Act) (w:World),FJ l.toArray js PP al a p vs b w->S w->l.toArray.size-m<=k->(js.filter p).length=js.length->aJ F n P l.toArray Q S k (mark listed (js.filter p)) b w:=by
  intro k p vs b w hJ hS hk hall;have hp:∀j∈js,p j=true:=λj hj=>aks.1 hall j hj;have hc:=agS.1 hsub _ (nT p js);rw[hJ.closed,ajJ,aix]at hc;rw[af5 (by simpa using hall)]at hc;simp only[agy]at hc;have hb:b=gu l.toArray vs a js:=by
   apply Md
   .intro t;by_cases ht:∃j∈js,b_ l.toArray j=some t
    .obtain⟨j,hj,hd⟩:=ht;obtain⟨d,hd2,hlt⟩:=hdst j hj;have e:d=t:=(by rw[hd]at hd2;exact(agQ hd2).symm);subst e;rw[hJ.own j hj (hp j hj) d hd,oP vs js a (λi hi e=>by
      by_cases h:i=j
      .exact h
      exact absurd (e.trans hd.symm) (hne i hi j hj h)) hj hd hlt]
    rw[hJ.other t (λj hj _ e=>ht ⟨j,hj,e⟩),mE vs js a (λj hj e=>ht ⟨j,hj,e⟩)]
   rw[hJ.defers,ow]
  subst hb;refine NY hk hc.1 hc.2 ?_;have:=htail vs w hS (λj hj=>hJ.hP j hj (hp j hj)) (λi hi j hj h1 h2 h3=>hJ.dist i hi j hj (hp i hi) (hp j hj) h1 h2 h3);simpa using this
 intro k
 induction k with
 |zero=>
  intro p vs b w hJ hS hk;exact hfin 0 p vs b w hJ hS (by omega) (Nat.le_antisymm (aiX _ _) (by omega))
 |succ k ih=>
  intro p vs b w hJ hS hk;by_cases hall:(js.filter p).length=js.length
  .exact hfin (k+1) p vs b w hJ hS (by omega) hall
  have hc:=agS.1 hsub _ (nT p js);rw[hJ.closed,ajJ,aix]at hc;rw[af4 (by simpa using hall)]at hc;simp only[agy,bne_iff_ne,ne_eq]at hc;refine⟨λe=>absurd e hc.1,λi hi=>?_⟩;have hci:=agS.1 hc.2 i hi;simp only[agy]at hci;have hij:i∈js:=by simpa using hci.1.1
  have pV:p i=false:=by
   have h:=hci.1.2;cases hpi:p i with
   |false=>rfl
   |true=>simp[ahB,hij,hpi]at h
  have hdp:∀j∈deps l.toArray js i,p j=true:=λj hj=>by
   have h:=agS.1 hci.2 j hj;simp only[ajX,ahB]at h;exact h.2
  have hdj:∀j∈deps l.toArray js i,j∈js:=λj hj=>(ahB.1 hj).1;obtain⟨d,hd,hds⟩:=hdst i hij
  let aj:=gu l.toArray vs a (deps l.toArray js i)
  have Qm:aj.tmps.size=a.tmps.size:=lC vs _ a;have hK:=hstep i hij vs w hS (λj hj=>hJ.hP j (hdj j hj) (hdp j hj)) (λx w''=>∃v,x.tmps[d]?=some v/\x.defers=aj.defers/\(S w''/\Below w.heap.size w w''/\PP i v w''/\(al i=true->v=.pointer (some ⟨w.heap.size,0,none⟩))))
   (λv w' h1 h2 h3 h4=>⟨v,by rw[hd];exact iG _ _ (by rw[lC];exact hds),by rw[put_defers],h1,h2,h3,h4⟩)
  obtain⟨o,ho,hif⟩:=hK;have hod:o.dst=some d:=by have:=hd;unfold b_ at this;rw[ho]at this;exact this
  have hag:∀t∈o.looksAt l.toArray,b.tmps[t]?=aj.tmps[t]?:=λt ht=>by
   have hlk:=Ql i hij;unfold sQ at hlk;rw[ho]at hlk;have h:=agS.1 hlk t ht;by_cases hx:∃j∈js,b_ l.toArray j=some t
   .obtain⟨j,hj,hdt⟩:=hx;have h2:=agS.1 h j hj;have hjd:j∈deps l.toArray js i:=(by simpa[hdt]using h2);obtain⟨d',hd',hlt⟩:=hdst j hj;have e:d'=t:=(by rw[hdt]at hd';exact(agQ hd').symm);subst e;rw[hJ.own j hj (hdp j hjd) _ hdt];exact(oP vs _ a (λx hx e=>by
     by_cases h:x=j
     .exact h
     exact absurd (e.trans hdt.symm) (hne x (hdj x hx) j hj h)) hjd hdt hlt).symm
   rw[hJ.other t (λj hj _ e=>hx ⟨j,hj,e⟩)];exact(mE vs _ a (λj hj e=>hx ⟨j,hdj j hj,e⟩)).symm
  have hwant:Region.wanted o (yielded l.toArray b.tmps)=Region.wanted o (yielded l.toArray aj.tmps):=by
   unfold Region.wanted;cases hg:o.guard with
   |none=>rfl
   |some gw=>
    obtain⟨g,want⟩:=gw;have hy:yielded l.toArray b.tmps g=yielded l.toArray aj.tmps g:=by
     unfold yielded;cases ht:(l.toArray[g]?).bind (·.dst)with
     |none=>rfl
     |some t=>
      have:=hag t (by simp only[Oper.looksAt,hg,ht];simp);simp only[Option.bind_some,this]
    simp only[hy]
  have Qn:execOp b.eval o=execOp aj.eval o:=by
   refine execOp_congr o (λcs b'=>aj1 hns _ _ cs b' ho) (λx hx=>?_);cases x with
   |tmp t=>
    have:=hag t (ahd _ (List.mem_filterMap.2 ⟨.tmp t,by simpa using hx,rfl⟩));show b.tmps.getD t undef=aj.tmps.getD t undef;rw[ahZ,ahZ,this]
   |_=>rfl
  have hnext:∀(v:Value) (w'':World),(S w''/\Below w.heap.size w w''/\PP i v w''/\(al i=true->v=.pointer (some ⟨w.heap.size,0,none⟩)))->
      (S w''/\aJ F n P l.toArray Q S k ((mark listed (js.filter p)).setIfInBounds i true) (b.put (some d) v) w'')\/
      (bar l.toArray (mark listed (js.filter p)) i=true/\wpAnyIn F n P .any l.toArray Q k ((mark listed (js.filter p)).setIfInBounds i true) (b.put (some d) v) w''):=by
   intro v w'' ⟨h1,h2,h3,h4⟩;left;refine⟨h1,?_⟩;rw[D9 listed js p i hij];refine ih (λx=>p x || x==i) (λx=>if x=i then v else vs x) _ w'' ?_ h1 ?_
   .refine⟨by rw[put_defers,hJ.defers],by rw[wG,hJ.size],?_,?_,?_,?_,?_⟩
    .intro t ht;rw[mO _ _ _ (λe=>ht i hij (by simp) (hd.trans e)),hJ.other t (λj hj Ki=>ht j hj (by simp[Ki]))]
    .intro j hj Ki t hdt;by_cases e:j=i
     .subst e;have e2:d=t:=(by rw[hd]at hdt;exact agQ hdt);subst e2;rw[iG _ _ (by rw[hJ.size];exact hds),af5 rfl]
     .have Bc:p j=true:=(by simpa[e]using Ki);rw[mO _ _ _ (λe2=>hne j hj i hij e (hdt.trans (e2.symm.trans hd.symm))),hJ.own j hj Bc t hdt,af4 e]
    .intro j hj Ki;by_cases e:j=i
     .subst e;rw[af5 rfl];exact h3
     .have Bc:p j=true:=(by simpa[e]using Ki);rw[af4 e];exact hmono j hj _ _ _ (hJ.hP j hj Bc) h2
    .intro x hx y hy hpx hpy hax Ze hxy;by_cases ex:x=i
     .have ey:¬y=i:=λe=>hxy (ex.trans e.symm);have Zf:p y=true:=(by simpa[ey]using hpy);subst ex;rw[af5 rfl,af4 ey,h4 hax];obtain⟨B,hB,hlt⟩:=Fg y hy Ze _ _ (hJ.hP y hy Zf);rw[hB];intro e;injection e with e;injection e with e;injection e with e;omega
     .by_cases ey:y=i
      .have Zg:p x=true:=(by simpa[ex]using hpx);subst ey;rw[af4 ex,af5 rfl,h4 Ze];obtain⟨B,hB,hlt⟩:=Fg x hx hax _ _ (hJ.hP x hx Zg);rw[hB];intro e;injection e with e;injection e with e;injection e with e;omega
      .rw[af4 ex,af4 ey];exact hJ.dist x hx y hy (by simpa[ex]using hpx) (by simpa[ey]using hpy) hax Ze hxy
    .intro j hj Ki x hx;by_cases e:j=i
     .subst e;simp[hdp x hx]
     .have Bc:p j=true:=(by simpa[e]using Ki);simp[hJ.down j hj Bc x hx]
   .have:=rz (p:=p) hij pV;have:=aiX p js;omega
  unfold wpOpIn;rw[ho];show if Region.wanted o (yielded l.toArray b.tmps)=true then _ else _
  rw[hwant];split
  .rename_i hw;rw[af5 hw]at hif;refine⟨λf _=>hF f,?_⟩;rw[aip _ _ _ (gQ hnd _ _ ho),Qn];exact D_ hod (by rw[Qm];exact hds) hnext hif
  rename_i hw;rw[af4 hw]at hif;refine⟨λf _=>hF f,?_⟩;obtain⟨v,hv,-,hx⟩:=hif;rw[hod]at hv⊢;rw[iG _ _ (by rw[Qm];exact hds)]at hv;rw[agQ hv];exact hnext _ _ hx
def mP(ds:Nat->Tmp)(vs:Nat->Value)(a:Act)(s:List Nat):Act:=s.foldl (λa j=>a.put (some (ds j)) (vs j)) a
theorem mQ{ds:Nat->Tmp}(vs:Nat->Value):∀(s:List Nat) (a:Act),(∀j∈s,b_ ops j=some (ds j))->gu ops vs a s=mP ds vs a s
 | [],_,_=>rfl
 |x::s,a,h=>by
  show gu ops vs (a.put (b_ ops x) (vs x)) s=mP ds vs (a.put (some (ds x)) (vs x)) s
  rw[h x (ahl ..)]
  exact mQ vs s _ (λj hj=>h j (agK _ hj))
theorem aJ.Kj{l:List Oper}(js:List Nat)(m:Nat)(dl:Nat->List Nat)(ds:Nat->Tmp)(PP:Nat->Value->World->Prop)(al:Nat->Bool)
    (hc:Fe l.toArray listed js m a.tmps.size=true) (hdl:(js.all λj=>deps l.toArray js j==dl j&&b_ l.toArray j==some (ds j))=true) (hk:js.length+(l.toArray.size-m)<=k) (hF:∀f,F.fn f) (hS:S w)
    (hmono:∀j∈js,∀v w w',PP j v w->Below w.heap.size w w'->PP j v w')
    (Fg:∀j∈js,al j=true->∀v w,PP j v w->∃B,v=.pointer (some ⟨B,0,none⟩)/\B<w.heap.size)
    (hstep:∀j∈js,∀vs w,S w->(∀i∈dl j,PP i (vs i) w)->∀K:Act->World->Prop,(∀v w',S w'->Below w.heap.size w w'->PP j v w'->(al j=true->v=.pointer (some ⟨w.heap.size,0,none⟩))->K ((mP ds vs a (dl j)).put (some (ds j)) v) w')->iH F n P l.toArray j K (mP ds vs a (dl j)) w)
    (htail:∀vs w,S w->(∀j∈js,PP j (vs j) w)->(∀i∈js,∀j∈js,al i=true->al j=true->i≠j->vs i≠vs j)->wpListIn F n P l.toArray Q (l.drop m) (mP ds vs a js) w):
    aJ F n P l.toArray Q S k listed a w:=by
 have h1:∀j∈js,deps l.toArray js j=dl j:=λj hj=>by
  have:=agS.1 hdl j hj;simp only[agy,ahf]at this;exact this.1
 have h2:∀j∈js,b_ l.toArray j=some (ds j):=λj hj=>by
  have:=agS.1 hdl j hj;simp only[agy,ahf]at this;exact this.2
 have h3:∀j∈js,∀i∈deps l.toArray js j,b_ l.toArray i=some (ds i):=λj _ i hi=>h2 i (ahB.1 hi).1;refine aJ.float js m PP al hc hk hF hS hmono Fg ?_ ?_
 .intro j hj vs w hS hP K hK;rw[mQ vs _ a (h3 j hj),h1 j hj];refine hstep j hj vs w hS (by rw[<-h1 j hj];exact hP) K ?_;intro v w' a1 a2 a3 a4;have:=hK v w' a1 a2 a3 a4;rwa [mQ vs _ a (h3 j hj),h1 j hj,h2 j hj]at this
 intro vs w hS hP hD;rw[mQ vs _ a h2];exact htail vs w hS hP hD
theorem iH.mk{j:Nat}{o:Oper}{K:Act->World->Prop}(ho:ops[j]?=some o)(hw:Region.wanted o (yielded ops a.tmps)=true)(h:o.uponIn F n P a K (λ_ _ _=>False) ((execOp a.eval o).run P w)):iH F n P ops j K a w:=
 ⟨o,ho,by rw[af5 hw];exact h⟩
end
end
section
open Go.RowKit Go.MapKept Go.ChangeMaps Go.WideMaps
namespace IM
def In(n:Int):Prop:=(Lit.int .i64 n).wf=true
section
variable {α:Type}
def dQ(s:Int):List (Int×α)->Option α
 | []=>none
 |p::l=>if p.1=s then some p.2 else dQ s l
def dM(s:Int)(a:α):List (Int×α)->List (Int×α)
 | []=>[(s,a)]
 |p::l=>if p.1=s then(s,a)::l else p::dM s a l
theorem oN{s:Int}:∀{l:List (Int×α)},(∀p∈l,p.1≠s)->dQ s l=none
 | [],_=>rfl
 |p::l,h=>by rw[dQ,af4 (h p (ahl ..))];exact oN λq hq=>h q (agK _ hq)
theorem wm{s:Int}:∀{l:List (Int×α)} {j:Nat} {a:α},(l.map Prod.fst).Nodup->l[j]?=some (s,a)->dQ s l=some a
 |p::l,0,a,_,h=>by
  simp only[agJ,agG]at h
  subst h
  rw[dQ,af5 rfl]
 |p::l,j+1,a,hn,h=>by
  rw[agF]at h
  obtain⟨h1,h2⟩:=ail.1 hn
  rw[dQ,af4 (λe:p.1=s=>h1 (agz.2 ⟨_,agE h,e.symm⟩))]
  exact wm h2 h
theorem oO{s:Int}{a:α}:∀{l:List (Int×α)},(∀p∈l,p.1≠s)->dM s a l=l++[(s,a)]
 | [],_=>rfl
 |p::l,h=>by rw[dM,af4 (h p (ahl ..)),oO λq hq=>h q (agK _ hq)];rfl
theorem wo{s:Int}{a:α}:∀{l:List (Int×α)} {j:Nat} {b:α},(l.map Prod.fst).Nodup->l[j]?=some (s,b)->dM s a l=l.set j (s,a)
 |p::l,0,b,_,h=>by
  simp only[agJ,agG]at h
  subst h
  rw[dM,af5 rfl];rfl
 |p::l,j+1,b,hn,h=>by
  rw[agF]at h
  obtain⟨h1,h2⟩:=ail.1 hn
  rw[dM,af4 (λe:p.1=s=>h1 (agz.2 ⟨_,agE h,e.symm⟩)),wo h2 h];rfl
theorem wE{s:Int}{a:α}:∀{l:List (Int×α)},dQ s l=some a->(s,a)∈l
 | [],h=>by cases h
 |p::l,h=>by
  rw[dQ]at h
  by_cases e:p.1=s
  .rw[af5 e]at h;cases h;rw[<-e];exact ahl ..
  .rw[af4 e]at h;exact agK _ (wE h)
theorem qZ{s t:Int}{a:α}:∀{l:List (Int×α)},dQ t (dM s a l)=if s=t then some a else dQ t l
 | []=>by simp only[dM,dQ]
 |p::l=>by
  rw[dM]
  by_cases e:p.1=s
  .rw[af5 e,dQ]
   by_cases e2:s=t
   .rw[af5 e2,af5 e2]
   .rw[af4 e2,af4 e2,dQ,af4 (λx=>e2 (e▸x))]
  .rw[af4 e,dQ,qZ,dQ]
   by_cases e2:p.1=t
   .rw[af5 e2,af4 (λx=>e (e2.trans x.symm)),af5 e2]
   .rw[af4 e2,af4 e2]
theorem nS{s:Int}{a:α}:∀{l:List (Int×α)},l.length<=(dM s a l).length/\(dM s a l).length<=l.length+1
 | []=>by simp[dM]
 |p::l=>by
  rw[dM]
  have:=nS (s:=s) (a:=a) (l:=l)
  split<;>simp<;>omega
def ent(ev:α->Value)(p:Int×α):Value×Value:=(.int .i64 p.1,ev p.2)
def MapAt(ev:α->Value)(w:World)(b:Nat)(l:List (Int×α)):Prop:=
 ∃es clock,w.heap[b]?=some (.map es clock)/\Stamped es clock/\es.toList.map (λe=>(e.key,e.val))=l.map (ent ev)/\∀p∈l,In p.1
variable {ev:α->Value} {w:World} {b:Nat} {l:List (Int×α)}
theorem MapAt.lt(h:MapAt ev w b l):b<w.heap.size:=by obtain⟨es,c,h,-⟩:=h;exact(aga.1 h).1
theorem MapAt.of_block{w':World}(h:MapAt ev w b l)(hb:w'.heap[b]?=w.heap[b]?):MapAt ev w' b l:=by
 obtain⟨es,c,h1,h2⟩:=h;exact⟨es,c,hb.trans h1,h2⟩
theorem MapAt.below{w':World}(h:MapAt ev w b l)(hb:Below w.heap.size w w'):MapAt ev w' b l:=h.of_block (hb.block b h.lt)
theorem MapAt.made(ev:α->Value)(w:World):MapAt ev (w.alloc (.map #[] 0)) w.heap.size []:=
 ⟨#[],0,by show(w.heap.push _)[w.heap.size]?=_;simp,stamped_empty 0,by simp,by simp⟩
theorem MapAt.nodup(h:MapAt ev w b l):(l.map Prod.fst).Nodup:=by
 obtain⟨es,c,-,h2,h3,-⟩:=h;have h4:=((stamped_iff es c).1 h2).2.2;have h5:(es.toList.map (λe=>(e.key,e.val))).Pairwise (λx y=>x.1≠y.1):=aiu.2 h4;rw[h3]at h5;have h6:=aiu.1 h5;refine aiu.2 (h6.imp λ{x y} h e=>h ?_);simp only[ent];rw[e]
variable {P:Program} {k e t:TypeId}
variable{es:Array MapEntry}{s:Int}
theorem MapAt.reads(hk:P.underlying k=some (.int .i64))(h3:es.toList.map (λe=>(e.key,e.val))=l.map (ent ev))(h4:∀p∈l,In p.1):∀x∈es.toList,∃lx,keyOf P k x.key=some lx:=by
 intro x hx;have:(x.key,x.val)∈l.map (ent ev):=by rw[<-h3];exact agz.2 ⟨x,hx,rfl⟩
 obtain⟨p,hp,e⟩:=agz.1 this;simp only[ent,agX]at e;rw[<-e.1];exact⟨_,aj7 hk (h4 p hp)⟩
theorem MapAt.spot(h3:es.toList.map (λe=>(e.key,e.val))=l.map (ent ev)){j:Nat}{x:MapEntry}(h:es.toList[j]?=some x)(hs:x.key=.int .i64 s):∃a,l[j]?=some (s,a)/\x.val=ev a:=by
 have h5:(l.map (ent ev))[j]?=some (x.key,x.val):=by rw[<-h3,ahg,h];rfl
 rw[ahg]at h5;obtain⟨p,hp,e⟩:=ahx.1 h5;simp only[ent,agX]at e;rw[hs]at e;have e1:p.1=s:=by have:=e.1;cases this;rfl
 exact⟨p.2,by rw[hp,<-e1],e.2.symm⟩
theorem MapAt.wF(h3:es.toList.map (λe=>(e.key,e.val))=l.map (ent ev))(h:∀x∈es.toList,x.key≠ .int .i64 s):∀p∈l,p.1≠s:=by
 intro p hp e;have:ent ev p∈es.toList.map (λe=>(e.key,e.val)):=by rw[h3];exact agz.2 ⟨p,hp,rfl⟩
 obtain⟨x,hx,e2⟩:=agz.1 this;simp only[ent,agX]at e2;exact h x hx (by rw[e2.1,e])
theorem MapAt.look(c:Bool)(h:MapAt ev w b l)(hk:P.underlying k=some (.int .i64))(ht:P.underlying t=some (.map k e)){z:Value}(hz:(zeroValue e).run P w=.ok z w)(hs:In s):
    (Instr.lookup t (.map (some b)) (.int .i64 s) c).run P w=.ok (match dQ s l with|some a=>if c then .tuple #[ev a,.bool true]else ev a|none=>if c then .tuple #[z,.bool false]else z) w:=by
 have hn:=h.nodup;obtain⟨es,clock,hb,h2,h3,h4⟩:=h;have K:=Maps.int_keyed hk;have hkey:=aj7 hk hs;rcases K.find w hkey es.toList (MapAt.reads hk h3 h4)with⟨h5,h6⟩|⟨j,e0,h5,h6,h7⟩
 .rw[oN (MapAt.wF h3 h6)];simp[Instr.lookup,ahs ht,ahI hb,K.check w _ hkey,h5,hz,Result.andThen]
 obtain⟨a,h8,h9⟩:=MapAt.spot h3 h6 h7;rw[wm hn h8];simp[Instr.lookup,ahs ht,ahI hb,K.check w _ hkey,h5,h9,Result.andThen]
theorem MapAt.put(h:MapAt ev w b l)(hk:P.underlying k=some (.int .i64))(ht:P.underlying t=some (.map k e))(hroom:l.length<maxLen)(hs:In s)(a:α):
    ∃w',(Instr.mapUpdate t (.map (some b)) (.int .i64 s) (ev a)).run P w=.ok () w'/\MapAt ev w' b (dM s a l)/\w.grownBy w' (some b)/\w'.heap.size=w.heap.size:=by
 have hn:=h.nodup;obtain⟨es,clock,hb,h2,h3,h4⟩:=h;have K:=Maps.int_keyed hk;have hkey:=aj7 hk hs;have hsz:es.size=l.length:=by have:=agC List.length h3;simpa using this
 have grow:∀o,w.grownBy (setBlock w b o) (some b):=λo=>⟨rfl,rfl,rfl,by simp[setBlock],λi _ hi=>heap_setBlock_other hb _ (λe=>hi (by rw[e]))⟩;have h10:∀p∈dM s a l,In p.1:=by
  have:∀{l:List (Int×α)},(∀p∈l,In p.1)->∀p∈dM s a l,In p.1:=by
   intro l
   induction l with
   |nil=>intro _ p hp;simp only[dM,agl]at hp;subst hp;exact hs
   |cons q l ih=>
    intro h p hp;rw[dM]at hp;split at hp
    .rcases agm.1 hp with rfl|hp
     .exact hs
     exact h p (agK _ hp)
    rcases agm.1 hp with rfl|hp
    .exact h _ (ahl ..)
    exact ih (λq hq=>h q (agK _ hq)) p hp
  exact this h4
 rcases K.find w hkey es.toList (MapAt.reads hk h3 h4)with⟨h5,h6⟩|⟨j,e0,h5,h6,h7⟩
 .refine⟨setBlock w b (.map (es.push ⟨.int .i64 s,ev a,clock⟩) (clock+1)),?_,⟨_,_,heap_setBlock_same hb _,stamped_push h2 h6,?_,h10⟩,grow _,by simp[setBlock]⟩
  .have:es.size<maxLen:=by omega
   simp[Instr.mapUpdate,ahs ht,ahI hb,K.check w false hkey,h5,aiW _ hb,Result.andThen,setBlock]
  rw[oO (MapAt.wF h3 h6),aj5,ag2,h3,ag2];simp[ent]
 obtain⟨a0,h8,h9⟩:=MapAt.spot h3 h6 h7;have hj:es[j]?=some e0:=by simpa using h6
 have hkeyf:∀e',es[j]?=some e'->({ e' with key:=.int .i64 s,val:=ev a }:MapEntry).key=e'.key:=λe' he'=>by rw[hj]at he';cases he';exact h7.symm
 have hlist:(es.modify j (λe'=>{ e' with key:=.int .i64 s,val:=ev a })).toList=es.toList.set j { e0 with key:=.int .i64 s,val:=ev a }:=by rw[akJ,modify_eq_set _ _ _ _ h6]
 refine⟨setBlock w b (.map (es.modify j (λe'=>{ e' with key:=.int .i64 s,val:=ev a })) clock),?_,⟨_,_,heap_setBlock_same hb _,stamped_modify h2 _ _ (λ_ _=>rfl) (λe' _ he'=>hkeyf e' he'),?_,h10⟩,grow _,by simp[setBlock]⟩
 .simp[Instr.mapUpdate,ahs ht,ahI hb,K.check w false hkey,h5,hj,h7,K.stays w hkey,aiW _ hb,Result.andThen,setBlock]
 rw[hlist,ai_,h3,wo hn h8,ai_];rfl
end
end IM
end
section
variable {F:Fence} {n:Nat} {P:Program} {ops:Array Oper} {Q:Exit->Act->World->Prop} {S:World->Prop}
theorem aJ.tk(i:Nat){oi:Oper}{d:Option Tmp}{v:Value}{k:Nat}{listed:Array Bool}{a b:Act}{w:World}(h:aJ F n P ops Q S k (listed.setIfInBounds i true) b w)(hc:dP ops listed i=true:=by kernel_rfl)(hi:ops[i]?=some oi:=by simp only[agT,agJ,agF];rfl)(hd:oi.dst=d:=by exact rfl)(hF:∀f,F.fn f:=by assumption)
    (hg:Region.wanted oi (yielded ops a.tmps)=true:=by rfl) (hv:∀w,S w->(execOp a.eval oi).run P w=.ok (.value v) w:=by intro w hS;(try subst hS);go_simp;try with_reducible rfl) (hS:S w:=by first|assumption|rfl) (hb:a.put d v=b:=by simp only[Act.put,agx,agu,agv];rfl) (hQ:∀c a w,Q (.panic c) (a.put d v) w->Q (.panic c) a w:=by exact λ_ _ _ h=>h):aJ F n P ops Q S (k+1) listed a w:=by
 subst hb;exact aJ.take hc hi hd hF hQ (.inl ⟨hg,hv⟩) hS h
theorem aJ.sk(i:Nat){oi:Oper}{d:Option Tmp}{k:Nat}{listed:Array Bool}{a b:Act}{w:World}(h:aJ F n P ops Q S k (listed.setIfInBounds i true) b w)(hc:dP ops listed i=true:=by kernel_rfl)(hi:ops[i]?=some oi:=by simp only[agT,agJ,agF];rfl)(hd:oi.dst=d:=by exact rfl)(hF:∀f,F.fn f:=by assumption)
    (hg:Region.wanted oi (yielded ops a.tmps)=false:=by rfl) (hS:S w:=by first|assumption|rfl) (hb:a.put d undef=b:=by simp only[Act.put,agx,agu,agv];rfl) (hQ:∀c a w,Q (.panic c) (a.put d undef) w->Q (.panic c) a w:=by exact λ_ _ _ h=>h):aJ F n P ops Q S (k+1) listed a w:=by
 subst hb;exact aJ.take hc hi hd hF hQ (.inr ⟨hg,rfl⟩) hS h
end
variable{a a0 a1 a2 a3 a4 a5:Act}{l:Array Bool}{ops:Array Oper}{F:Fence}{k n z:Nat}{o0 o1 o2 o3 o4:Oper}{v0 v1 v2 v3 v4:Value}{w:World}
theorem aO{P:Program}{Q:Exit->Act->World->Prop}{S:World->Prop}(h:Q .normal a w)(hr:Region.ready .any ops l=[]:=by kernel_rfl):aJ F n P ops Q S k l a w:=aJ.done hr h
theorem aT{P:Program}{Q:Exit->Act->World->Prop}{S:World->Prop}(i:Nat){oi:Oper}(h:∀K:Act->World->Prop,(∀a w,S w->aJ F n P ops Q S k (l.setIfInBounds i true) a w->K a w)->oi.uponIn F n P a K Q ((execOp a.eval oi).run P w))(hr:(Region.ready .any ops l ==[i])=true:=by kernel_rfl)(hd:nR ops=true:=by kernel_rfl)(hi:ops[i]?=some oi:=by simp only[agT,agJ,agF];rfl)(hF:∀f,F.fn f:=by assumption)(hw:Region.wanted oi (yielded ops a.tmps)=true:=by rfl):aJ F n P ops Q S (k+1) l a w:=aJ.one hr hd hi hF hw h
theorem aU{P:Program}{Q:Exit->Act->World->Prop}{id:Nat}{l:List Oper}(S:World->Prop)(h:aJ Fence.wide 0 P l.toArray Q S l.length (Array.replicate l.length false) a w.drew)(hm:P.follows .mixedOrders=true:=by kernel_rfl):(Code.region id l.toArray true).wp P Q a w:=qX S hm h
theorem tk1{P:Program}{Q:Exit->Act->World->Prop}{S:World->Prop}(i0:Nat){d0:Option Tmp}(h:aJ F n P ops Q S z (l.setIfInBounds i0 true) a1 w)(hc0:dP ops l i0=true:=by kernel_rfl)(hi0:ops[i0]?=some o0:=by simp only[agT,agJ,agF];rfl)(hd0:o0.dst=d0:=by exact rfl)(hg0:Region.wanted o0 (yielded ops a0.tmps)=true:=by rfl)(hv0:∀w,S w->(execOp a0.eval o0).run P w=.ok (.value v0) w:=by intro w hS;(try subst hS);go_simp;try with_reducible rfl)(hb0:a0.put d0 v0=a1:=by simp only[Act.put,agx,agu,agv];rfl)(Qo:∀c a w,Q (.panic c) (a.put d0 v0) w->Q (.panic c) a w:=by exact λ_ _ _ h=>h)(hF:∀f,F.fn f:=by assumption)(hS:S w:=by first|assumption|rfl):aJ F n P ops Q S (z+1) l a0 w:=
 aJ.tk i0 (h) hc0 hi0 hd0 hF hg0 hv0 hS hb0 Qo
theorem tk2{P:Program}{Q:Exit->Act->World->Prop}{S:World->Prop}(i0:Nat){d0:Option Tmp}(i1:Nat){d1:Option Tmp}(h:aJ F n P ops Q S z ((l.setIfInBounds i0 true).setIfInBounds i1 true) a2 w)(hc0:dP ops l i0=true:=by kernel_rfl)(hi0:ops[i0]?=some o0:=by simp only[agT,agJ,agF];rfl)(hd0:o0.dst=d0:=by exact rfl)(hg0:Region.wanted o0 (yielded ops a0.tmps)=true:=by rfl)(hv0:∀w,S w->(execOp a0.eval o0).run P w=.ok (.value v0) w:=by intro w hS;(try subst hS);go_simp;try with_reducible rfl)(hb0:a0.put d0 v0=a1:=by simp only[Act.put,agx,agu,agv];rfl)(Qo:∀c a w,Q (.panic c) (a.put d0 v0) w->Q (.panic c) a w:=by exact λ_ _ _ h=>h)(hc1:dP ops (l.setIfInBounds i0 true) i1=true:=by kernel_rfl)(hi1:ops[i1]?=some o1:=by simp only[agT,agJ,agF];rfl)(hd1:o1.dst=d1:=by exact rfl)(hg1:Region.wanted o1 (yielded ops a1.tmps)=true:=by rfl)(hv1:∀w,S w->(execOp a1.eval o1).run P w=.ok (.value v1) w:=by intro w hS;(try subst hS);go_simp;try with_reducible rfl)(hb1:a1.put d1 v1=a2:=by simp only[Act.put,agx,agu,agv];rfl)(UL:∀c a w,Q (.panic c) (a.put d1 v1) w->Q (.panic c) a w:=by exact λ_ _ _ h=>h)(hF:∀f,F.fn f:=by assumption)(hS:S w:=by first|assumption|rfl):aJ F n P ops Q S (z+2) l a0 w:=
 aJ.tk i0 (aJ.tk i1 (h) hc1 hi1 hd1 hF hg1 hv1 hS hb1 UL) hc0 hi0 hd0 hF hg0 hv0 hS hb0 Qo
theorem tk3{P:Program}{Q:Exit->Act->World->Prop}{S:World->Prop}(i0:Nat){d0:Option Tmp}(i1:Nat){d1:Option Tmp}(i2:Nat){d2:Option Tmp}(h:aJ F n P ops Q S z (((l.setIfInBounds i0 true).setIfInBounds i1 true).setIfInBounds i2 true) a3 w)(hc0:dP ops l i0=true:=by kernel_rfl)(hi0:ops[i0]?=some o0:=by simp only[agT,agJ,agF];rfl)(hd0:o0.dst=d0:=by exact rfl)(hg0:Region.wanted o0 (yielded ops a0.tmps)=true:=by rfl)(hv0:∀w,S w->(execOp a0.eval o0).run P w=.ok (.value v0) w:=by intro w hS;(try subst hS);go_simp;try with_reducible rfl)(hb0:a0.put d0 v0=a1:=by simp only[Act.put,agx,agu,agv];rfl)(Qo:∀c a w,Q (.panic c) (a.put d0 v0) w->Q (.panic c) a w:=by exact λ_ _ _ h=>h)(hc1:dP ops (l.setIfInBounds i0 true) i1=true:=by kernel_rfl)(hi1:ops[i1]?=some o1:=by simp only[agT,agJ,agF];rfl)(hd1:o1.dst=d1:=by exact rfl)(hg1:Region.wanted o1 (yielded ops a1.tmps)=true:=by rfl)(hv1:∀w,S w->(execOp a1.eval o1).run P w=.ok (.value v1) w:=by intro w hS;(try subst hS);go_simp;try with_reducible rfl)(hb1:a1.put d1 v1=a2:=by simp only[Act.put,agx,agu,agv];rfl)(UL:∀c a w,Q (.panic c) (a.put d1 v1) w->Q (.panic c) a w:=by exact λ_ _ _ h=>h)(hc2:dP ops ((l.setIfInBounds i0 true).setIfInBounds i1 true) i2=true:=by kernel_rfl)(hi2:ops[i2]?=some o2:=by simp only[agT,agJ,agF];rfl)(hd2:o2.dst=d2:=by exact rfl)(hg2:Region.wanted o2 (yielded ops a2.tmps)=true:=by rfl)(hv2:∀w,S w->(execOp a2.eval o2).run P w=.ok (.value v2) w:=by intro w hS;(try subst hS);go_simp;try with_reducible rfl)(hb2:a2.put d2 v2=a3:=by simp only[Act.put,agx,agu,agv];rfl)(Zh:∀c a w,Q (.panic c) (a.put d2 v2) w->Q (.panic c) a w:=by exact λ_ _ _ h=>h)(hF:∀f,F.fn f:=by assumption)(hS:S w:=by first|assumption|rfl):aJ F n P ops Q S (z+3) l a0 w:=
 aJ.tk i0 (aJ.tk i1 (aJ.tk i2 (h) hc2 hi2 hd2 hF hg2 hv2 hS hb2 Zh) hc1 hi1 hd1 hF hg1 hv1 hS hb1 UL) hc0 hi0 hd0 hF hg0 hv0 hS hb0 Qo
theorem tk4{P:Program}{Q:Exit->Act->World->Prop}{S:World->Prop}(i0:Nat){d0:Option Tmp}(i1:Nat){d1:Option Tmp}(i2:Nat){d2:Option Tmp}(i3:Nat){d3:Option Tmp}(h:aJ F n P ops Q S z ((((l.setIfInBounds i0 true).setIfInBounds i1 true).setIfInBounds i2 true).setIfInBounds i3 true) a4 w)(hc0:dP ops l i0=true:=by kernel_rfl)(hi0:ops[i0]?=some o0:=by simp only[agT,agJ,agF];rfl)(hd0:o0.dst=d0:=by exact rfl)(hg0:Region.wanted o0 (yielded ops a0.tmps)=true:=by rfl)(hv0:∀w,S w->(execOp a0.eval o0).run P w=.ok (.value v0) w:=by intro w hS;(try subst hS);go_simp;try with_reducible rfl)(hb0:a0.put d0 v0=a1:=by simp only[Act.put,agx,agu,agv];rfl)(Qo:∀c a w,Q (.panic c) (a.put d0 v0) w->Q (.panic c) a w:=by exact λ_ _ _ h=>h)(hc1:dP ops (l.setIfInBounds i0 true) i1=true:=by kernel_rfl)(hi1:ops[i1]?=some o1:=by simp only[agT,agJ,agF];rfl)(hd1:o1.dst=d1:=by exact rfl)(hg1:Region.wanted o1 (yielded ops a1.tmps)=true:=by rfl)(hv1:∀w,S w->(execOp a1.eval o1).run P w=.ok (.value v1) w:=by intro w hS;(try subst hS);go_simp;try with_reducible rfl)(hb1:a1.put d1 v1=a2:=by simp only[Act.put,agx,agu,agv];rfl)(UL:∀c a w,Q (.panic c) (a.put d1 v1) w->Q (.panic c) a w:=by exact λ_ _ _ h=>h)(hc2:dP ops ((l.setIfInBounds i0 true).setIfInBounds i1 true) i2=true:=by kernel_rfl)(hi2:ops[i2]?=some o2:=by simp only[agT,agJ,agF];rfl)(hd2:o2.dst=d2:=by exact rfl)(hg2:Region.wanted o2 (yielded ops a2.tmps)=true:=by rfl)(hv2:∀w,S w->(execOp a2.eval o2).run P w=.ok (.value v2) w:=by intro w hS;(try subst hS);go_simp;try with_reducible rfl)(hb2:a2.put d2 v2=a3:=by simp only[Act.put,agx,agu,agv];rfl)(Zh:∀c a w,Q (.panic c) (a.put d2 v2) w->Q (.panic c) a w:=by exact λ_ _ _ h=>h)(hc3:dP ops (((l.setIfInBounds i0 true).setIfInBounds i1 true).setIfInBounds i2 true) i3=true:=by kernel_rfl)(hi3:ops[i3]?=some o3:=by simp only[agT,agJ,agF];rfl)(hd3:o3.dst=d3:=by exact rfl)(hg3:Region.wanted o3 (yielded ops a3.tmps)=true:=by rfl)(hv3:∀w,S w->(execOp a3.eval o3).run P w=.ok (.value v3) w:=by intro w hS;(try subst hS);go_simp;try with_reducible rfl)(hb3:a3.put d3 v3=a4:=by simp only[Act.put,agx,agu,agv];rfl)(hQ3:∀c a w,Q (.panic c) (a.put d3 v3) w->Q (.panic c) a w:=by exact λ_ _ _ h=>h)(hF:∀f,F.fn f:=by assumption)(hS:S w:=by first|assumption|rfl):aJ F n P ops Q S (z+4) l a0 w:=
 aJ.tk i0 (aJ.tk i1 (aJ.tk i2 (aJ.tk i3 (h) hc3 hi3 hd3 hF hg3 hv3 hS hb3 hQ3) hc2 hi2 hd2 hF hg2 hv2 hS hb2 Zh) hc1 hi1 hd1 hF hg1 hv1 hS hb1 UL) hc0 hi0 hd0 hF hg0 hv0 hS hb0 Qo
theorem zD{P:Program}{Q:Exit->Act->World->Prop}{S:World->Prop}(i0:Nat){d0:Option Tmp}(i1:Nat){d1:Option Tmp}(i2:Nat){d2:Option Tmp}(i3:Nat){d3:Option Tmp}(i4:Nat){d4:Option Tmp}(h:aJ F n P ops Q S z (((((l.setIfInBounds i0 true).setIfInBounds i1 true).setIfInBounds i2 true).setIfInBounds i3 true).setIfInBounds i4 true) a5 w)(hc0:dP ops l i0=true:=by kernel_rfl)(hi0:ops[i0]?=some o0:=by simp only[agT,agJ,agF];rfl)(hd0:o0.dst=d0:=by exact rfl)(hg0:Region.wanted o0 (yielded ops a0.tmps)=true:=by rfl)(hv0:∀w,S w->(execOp a0.eval o0).run P w=.ok (.value v0) w:=by intro w hS;(try subst hS);go_simp;try with_reducible rfl)(hb0:a0.put d0 v0=a1:=by simp only[Act.put,agx,agu,agv];rfl)(Qo:∀c a w,Q (.panic c) (a.put d0 v0) w->Q (.panic c) a w:=by exact λ_ _ _ h=>h)(hc1:dP ops (l.setIfInBounds i0 true) i1=true:=by kernel_rfl)(hi1:ops[i1]?=some o1:=by simp only[agT,agJ,agF];rfl)(hd1:o1.dst=d1:=by exact rfl)(hg1:Region.wanted o1 (yielded ops a1.tmps)=true:=by rfl)(hv1:∀w,S w->(execOp a1.eval o1).run P w=.ok (.value v1) w:=by intro w hS;(try subst hS);go_simp;try with_reducible rfl)(hb1:a1.put d1 v1=a2:=by simp only[Act.put,agx,agu,agv];rfl)(UL:∀c a w,Q (.panic c) (a.put d1 v1) w->Q (.panic c) a w:=by exact λ_ _ _ h=>h)(hc2:dP ops ((l.setIfInBounds i0 true).setIfInBounds i1 true) i2=true:=by kernel_rfl)(hi2:ops[i2]?=some o2:=by simp only[agT,agJ,agF];rfl)(hd2:o2.dst=d2:=by exact rfl)(hg2:Region.wanted o2 (yielded ops a2.tmps)=true:=by rfl)(hv2:∀w,S w->(execOp a2.eval o2).run P w=.ok (.value v2) w:=by intro w hS;(try subst hS);go_simp;try with_reducible rfl)(hb2:a2.put d2 v2=a3:=by simp only[Act.put,agx,agu,agv];rfl)(Zh:∀c a w,Q (.panic c) (a.put d2 v2) w->Q (.panic c) a w:=by exact λ_ _ _ h=>h)(hc3:dP ops (((l.setIfInBounds i0 true).setIfInBounds i1 true).setIfInBounds i2 true) i3=true:=by kernel_rfl)(hi3:ops[i3]?=some o3:=by simp only[agT,agJ,agF];rfl)(hd3:o3.dst=d3:=by exact rfl)(hg3:Region.wanted o3 (yielded ops a3.tmps)=true:=by rfl)(hv3:∀w,S w->(execOp a3.eval o3).run P w=.ok (.value v3) w:=by intro w hS;(try subst hS);go_simp;try with_reducible rfl)(hb3:a3.put d3 v3=a4:=by simp only[Act.put,agx,agu,agv];rfl)(hQ3:∀c a w,Q (.panic c) (a.put d3 v3) w->Q (.panic c) a w:=by exact λ_ _ _ h=>h)(hc4:dP ops ((((l.setIfInBounds i0 true).setIfInBounds i1 true).setIfInBounds i2 true).setIfInBounds i3 true) i4=true:=by kernel_rfl)(hi4:ops[i4]?=some o4:=by simp only[agT,agJ,agF];rfl)(hd4:o4.dst=d4:=by exact rfl)(hg4:Region.wanted o4 (yielded ops a4.tmps)=true:=by rfl)(hv4:∀w,S w->(execOp a4.eval o4).run P w=.ok (.value v4) w:=by intro w hS;(try subst hS);go_simp;try with_reducible rfl)(hb4:a4.put d4 v4=a5:=by simp only[Act.put,agx,agu,agv];rfl)(hQ4:∀c a w,Q (.panic c) (a.put d4 v4) w->Q (.panic c) a w:=by exact λ_ _ _ h=>h)(hF:∀f,F.fn f:=by assumption)(hS:S w:=by first|assumption|rfl):aJ F n P ops Q S (z+5) l a0 w:=
 aJ.tk i0 (aJ.tk i1 (aJ.tk i2 (aJ.tk i3 (aJ.tk i4 (h) hc4 hi4 hd4 hF hg4 hv4 hS hb4 hQ4) hc3 hi3 hd3 hF hg3 hv3 hS hb3 hQ3) hc2 hi2 hd2 hF hg2 hv2 hS hb2 Zh) hc1 hi1 hd1 hF hg1 hv1 hS hb1 UL) hc0 hi0 hd0 hF hg0 hv0 hS hb0 Qo
theorem bJ{P:Program}{Q:Exit->Act->World->Prop}{S:World->Prop}(i0:Nat){d0:Option Tmp}(i1:Nat){d1:Option Tmp}(i2:Nat){d2:Option Tmp}(i3:Nat){d3:Option Tmp}(i4:Nat){d4:Option Tmp}(i5:Nat){o5:Oper}{d5:Option Tmp}{v5:Value}{a6:Act}(h:aJ F n P ops Q S z ((((((l.setIfInBounds i0 true).setIfInBounds i1 true).setIfInBounds i2 true).setIfInBounds i3 true).setIfInBounds i4 true).setIfInBounds i5 true) a6 w)(hc0:dP ops l i0=true:=by kernel_rfl)(hi0:ops[i0]?=some o0:=by simp only[agT,agJ,agF];rfl)(hd0:o0.dst=d0:=by exact rfl)(hg0:Region.wanted o0 (yielded ops a0.tmps)=true:=by rfl)(hv0:∀w,S w->(execOp a0.eval o0).run P w=.ok (.value v0) w:=by intro w hS;(try subst hS);go_simp;try with_reducible rfl)(hb0:a0.put d0 v0=a1:=by simp only[Act.put,agx,agu,agv];rfl)(Qo:∀c a w,Q (.panic c) (a.put d0 v0) w->Q (.panic c) a w:=by exact λ_ _ _ h=>h)(hc1:dP ops (l.setIfInBounds i0 true) i1=true:=by kernel_rfl)(hi1:ops[i1]?=some o1:=by simp only[agT,agJ,agF];rfl)(hd1:o1.dst=d1:=by exact rfl)(hg1:Region.wanted o1 (yielded ops a1.tmps)=true:=by rfl)(hv1:∀w,S w->(execOp a1.eval o1).run P w=.ok (.value v1) w:=by intro w hS;(try subst hS);go_simp;try with_reducible rfl)(hb1:a1.put d1 v1=a2:=by simp only[Act.put,agx,agu,agv];rfl)(UL:∀c a w,Q (.panic c) (a.put d1 v1) w->Q (.panic c) a w:=by exact λ_ _ _ h=>h)(hc2:dP ops ((l.setIfInBounds i0 true).setIfInBounds i1 true) i2=true:=by kernel_rfl)(hi2:ops[i2]?=some o2:=by simp only[agT,agJ,agF];rfl)(hd2:o2.dst=d2:=by exact rfl)(hg2:Region.wanted o2 (yielded ops a2.tmps)=true:=by rfl)(hv2:∀w,S w->(execOp a2.eval o2).run P w=.ok (.value v2) w:=by intro w hS;(try subst hS);go_simp;try with_reducible rfl)(hb2:a2.put d2 v2=a3:=by simp only[Act.put,agx,agu,agv];rfl)(Zh:∀c a w,Q (.panic c) (a.put d2 v2) w->Q (.panic c) a w:=by exact λ_ _ _ h=>h)(hc3:dP ops (((l.setIfInBounds i0 true).setIfInBounds i1 true).setIfInBounds i2 true) i3=true:=by kernel_rfl)(hi3:ops[i3]?=some o3:=by simp only[agT,agJ,agF];rfl)(hd3:o3.dst=d3:=by exact rfl)(hg3:Region.wanted o3 (yielded ops a3.tmps)=true:=by rfl)(hv3:∀w,S w->(execOp a3.eval o3).run P w=.ok (.value v3) w:=by intro w hS;(try subst hS);go_simp;try with_reducible rfl)(hb3:a3.put d3 v3=a4:=by simp only[Act.put,agx,agu,agv];rfl)(hQ3:∀c a w,Q (.panic c) (a.put d3 v3) w->Q (.panic c) a w:=by exact λ_ _ _ h=>h)(hc4:dP ops ((((l.setIfInBounds i0 true).setIfInBounds i1 true).setIfInBounds i2 true).setIfInBounds i3 true) i4=true:=by kernel_rfl)(hi4:ops[i4]?=some o4:=by simp only[agT,agJ,agF];rfl)(hd4:o4.dst=d4:=by exact rfl)(hg4:Region.wanted o4 (yielded ops a4.tmps)=true:=by rfl)(hv4:∀w,S w->(execOp a4.eval o4).run P w=.ok (.value v4) w:=by intro w hS;(try subst hS);go_simp;try with_reducible rfl)(hb4:a4.put d4 v4=a5:=by simp only[Act.put,agx,agu,agv];rfl)(hQ4:∀c a w,Q (.panic c) (a.put d4 v4) w->Q (.panic c) a w:=by exact λ_ _ _ h=>h)(hc5:dP ops (((((l.setIfInBounds i0 true).setIfInBounds i1 true).setIfInBounds i2 true).setIfInBounds i3 true).setIfInBounds i4 true) i5=true:=by kernel_rfl)(hi5:ops[i5]?=some o5:=by simp only[agT,agJ,agF];rfl)(hd5:o5.dst=d5:=by exact rfl)(hg5:Region.wanted o5 (yielded ops a5.tmps)=true:=by rfl)(hv5:∀w,S w->(execOp a5.eval o5).run P w=.ok (.value v5) w:=by intro w hS;(try subst hS);go_simp;try with_reducible rfl)(hb5:a5.put d5 v5=a6:=by simp only[Act.put,agx,agu,agv];rfl)(hQ5:∀c a w,Q (.panic c) (a.put d5 v5) w->Q (.panic c) a w:=by exact λ_ _ _ h=>h)(hF:∀f,F.fn f:=by assumption)(hS:S w:=by first|assumption|rfl):aJ F n P ops Q S (z+6) l a0 w:=
 aJ.tk i0 (aJ.tk i1 (aJ.tk i2 (aJ.tk i3 (aJ.tk i4 (aJ.tk i5 (h) hc5 hi5 hd5 hF hg5 hv5 hS hb5 hQ5) hc4 hi4 hd4 hF hg4 hv4 hS hb4 hQ4) hc3 hi3 hd3 hF hg3 hv3 hS hb3 hQ3) hc2 hi2 hd2 hF hg2 hv2 hS hb2 Zh) hc1 hi1 hd1 hF hg1 hv1 hS hb1 UL) hc0 hi0 hd0 hF hg0 hv0 hS hb0 Qo
theorem dD{P:Program}{Q:Exit->Act->World->Prop}{id:Nat}{l:List Oper}{S:World->Prop}(hS:S w.drew)(h:∀w',S w'->aJ Fence.wide 0 P l.toArray Q S l.length (Array.replicate l.length false) a w')(hm:P.follows .mixedOrders=true:=by kernel_rfl):(Code.region id l.toArray true).wp P Q a w:=qX S hm (h w.drew hS)
end Go.Proofs.YtgbhohfabhilgaaGreatDoor
