import Derived.Test.YtgbhohfabhilgaaGreatDoorEdt01
set_option maxRecDepth 100000
set_option maxHeartbeats 8000000
set_option linter.unusedVariables false
set_option linter.unusedSimpArgs false
namespace Go.Proofs.YtgbhohfabhilgaaGreatDoor
open Go.RowKit Go.Lib
namespace M
attribute [local go_sem] Oper.semAt_some
theorem ado(W:World)(x:Nat):Calls Tryz.prog 34 #[.int .i64 x] W λe w'=>∃T v L,e=.returned (.pointer (some ⟨T,0,none⟩))/\aas W.heap.size w' T v L [x] 0/\Below W.heap.size W w':=by
 obtain⟨w1,hw1⟩:=ay (W.alloc (.cells #[.int .i64 x,.int .i64 (-1),.int .i64 (-1),.int .i64 0,.slice none 0 0] 174))
 have s1:aP W.heap.size w1 174 5 abI (.slice (some ⟨W.heap.size,0,none⟩) 1 1) [nd0 x (-1) 0]:=by rw[<-hw1];exact aP.lit (l:=[nd0 x (-1) 0]) aaG rfl (by unfold maxLen;simp)
 have b1:Below W.heap.size W w1:=by rw[<-hw1];exact(af6 _ _).alloc (af7 _) _
 obtain⟨gd,hgd⟩:=ay (W.heap.size)
 rw[hgd]at s1
 obtain⟨w2,hw2⟩:=ay (w1.alloc (.cells #[.slice (some ⟨gd,0,none⟩) 1 1,.int .i64 0] 177))
 have b2:Below w1.heap.size w1 w2:=by rw[<-hw2];exact(af6 _ _).alloc (af7 _) _
 have k2:aaH w2 w1.heap.size (.slice (some ⟨gd,0,none⟩) 1 1) 0:=by rw[<-hw2];exact aD _ _
 have HR:aA (∃T v L,Ending.returned (.pointer (some ⟨w1.heap.size,0,none⟩))=.returned (.pointer (some ⟨T,0,none⟩))/\aas W.heap.size w2 T v L [x] 0/\Below W.heap.size W w2):=ak ⟨_,_,_,rfl,⟨k2,by rw[hgd];exact s1.below b2,abW.one x,b1.size,by simp⟩,Below.after b1 b2⟩
 clear s1 b1 b2 k2
 go_enter Tryz.func34,Tryz.ntmps34
 go_wp2_with fail
 exact af_ (v:=.pointer (some ⟨w1.heap.size,0,none⟩)) (by simp[results,Tryz.results34,go_sem]) rfl HR.o
section
variable {b0 T m:Nat} {v:Value} {L:List Nd} {X:List Nat} {W:World}
variable{i k:Nat}
theorem aaR(h:aas b0 W T v L X m):Calls Tryz.prog 87 #[.pointer (some ⟨T,0,none⟩)] W λe w'=>e=.returned (.bool false)/\w'=W:=by
 have c0:=h.box.cells.1
 obtain⟨g,cap,d,a,l,c,rfl,-⟩:=h.at h.mx
 have hx:0<X.length:=ajy (agb _) h.mx
 have hne:((X.length:Int)==0)=false:=agh.2 (by omega)
 generalize X.length=n at *
 clear h hx
 go_enter Tryz.func87,Tryz.ntmps87
 go_wp2_with fail
 exact af_ (v:=.bool false) (by simp[results,Tryz.results87,go_sem]) rfl ⟨rfl,rfl⟩
theorem acj(h:aas b0 W T v L X m)(hi:i<X.length):Calls Tryz.prog 91 #[.pointer (some ⟨T,0,none⟩),.int .i64 i] W λe w'=>e=.returned .nilIface/\w'=W:=by
 have HN:=ak (aaR h)
 have c0:=h.box.cells.1
 obtain⟨g,cap,d,a,l,c,rfl,-⟩:=h.at h.mx
 have h1:¬(i:Int)<0:=by omega
 generalize X.length=n at *
 have h2:¬(i:Int)>=(n:Int):=by omega
 clear h
 go_enter Tryz.func91,Tryz.ntmps91
 go_wp2_with fail
 refine HN.o.mono ?_;rintro r w ⟨rfl,h⟩;rw[h];clear h w
 go_wp2_with fail
 exact af_ (v:=.nilIface) (by simp[results,Tryz.results91,go_sem]) rfl ⟨rfl,rfl⟩
theorem abP(h:aas b0 W T v L X m)(hi:i<X.length):Calls Tryz.prog 41 #[.pointer (some ⟨T,0,none⟩),.int .i64 i] W λe w'=>e=.returned (.tuple #[.int .i64 (X[i]:Nat),.nilIface])/\w'=W:=by
 have HN:=ak (acj h hi)
 have c0:=h.box.cells.1
 obtain⟨g,cap,d,a,l,c,rfl,h1,h2,-,-,-,-,hc⟩:=h.at hi
 obtain⟨x0,-⟩:=hc W (λ_ _ e=>e)
 generalize X[i]=x at *
 generalize X.length=n at *
 have hi2:(i:Int)<(n:Int):=by omega
 clear h hc
 go_enter Tryz.func41,Tryz.ntmps41
 go_wp2_with fail
 refine HN.o.mono ?_;rintro r w ⟨rfl,h⟩;rw[h];clear h w
 go_wp2_with fail
 exact af_ (v:=.tuple #[.int .i64 x,.nilIface]) (by simp[results,Tryz.results41,go_sem]) rfl ⟨rfl,rfl⟩
theorem abX(h:aas b0 W T v L X m):Calls Tryz.prog 42 #[.pointer (some ⟨T,0,none⟩)] W λe w'=>e=.returned (.int .i64 m)/\w'=W:=by
 have HN:=ak (aaR h)
 have c1:=h.box.cells.2
 clear h
 go_enter Tryz.func42,Tryz.ntmps42
 go_wp2_with fail
 refine HN.o.mono ?_;rintro r w ⟨rfl,h⟩;rw[h];clear h w
 go_wp2_with fail
 exact af_ (v:=.int .i64 m) (by simp[results,Tryz.results42,go_sem]) rfl ⟨rfl,rfl⟩
theorem aas.move(h:aas b0 W T v L X m)(hk:k<X.length){w:World}(hb:Below W.heap.size W w)(hb0:b0<=W.heap.size):aas b0 (w.setCell ⟨T,1,none⟩ (.int .i64 k)) T v L X k/\Below b0 W (w.setCell ⟨T,1,none⟩ (.int .i64 k)):=by
 have hbx:aaH w T v m:=au hb h.box
 exact⟨⟨aC (i:=1) (.int .i64 k) hbx,aP.setCell (h.lie.below hb) _ (a:=⟨T,1,none⟩) hbx (by decide),h.ok,h.lo,hk⟩,(hb.mono hb0).setCell (p:=⟨T,1,none⟩) h.lo _⟩
theorem acJ(h:aas b0 W T v L X m)(hb0:b0<=W.heap.size)(hk:m=k+1):Calls Tryz.prog 40 #[.pointer (some ⟨T,0,none⟩)] W λe w'=>e=.returned .nilIface/\aas b0 w' T v L X k/\Below b0 W w':=by
 have HF:∀f,Fence.wide.fn f:=λ_=>trivial
 have HN:=ak (aaR h)
 have hmx:=h.mx
 obtain⟨g,cap,d,a,l,c,hv,h1,h2,-,-,-,-,hc⟩:=h.at h.mx
 have e1:((m:Int)-1)=(k:Int):=by omega
 rw[e1]at hc
 have m0:∀w,Below W.heap.size W w->w.cell? ⟨T,0,none⟩=some (.slice (some ⟨g,0,none⟩) X.length cap):=λw hw=>by rw[<-hv];exact(show aaH w T v m from au hw h.box).cells.1
 have m1:∀w,Below W.heap.size W w->w.cell? ⟨T,1,none⟩=some (.int .i64 m):=λw hw=>(show aaH w T v m from au hw h.box).cells.2
 have n1:∀w,Below W.heap.size W w->w.cell? ⟨g,m*5+1,none⟩=some (.int .i64 k):=λw hw=>(hc w (λcs fz e=>au hw e)).2.1
 have f1:∀w,Below W.heap.size W w->w.frozen? ⟨T,1,none⟩=false:=λw hw=>(show aaH w T v m from au hw h.box).free 1
 have HM:=ak (λ(w:World) (hw:Below W.heap.size W w)=>h.move (k:=k) (by omega) hw hb0)
 have c1:=m1 W (af6 _ _)
 have hm0:¬(m:Int)=0:=by omega
 have hmb:((m:Int)==0)=false:=agh.2 hm0
 have hmn:(m:Int)<(X.length:Int):=by omega
 have hmp:0<=(m:Int):=by omega
 generalize X.length=n at *
 clear h hc hk e1 hb0 hmx hv
 go_enter Tryz.func40,Tryz.ntmps40
 go_wp2_with fail
 refine HN.o.mono ?_;rintro r w ⟨rfl,h⟩;rw[h];clear h w
 go_wp2_with fail
 refine aU (Below W.heap.size W) ?_
 obtain⟨wq,hwq⟩:=ay (W.drew)
 have S0:Below W.heap.size W wq:=by rw[<-hwq];exact(af6 _ _).drew
 rw[hwq]
 clear hwq
 refine bJ 0 1 2 3 4 5 ?_
 refine bJ 6 7 8 9 10 11 ?_
 refine tk2 12 13 ?_
 refine aJ.cK 14 (by kernel_rfl) ?_
 simp only[agr,agj]
 have z1:=m1 wq S0
 have z2:=f1 wq S0
 gi_wp2_with fail
 go_wp2_with fail
 exact af_ (v:=.nilIface) (by simp[results,Tryz.results40,go_sem]) rfl ⟨rfl,HM.o wq S0⟩
theorem acM(h:aas b0 W T v L X 0):Calls Tryz.prog 40 #[.pointer (some ⟨T,0,none⟩)] W λe w'=>e=.returned (erV 7)/\w'=W:=by
 have HN:=ak (aaR h)
 have c1:W.cell? ⟨T,1,none⟩=some (.int .i64 0):=h.box.cells.2
 clear h
 go_enter Tryz.func40,Tryz.ntmps40
 go_wp2_with fail
 refine HN.o.mono ?_;rintro r w ⟨rfl,h⟩;rw[h];clear h w
 go_wp2_with fail
 exact af_ (v:=erV 7) (by simp[results,Tryz.results40,go_sem]) rfl ⟨rfl,rfl⟩
theorem acP(h:aas b0 W T v L X m)(hb0:b0<=W.heap.size)(hk:k=m+1)(hkx:k<X.length):Calls Tryz.prog 43 #[.pointer (some ⟨T,0,none⟩)] W λe w'=>e=.returned .nilIface/\aas b0 w' T v L X k/\Below b0 W w':=by
 have HF:∀f,Fence.wide.fn f:=λ_=>trivial
 have HN:=ak (aaR h)
 have hmx:=h.mx
 obtain⟨g,cap,d,a,l,c,hv,h1,h2,-,-,-,-,hc⟩:=h.at h.mx
 rw[af5 (by omega),show((m:Int)+1)=(k:Int) by omega]at hc
 have m0:∀w,Below W.heap.size W w->w.cell? ⟨T,0,none⟩=some (.slice (some ⟨g,0,none⟩) X.length cap):=λw hw=>by rw[<-hv];exact(show aaH w T v m from au hw h.box).cells.1
 have m1:∀w,Below W.heap.size W w->w.cell? ⟨T,1,none⟩=some (.int .i64 m):=λw hw=>(show aaH w T v m from au hw h.box).cells.2
 have n1:∀w,Below W.heap.size W w->w.cell? ⟨g,m*5+2,none⟩=some (.int .i64 k):=λw hw=>(hc w (λcs fz e=>au hw e)).2.2.1
 have f1:∀w,Below W.heap.size W w->w.frozen? ⟨T,1,none⟩=false:=λw hw=>(show aaH w T v m from au hw h.box).free 1
 have HM:=ak (λ(w:World) (hw:Below W.heap.size W w)=>h.move (k:=k) hkx hw hb0)
 have c1:=m1 W (af6 _ _)
 have hk0:¬(k:Int)<0:=by omega
 have hmn:(m:Int)<(X.length:Int):=by omega
 have hmp:0<=(m:Int):=by omega
 generalize X.length=n at *
 clear h hc hk hb0 hmx hv hkx
 go_enter Tryz.func43,Tryz.ntmps43
 go_wp2_with fail
 refine HN.o.mono ?_;rintro r w ⟨rfl,h⟩;rw[h];clear h w
 go_wp2_with fail
 refine aU (Below W.heap.size W) ?_
 obtain⟨wq,hwq⟩:=ay (W.drew)
 have S0:Below W.heap.size W wq:=by rw[<-hwq];exact(af6 _ _).drew
 rw[hwq]
 clear hwq
 refine bJ 0 1 2 3 4 5 ?_
 refine bJ 6 7 8 9 10 11 ?_
 refine aO ?_
 have z1:=m1 wq S0
 have z2:=f1 wq S0
 go_wp2_with fail
 exact af_ (v:=.nilIface) (by simp[results,Tryz.results43,go_sem]) rfl ⟨rfl,HM.o wq S0⟩
end
end M
end Go.Proofs.YtgbhohfabhilgaaGreatDoor
namespace Go.Proofs.YtgbhohfabhilgaaGreatDoor
section
variable {F:Fence} {n:Nat} {P:Program} {ops:Array Oper} {Q:Exit->Act->World->Prop} {S:World->Prop}
def akV(L0:Array Bool)(ops:Array Oper)(listed:Array Bool)(i:Nat):Bool:=(List.range ops.size).all λj=> !listed.getD j true || L0.getD j false || Zd ops ops.size i j
def aal(L0:Array Bool)(F:Fence)(n:Nat)(P:Program)(ops:Array Oper)(Q:Exit->Act->World->Prop)(S:World->Prop):Nat->Array Bool->Act->World->Prop
 |0,listed,a,w=>Region.ready .any ops listed=[]/\Q .normal a w
 |k + 1, listed, a, w => (Region.ready .any ops listed = [] -> Q .normal a w) /\
     ∀i∈Region.ready .any ops listed,wpOpIn F n P ops Q i (λa' w'=>(S w'/\aal L0 F n P ops Q S k (listed.setIfInBounds i true) a' w')\/
      (akV L0 ops listed i=true/\wpAnyIn F n P .any ops Q k (listed.setIfInBounds i true) a' w')) a w
variable {L0:Array Bool}
variable{a:Act}{listed:Array Bool}{i k:Nat}{oi:Oper}{v:Value}{w:World}
theorem aal.any:∀(k:Nat) {listed:Array Bool} {a:Act} {w:World},aal L0 F n P ops Q S k listed a w->wpAnyIn F n P .any ops Q k listed a w
 |0,_,_,_,h=>h
 |k+1,_,_,_,h=>⟨h.1,λi hi=>ajN (λ_ _ x=>x.elim (λy=>aal.any k y.2) (λy=>y.2)) (h.2 i hi)⟩
theorem aal.enter(S:World->Prop)(h:aal listed F n P ops Q S k listed a w):wpAnyIn F n P .any ops Q k listed a w:=aal.any k h
theorem acl(hF:∀f,F.fn f)(hnd:∀(j:Nat) (o:Oper),ops[j]?=some o->∀c,o.op≠ .defer c)(hi:ops[i]?=some oi)(hsel:∀(j:Nat) (o:Oper) cs b,ops[j]?=some o->o.op≠ .select cs b)(hQ:∀c a w,Q (.panic c) (a.put oi.dst v) w->Q (.panic c) a w):
    ∀(k:Nat) (listed:Array Bool) (a:Act) (w:World),
     (∀j oj,ops[j]?=some oj->j≠i->listed.getD j true=false->(∀e∈oj.after,Region.binds .any e=true->e.on≠i)->oi.apart ops oj=true)->
     i∈Region.ready .any ops listed->YieldsIf P ops (λ_=>True) oi v a->wpAnyIn F n P .any ops Q k (listed.setIfInBounds i true) (a.put oi.dst v) w->wpAnyIn F n P .any ops Q (k+1) listed a w:=by
 intro k
 induction k with
 |zero=>
  intro listed a w _ hr hy H
  refine⟨λh=>absurd (h▸hr) (by simp),λj hj=>?_⟩
  by_cases e:j=i
  .subst e;exact Hq hF (.inr (hnd _ _ hi)) hi hy trivial H
  .have:=ready_mono hj e
   rw[H.1]at this;cases this
 |succ k ih=>
  intro listed a w hfree hr hy H
  refine⟨λh=>absurd (h▸hr) (by simp),λj hj=>?_⟩
  by_cases e:j=i
  .subst e;exact Hq hF (.inr (hnd _ _ hi)) hi hy trivial H
  obtain⟨hun,oj,hoj,hall⟩:=aje.1 hj
  have hnot:∀e∈oj.after,Region.binds .any e=true->e.on≠i:=λe he hb heq=>by
   have x1:=hall e he hb
   have x0:=(aje.1 hr).1
   rw[heq]at x1
   by_cases hb:i<listed.size
   .simp[hb]at x0 x1;rw[x0]at x1;cases x1
   .simp[aia (Nat.le_of_not_lt hb)]at x1
  have h2:=Kc hF (.inr (hnd _ _ hoj)) hoj (hfree j oj hoj e hun hnot) (λcs b=>hsel i oi cs b hi) (λcs b=>hsel j oj cs b hoj) hQ hy (H.2 j (ready_mono hj e))
  refine ajN (λa' w' x=>?_) h2
  refine ih _ a' w' (λm om hm hmi hmu hmn=>?_) (ready_mono hr (Ne.symm e)) x.1 ?_
  .refine hfree m om hm hmi ?_ hmn
   by_cases ej:j=m
   .subst ej;exact hun
   .rw[akp true ej]at hmu;exact hmu
  .rw[Array.setIfInBounds_comm _ _ e];exact x.2
theorem aad{d:Option Tmp}(hc:dP ops listed i=true)(hi:ops[i]?=some oi)(hd:oi.dst=d)(hF:∀f,F.fn f)
    (hQ:∀c a w,Q (.panic c) (a.put d v) w->Q (.panic c) a w) (hy:YieldsIf P ops (λ_=>True) oi v a) (h:wpAnyIn F n P .any ops Q k (listed.setIfInBounds i true) (a.put d v) w):wpAnyIn F n P .any ops Q (k+1) listed a w:=by
 subst hd
 unfold dP at hc
 simp only[agy]at hc
 obtain⟨⟨⟨⟨h0,h1⟩,h2⟩,h3⟩,h4⟩:=hc
 exact acl hF (gQ h1) hi (aj1 h2) hQ k listed a w (Region.free_spec hi h3) (by simpa using h4) hy h
theorem aal.first(hF:∀f,F.fn f)(hnd:F.round=none\/∀(j:Nat) (o:Oper),ops[j]?=some o->∀c,o.op≠ .defer c)(hi:ops[i]?=some oi)(hsel:∀(j:Nat) (o:Oper) cs b,ops[j]?=some o->o.op≠ .select cs b)(hQ:∀c a w,Q (.panic c) (a.put oi.dst v) w->Q (.panic c) a w)(h0:L0.getD i false=false):
    ∀(k:Nat) (listed:Array Bool) (a:Act) (w:World),
     Down ops listed->(∀j oj,ops[j]?=some oj->j≠i->listed.getD j true=false->(∀e∈oj.after,Region.binds .any e=true->e.on≠i)->oi.apart ops oj=true)->
     i∈Region.ready .any ops listed->YieldsIf P ops S oi v a->S w->aal L0 F n P ops Q S k (listed.setIfInBounds i true) (a.put oi.dst v) w->aal L0 F n P ops Q S (k+1) listed a w:=by
 have hnd':∀(j:Nat) (o:Oper),ops[j]?=some o->(F.round=none\/∀c,o.op≠ .defer c):=λj o hj=>hnd.imp id λh=>h j o hj
 intro k
 induction k with
 |zero=>
  intro listed a w hdn _ hr hy hS H
  refine⟨λh=>absurd (h▸hr) (by simp),λj hj=>?_⟩
  by_cases e:j=i
  .subst e;exact Hq hF (hnd' _ _ hi) hi hy hS (.inl ⟨hS,H⟩)
  .have:=ready_mono hj e
   rw[H.1]at this;cases this
 |succ k ih=>
  intro listed a w hdn hfree hr hy hS H
  refine⟨λh=>absurd (h▸hr) (by simp),λj hj=>?_⟩
  by_cases e:j=i
  .subst e;exact Hq hF (hnd' _ _ hi) hi hy hS (.inl ⟨hS,H⟩)
  obtain⟨hun,oj,hoj,hall⟩:=aje.1 hj
  have hnot:∀e∈oj.after,Region.binds .any e=true->e.on≠i:=λe he hb heq=>by
   have x1:=hall e he hb
   have x0:=(aje.1 hr).1
   rw[heq]at x1
   by_cases hb:i<listed.size
   .simp[hb]at x0 x1;rw[x0]at x1;cases x1
   .simp[aia (Nat.le_of_not_lt hb)]at x1
  have h2:=Kc hF (hnd' _ _ hoj) hoj (hfree j oj hoj e hun hnot) (λcs b=>hsel i oi cs b hi) (λcs b=>hsel j oj cs b hoj) hQ hy (H.2 j (ready_mono hj e))
  have hir:=aje.1 hr
  have hin:i<listed.size:=by
   rcases aja i listed.size with h|h
   .exact h
   .have:=hir.1;simp[aia h]at this
  refine ajN (λa' w' x=>?_) h2
  rcases x.2 with y|y
  .refine .inl ⟨y.1,ih _ a' w' (hdn.set hj) (λm om hm hmi hmu hmn=>?_) (ready_mono hr (Ne.symm e)) x.1 y.1 ?_⟩
   .refine hfree m om hm hmi ?_ hmn
    by_cases ej:j=m
    .subst ej;exact hun
    .rw[akp true ej]at hmu;exact hmu
   .rw[Array.setIfInBounds_comm _ _ e];exact y.2
  .exfalso
   have hb:=y.1
   unfold akV at hb
   have Dp:i<ops.size:=(aga.1 hi).1
   have:=agS.1 hb i (ahN.2 Dp)
   have hl:(listed.setIfInBounds i true).getD i true=true:=by simp[ahZ,hin]
   rw[hl,h0]at this
   exact Dy hdn (k:=ops.size) (by simpa using this) hir.1 hin hj
def acC(L0:Array Bool)(ops:Array Oper)(listed:Array Bool)(i:Nat):Bool:=dP ops listed i && !L0.getD i false
theorem aal.take{d:Option Tmp}(hc:acC L0 ops listed i=true)(hi:ops[i]?=some oi)(hd:oi.dst=d)(hF:∀f,F.fn f)
    (hQ:∀c a w,Q (.panic c) (a.put d v) w->Q (.panic c) a w) (hy:YieldsIf P ops S oi v a) (hS:S w) (h:aal L0 F n P ops Q S k (listed.setIfInBounds i true) (a.put d v) w):aal L0 F n P ops Q S (k+1) listed a w:=by
 subst hd
 unfold acC dP at hc
 simp only[agy]at hc
 obtain⟨⟨⟨⟨⟨h0,h1⟩,h2⟩,h3⟩,h4⟩,h5⟩:=hc
 exact aal.first hF (.inr (gQ h1)) hi (aj1 h2) hQ (by simpa using h5) k listed a w (Ke h0) (Region.free_spec hi h3) (by simpa using h4) hy hS h
theorem aal.one(hr:(Region.ready .any ops listed ==[i])=true)(hd:nR ops=true)(hi:ops[i]?=some oi)(hF:∀f,F.fn f)(hw:Region.wanted oi (yielded ops a.tmps)=true)
    (h:∀K:Act->World->Prop,(∀a w,S w->aal L0 F n P ops Q S k (listed.setIfInBounds i true) a w->K a w)->oi.uponIn F n P a K Q ((execOp a.eval oi).run P w)):
    aal L0 F n P ops Q S (k+1) listed a w:=by
 have hr:Region.ready .any ops listed=[i]:=by simpa using hr
 refine⟨λh0=>(by rw[hr]at h0;cases h0),λj hj=>?_⟩
 rw[hr]at hj
 obtain rfl:j=i:=by simpa using hj
 refine ajO hi λK hK=>?_
 rw[af5 hw]
 refine⟨λf _=>hF f,?_⟩
 rw[aip _ _ _ (gQ hd _ _ hi)]
 exact h K λa w hS hA=>hK a w (.inl ⟨hS,hA⟩)
theorem aal.wall(hr:(Region.ready .any ops listed ==[i]&&akV L0 ops listed i&&nR ops)=true)(hi:ops[i]?=some oi)(hF:∀f,F.fn f)(hw:Region.wanted oi (yielded ops a.tmps)=true)
    (h:∀K:Act->World->Prop,(∀(S':World->Prop) a w,aal L0 F n P ops Q S' k (listed.setIfInBounds i true) a w->K a w)->oi.uponIn F n P a K Q ((execOp a.eval oi).run P w)):
    aal L0 F n P ops Q S (k+1) listed a w:=by
 simp only[agy]at hr
 have hd:=hr.2
 have hb:=hr.1.2
 have hr:Region.ready .any ops listed=[i]:=by simpa using hr.1.1
 refine⟨λh0=>(by rw[hr]at h0;cases h0),λj hj=>?_⟩
 rw[hr]at hj
 obtain rfl:j=i:=by simpa using hj
 refine ajO hi λK hK=>?_
 rw[af5 hw]
 refine⟨λf _=>hF f,?_⟩
 rw[aip _ _ _ (gQ hd _ _ hi)]
 exact h K λS' a w hA=>hK a w (.inr ⟨hb,aal.any k hA⟩)
theorem aal.done(hr:Region.ready .any ops listed=[])(h:Q .normal a w):aal L0 F n P ops Q S k listed a w:=by
 cases k with
 |zero=>exact⟨hr,h⟩
 |succ k=>exact⟨λ_=>h,by rw[hr];simp⟩
theorem abD{id:Nat}{l:List Oper}(hm:P.follows .mixedOrders=true)(h:wpAnyIn F n P .any l.toArray Q l.length (Array.replicate l.length false) a w.drew):(Code.region id l.toArray true).wpIn F n P Q a w:=
 wpIn_region_any hm (by simpa using h)
end
theorem abm{P:Program}{Q:Exit->Act->World->Prop}{id:Nat}{l:List Oper}{a:Act}{w:World}(hm:P.follows .mixedOrders=true)(h:wpAnyIn Fence.wide 0 P .any l.toArray Q l.length (Array.replicate l.length false) a w.drew):(Code.region id l.toArray true).wp P Q a w:=
 (wpIn_wide (n:=0)).1 (abD hm h)
end Go.Proofs.YtgbhohfabhilgaaGreatDoor
namespace Go.Proofs.YtgbhohfabhilgaaGreatDoor
open Go.RowKit Go.Lib
namespace M
attribute [local go_sem] Oper.semAt_some
abbrev tsU:List TypeId:=[177,174]
theorem bT.Vs{ts:List TypeId}{n0:Nat}{A C:World}{mb pa kb B g:Nat}{E:List En}{K:List (Int×Nat)}(h:bT n0 A mb pa kb B g E K)(ho:bS ts A C)(h1:124∉ts)(h2:129∉ts)(h3:140∉ts):bT n0 C mb pa kb B g E K:=by
 obtain⟨es,c,q1,q2⟩:=h.map
 obtain⟨v,⟨cs,fz,e1,e2⟩,e3⟩:=h.ne
 exact⟨ho.cells h.blk h1,ho.cells h.par h2,⟨es,c,ho.block _ _ q1 (λ_ _ _ q=>by cases q),q2⟩,h.ok,⟨v,⟨cs,fz,ho.cells e1 h3,e2⟩,e3⟩,h.lo⟩
theorem jO.Vs{ts:List TypeId}{n0 B g pa mb kb:Nat}{E:List En}{W w:World}(h:jO n0 W B g pa mb kb E)(ho:bS ts W w)(hb:Below n0 W w)(hq:∀t∈ts,t=177\/t=174\/t=86):jO n0 w B g pa mb kb E:=by
 have k:∀t:TypeId,t≠177->t≠174->t≠86->t∉ts:=λt a b c q=>by
  rcases hq t q with e|e|e
  .exact a e
  .exact b e
  .exact c e
 obtain⟨K,hm⟩:=h.mem
 exact⟨h.st.OG ho (k _ (by decide) (by decide) (by decide)) (k _ (by decide) (by decide) (by decide)),h.wf,h.kt.Vs ho hb (k _ (by decide) (by decide) (by decide)) (k _ (by decide) (by decide) (by decide)),K,hm.Vs ho (k _ (by decide) (by decide) (by decide)) (k _ (by decide) (by decide) (by decide)) (k _ (by decide) (by decide) (by decide))⟩
section
variable {b0 T m:Nat} {v:Value} {L:List Nd} {X:List Nat} {W:World}
theorem afw(h:aas b0 W T v L X m)(hb0:b0<=W.heap.size)(hm:m+1=X.length)(hX:X.length<=1000)(x:Nat):Calls Tryz.prog 37 #[.pointer (some ⟨T,0,none⟩),.int .i64 x] W λe w'=>e=.returned (.int .i64 X.length)/\(∃v' L',aas b0 w' T v' L' (X++[x]) X.length)/\Below b0 W w'/\bS tsU W w':=by
 have HF:∀f,Fence.wide.fn f:=λ_=>trivial
 have HN:=ak (aaR h)
 have hmx:=h.mx
 obtain⟨g,cap,d,a,l,c,hv,h1,h2,hgb,hTg,hz,hfz,hc⟩:=h.at h.mx
 obtain⟨rfl,rfl,rfl⟩:=hz hm
 have hg:g<W.heap.size:=by
  obtain⟨-,cur,jN⟩:=h.lie.blk (b:=g) (by rw[hv];rfl)
  exact(aga.1 jN).1
 have kM:m<L.length:=by rw[h.ok.1];exact hmx
 have hTl:T<W.heap.size:=(aga.1 h.box).1
 obtain⟨n,hn⟩:=ay (X.length)
 rw[hn]at hm hX hv h1 hmx
 have c0:=h.box.cells.1
 have c1:=h.box.cells.2
 rw[hv]at c0
 have hne:((n:Int)==0)=false:=agh.2 (by omega)
 have m0:∀w,Below W.heap.size W w->w.cell? ⟨T,0,none⟩=some (.slice (some ⟨g,0,none⟩) n cap):=λw hw=>by rw[<-hv];exact(show aaH w T v m from au hw h.box).cells.1
 have m1:∀w,Below W.heap.size W w->w.cell? ⟨T,1,none⟩=some (.int .i64 m):=λw hw=>(show aaH w T v m from au hw h.box).cells.2
 have n4:∀w,Below W.heap.size W w->w.cell? ⟨g,m*5+4,none⟩=some (.slice none 0 0):=λw hw=>(hc w (λcs fz e=>au hw e)).2.2.2.2
 have n2:∀w,Below W.heap.size W w->w.cell? ⟨g,m*5+2,none⟩=some (.int .i64 (if m+1<n then(m:Int)+1 else -1)):=λw hw=>by rw[<-hn];exact(hc w (λcs fz e=>au hw e)).2.2.1
 have fr:∀w,Below W.heap.size W w->∀j,w.frozen? ⟨g,j,none⟩=false:=λw hw j=>by
  obtain⟨-,cur,jN⟩:=h.lie.blk (b:=g) (by rw[hv];rfl)
  simp[World.frozen?,au hw jN]
 have HX:=ak (And.intro h (And.intro hb0 (And.intro hv (And.intro hgb (And.intro hTg (And.intro hg (And.intro kM (And.intro hTl hn))))))))
 have hmn:(m:Int)<(n:Int):=by omega
 have hmp:0<=(m:Int):=by omega
 have HMN:=ak (And.intro hm hX)
 clear h hb0 hv hgb hTg hg kM hTl hc hmx h1 h2 hfz hm hX hn hz
 go_enter Tryz.func37,Tryz.ntmps37
 go_wp2_with fail
 refine HN.o.mono ?_;rintro r w ⟨rfl,h⟩;rw[h];clear h w
 go_wp2_with fail
 refine aU (Below W.heap.size W) ?_
 obtain⟨wq,hwq⟩:=ay (W.drew)
 have S0:Below W.heap.size W wq:=by rw[<-hwq];exact(af6 _ _).drew
 rw[hwq]
 clear hwq
 refine bJ 0 1 2 3 4 5 ?_
 refine tk4 6 7 8 9 ?_
 refine aO ?_
 have x4:=n4 wq S0
 have hN0:P6 wq.heap.size wq (.slice none 0 0) []:=aP.nil _ _ _ _ _
 have JZ:=ak S0
 have yV:=ak (And.intro m0 m1)
 have HN4:=ak (And.intro n4 fr)
 clear m0 m1 n2 n4 fr S0 c0 c1
 go_wp2_with (first
  | (at_builtin;refine bP (v:=.slice none 0 0) KY bX rfl _ _ rfl rfl hN0 n rfl rfl ?c1 ?c2 (af7 _) ?_))
 case c1=>simp[gF,Value.oneCell']
 case c2=>simp
 intro v4 w4 Xv hg4 hb4
 obtain⟨va,vc,hv4⟩:=Xv.len
 have hv4':v4=.slice va 1 vc:=hv4
 subst hv4'
 have B4:Below W.heap.size W w4:=Below.after JZ.o hb4
 obtain⟨h,hb0,hv,hgb,hTg,hg,kM,hTl,hn⟩:=HX.o
 have hL4:aP b0 w4 174 5 abI (.slice (some ⟨g,0,none⟩) n cap) L:=by rw[<-hv];exact h.lie.below B4
 have hT4:aaH w4 T (.slice (some ⟨g,0,none⟩) n cap) m:=by rw[<-hv];exact au B4 h.box
 obtain⟨-,cur4,hc4⟩:=hL4.blk (b:=g) rfl
 have h5:=aP.setAt aaG hL4 (i:=m) (j:=4) kM (by omega) (x':=⟨L[m].id,L[m].par,L[m].pre,L[m].dep,va,1,vc⟩) (u:=.slice va 1 vc) rfl
 obtain⟨w5,eH⟩:=ay (w4.setCell ⟨g,m*5+4,none⟩ (.slice va 1 vc))
 have hT5:aaH w5 T (.slice (some ⟨g,0,none⟩) n cap) m:=by rw[<-eH];exact aB hTg hT4
 have ho5:bS tsU w4 w5:=by rw[<-eH];exact bS.set (a:=⟨g,m*5+4,none⟩) hc4 (by simp[tsU]) _
 have hb5:Below b0 w4 w5:=by rw[<-eH];exact(af6 _ _).setCell (p:=⟨g,m*5+4,none⟩) hgb _
 rw[eH]at h5
 obtain⟨-,cur5,hc5⟩:=h5.blk (b:=g) rfl
 have akW:m<(L.set m ⟨L[m].id,L[m].par,L[m].pre,L[m].dep,va,1,vc⟩).length:=by rw[agL];exact kM
 obtain⟨pz,y2⟩:∃p,w5.cell? ⟨g,m*5+2,none⟩=some (.int .i64 p):=⟨L[m].pre,by
  rw[aP.cell aaG h5 akW (j:=2) (by omega),ajY];rfl⟩
 have z2:w5.frozen? ⟨g,m*5+2,none⟩=false:=by simp[World.frozen?,hc5]
 have h6:=aP.setAt aaG h5 (i:=m) (j:=2) akW (by omega) (x':=⟨L[m].id,L[m].par,(m:Int)+1,L[m].dep,va,1,vc⟩) (u:=.int .i64 (n:Int)) (by
  rw[ajY]
  show[_,_,_,_,_]=_
  rw[show((m:Int)+1)=(n:Int) by have:=HMN.o.1;omega];rfl)
 rw[akl]at h6
 obtain⟨w6,dH⟩:=ay (w5.setCell ⟨g,m*5+2,none⟩ (.int .i64 (n:Int)))
 have hT6:aaH w6 T (.slice (some ⟨g,0,none⟩) n cap) m:=by rw[<-dH];exact aB hTg hT5
 have ho6:bS tsU w5 w6:=by rw[<-dH];exact bS.set (a:=⟨g,m*5+2,none⟩) hc5 (by simp[tsU]) _
 have hb6:Below b0 w5 w6:=by rw[<-dH];exact(af6 _ _).setCell (p:=⟨g,m*5+2,none⟩) hgb _
 rw[dH]at h6
 have hsn:=h.ok.snoc (by rw[hn];exact HMN.o.1) kM x
 obtain⟨L6,hL6⟩:=ay (L.set m ⟨L[m].id,L[m].par,(m:Int)+1,L[m].dep,va,1,vc⟩)
 have vG:m<L6.length:=by rw[<-hL6,agL];exact kM
 have hl6:L6.length=n:=by rw[<-hL6,agL,h.ok.1,hn]
 have Pm:aA (∀d,abW (X++[x]) (L6++[nd0 x m d])):=ak λd=>by rw[<-hL6];exact hsn d va 1 vc
 rw[hL6]at h6
 have hdp:∃d,∀w,Below w6.heap.size w6 w->w.cell? ⟨g,m*5+3,none⟩=some (.int .i64 d):=⟨L6[m].dep,λw hw=>by
  rw[aP.cell aaG (h6.below hw) vG (j:=3) (by omega)];rfl⟩
 obtain⟨dp,m3⟩:=hdp
 have m0:∀w,Below w6.heap.size w6 w->w.cell? ⟨T,0,none⟩=some (.slice (some ⟨g,0,none⟩) n cap):=λw hw=>(show aaH w T _ m from au hw hT6).cells.1
 have m1:∀w,Below w6.heap.size w6 w->w.cell? ⟨T,1,none⟩=some (.int .i64 m):=λw hw=>(show aaH w T _ m from au hw hT6).cells.2
 have HF6:=ak (And.intro (((bS.of B4).trans ho5).trans ho6) (((B4.mono hb0).trans hb5).trans hb6))
 have H6:=ak h6;have K_:=ak hT6;have Uv:=ak hl6
 have a4:=HN4.o.1 w4 B4
 have f4:=HN4.o.2 w4 B4 (m*5+4)
 clear Xv hg4 hb4 B4 h hb0 hv hL4 hT4 hc4 h5 hT5 ho5 hb5 hc5 akW h6 hT6 ho6 hb6 hsn hL6 vG hl6 kM hTl hg hN0 x4
 go_wp2_with fail
 obtain⟨w7,hw7⟩:=ay (w6.drew)
 have S0:Below w6.heap.size w6 w7:=by rw[<-hw7];exact(af6 _ _).drew
 obtain⟨dq,hdq⟩:=ay (IntKind.i64.wrap (dp+1))
 have h7:=H6.o.below S0
 have hT7:aaH w7 T (.slice (some ⟨g,0,none⟩) n cap) m:=au S0 K_.o
 have aac:b0<=w7.heap.size:=af9 HX.o.2.1 (af9 HF6.o.1.size S0.size)
 obtain⟨v9,w9,hrun,hS9,DW,hb9,-⟩:=eB akT aaG 175 h7 (nd0 x m dq) 1 (cs:=#[.int .i64 x,.int .i64 m,.int .i64 (-1),.int .i64 dq,.slice none 0 0]) rfl (acI _) (by rw[Uv.o];have:=HMN.o.2;omega) aac
 obtain⟨a9,c9,hv9⟩:=hS9.len
 rw[af8,Uv.o]at hv9
 replace hv9:v9=.slice a9 (n+1) c9:=hv9
 subst hv9
 have hT9:aaH w9 T (.slice (some ⟨g,0,none⟩) n cap) m:=g_ h7 DW hT7 (by decide)
 have ho9:bS tsU w7 w9:=bS.own h7 ((af6 _ _).alloc (af7 _) _) DW (by simp[tsU])
 have S8:Below w6.heap.size w6 (w7.alloc (.cells #[.int .i64 x,.int .i64 m,.int .i64 (-1),.int .i64 dq,.slice none 0 0] 174)):=S0.alloc S0.size _
 have H9:=ak (And.intro hS9 (And.intro hT9 (And.intro ho9 (And.intro hb9 S0))))
 clear DW h7 hT7 aac hS9 hT9 ho9 hb9
 refine abm (by kernel_rfl) ?_
 rw[hw7]
 clear hw7
 refine aad (i:=0) (d:=some 37) (v:=?_) (by kernel_rfl) rfl rfl HF (λ_ _ _ h=>h) (.inl ⟨by rfl,?_⟩) ?_
 rotate_left
 .intro w _
  go_simp;try with_reducible rfl
 refine aad (i:=1) (d:=some 38) (v:=?_) (by kernel_rfl) rfl rfl HF (λ_ _ _ h=>h) (.inl ⟨by rfl,?_⟩) ?_
 rotate_left
 .intro w _
  go_simp;try with_reducible rfl
 refine aad (i:=2) (d:=some 39) (v:=?_) (by kernel_rfl) rfl rfl HF (λ_ _ _ h=>h) (.inl ⟨by rfl,?_⟩) ?_
 rotate_left
 .intro w _
  go_simp;try with_reducible rfl
 refine aad (i:=3) (d:=some 40) (v:=?_) (by kernel_rfl) rfl rfl HF (λ_ _ _ h=>h) (.inl ⟨by rfl,?_⟩) ?_
 rotate_left
 .intro w _
  go_simp;try with_reducible rfl
 refine aad (i:=5) (d:=some 42) (v:=?_) (by kernel_rfl) rfl rfl HF (λ_ _ _ h=>h) (.inl ⟨by rfl,?_⟩) ?_
 rotate_left
 .intro w _
  go_simp;try with_reducible rfl
 refine aad (i:=6) (d:=some 43) (v:=?_) (by kernel_rfl) rfl rfl HF (λ_ _ _ h=>h) (.inl ⟨by rfl,?_⟩) ?_
 rotate_left
 .intro w _
  go_simp;try with_reducible rfl
 refine aad (i:=7) (d:=some 44) (v:=?_) (by kernel_rfl) rfl rfl HF (λ_ _ _ h=>h) (.inl ⟨by rfl,?_⟩) ?_
 rotate_left
 .intro w _
  go_simp;try with_reducible rfl
 refine aad (i:=8) (d:=some 45) (v:=?_) (by kernel_rfl) rfl rfl HF (λ_ _ _ h=>h) (.inl ⟨by rfl,?_⟩) ?_
 rotate_left
 .intro w _
  go_simp;try with_reducible rfl
 refine aad (i:=10) (d:=some 47) (v:=?_) (by kernel_rfl) rfl rfl HF (λ_ _ _ h=>h) (.inl ⟨by rfl,?_⟩) ?_
 rotate_left
 .intro w _
  go_simp;try with_reducible rfl
 refine aad (i:=11) (d:=some 48) (v:=?_) (by kernel_rfl) rfl rfl HF (λ_ _ _ h=>h) (.inl ⟨by rfl,?_⟩) ?_
 rotate_left
 .intro w _
  go_simp;try with_reducible rfl
 refine aad (i:=12) (d:=some 49) (v:=?_) (by kernel_rfl) rfl rfl HF (λ_ _ _ h=>h) (.inl ⟨by rfl,?_⟩) ?_
 rotate_left
 .intro w _
  go_simp;try with_reducible rfl
 refine aal.enter (Below w6.heap.size w6) ?_
 refine aal.take (i:=4) (d:=some 41) (v:=?_) (by kernel_rfl) rfl rfl HF (λ_ _ _ h=>h) (.inl ⟨by rfl,?_⟩) (by first|assumption|rfl) ?_
 rotate_left
 .intro w hS;try subst hS
  go_simp;try with_reducible rfl
 refine aal.take (i:=9) (d:=some 46) (v:=?_) (by kernel_rfl) rfl rfl HF (λ_ _ _ h=>h) (.inl ⟨by rfl,?_⟩) (by first|assumption|rfl) ?_
 rotate_left
 .intro w hS;try subst hS
  go_simp;try with_reducible rfl
 refine aal.take (i:=13) (d:=some 50) (v:=?_) (by kernel_rfl) rfl rfl HF (λ_ _ _ h=>h) (.inl ⟨by rfl,?_⟩) (by first|assumption|rfl) ?_
 rotate_left
 .intro w hS;try subst hS
  go_simp;try with_reducible rfl
 refine aal.take (i:=14) (d:=some 51) (v:=?_) (by kernel_rfl) rfl rfl HF (λ_ _ _ h=>h) (.inl ⟨by rfl,?_⟩) (by first|assumption|rfl) ?_
 rotate_left
 .intro w hS;try subst hS
  go_simp;try with_reducible rfl
 refine aal.take (i:=15) (d:=some 52) (v:=?_) (by kernel_rfl) rfl rfl HF (λ_ _ _ h=>h) (.inl ⟨by rfl,?_⟩) (by first|assumption|rfl) ?_
 rotate_left
 .intro w hS;try subst hS
  go_simp;try with_reducible rfl
 refine aal.one (i:=16) (by kernel_rfl) (by kernel_rfl) rfl HF (by rfl) (λK hK=>?_)
 go_simp
 refine hK _ _ S8 ?_
 clear hK K
 refine aal.wall (i:=17) (by kernel_rfl) rfl HF (by rfl) (λK hK=>?_)
 simp[execOp,resolve,invoke,builtin,hrun,Result.andThen,Act.eval,Oper.uponIn]
 have T0:uz w9:=trivial
 refine hK uz _ _ ?_
 clear hK K hrun
 obtain⟨t0,t1⟩:=H9.o.2.1.cells
 have u0:=H9.o.2.1.free 0
 refine aal.take (i:=18) (d:=some 55) (v:=?_) (by kernel_rfl) rfl rfl HF (λ_ _ _ h=>h) (.inl ⟨by rfl,?_⟩) (by first|assumption|rfl) ?_
 rotate_left
 .intro w hS;try subst hS
  go_simp;try with_reducible rfl
 refine aal.take (i:=19) (d:=some 56) (v:=?_) (by kernel_rfl) rfl rfl HF (λ_ _ _ h=>h) (.inl ⟨by rfl,?_⟩) (by first|assumption|rfl) ?_
 rotate_left
 .intro w hS;try subst hS
  go_simp;try with_reducible rfl
 refine aal.one (i:=20) (by kernel_rfl) (by kernel_rfl) rfl HF (by rfl) (λK hK=>?_)
 go_simp
 refine hK _ _ trivial ?_
 clear hK K
 refine aal.done (by kernel_rfl) ?_
 obtain⟨wA,hwA⟩:=ay (w9.setCell ⟨T,0,none⟩ (.slice a9 (n+1) c9))
 have hTA:aaH wA T (.slice a9 (n+1) c9) m:=by rw[<-hwA];exact aC (i:=0) _ H9.o.2.1
 obtain⟨wB,FI⟩:=ay (wA.setCell ⟨T,1,none⟩ (.int .i64 (n:Int)))
 have hTB:aaH wB T (.slice a9 (n+1) c9) n:=by rw[<-FI];exact aC (i:=1) (.int .i64 (n:Int)) hTA
 obtain⟨p0,p1⟩:=hTA.cells
 have r1:=hTA.free 1
 have HR:aA ((∃v' L',aas b0 wB T v' L' (X++[x]) X.length)/\Below b0 W wB/\bS tsU W wB):=ak (by
  obtain⟨hS9,hT9,ho9,hb9,S0⟩:=H9.o
  obtain⟨h,hb0,hv,hgb,hTg,hg,kM,hTl,hn⟩:=HX.o
  have hSA:=aP.setCell hS9 (.slice a9 (n+1) c9) (a:=⟨T,0,none⟩) hT9 (by decide)
  rw[hwA]at hSA
  have hSB:=aP.setCell hSA (.int .i64 (n:Int)) (a:=⟨T,1,none⟩) hTA (by decide)
  rw[FI]at hSB
  have b67:Below b0 w6 w7:=S0.mono (af9 hb0 HF6.o.1.size)
  have bA:Below b0 w9 wA:=by rw[<-hwA];exact(af6 _ _).setCell (p:=⟨T,0,none⟩) h.lo _
  have bB:Below b0 wA wB:=by rw[<-FI];exact(af6 _ _).setCell (p:=⟨T,1,none⟩) h.lo _
  have oA:bS tsU w9 wA:=by rw[<-hwA];exact bS.set (a:=⟨T,0,none⟩) hT9 (by simp[tsU]) _
  have oB:bS tsU wA wB:=by rw[<-FI];exact bS.set (a:=⟨T,1,none⟩) hTA (by simp[tsU]) _
  refine⟨⟨_,_,⟨by rw[hn];exact hTB,hSB,Pm.o dq,h.lo,by simp⟩⟩,(((HF6.o.2.trans b67).trans hb9).trans bA).trans bB,(((HF6.o.1.trans (bS.of S0)).trans ho9).trans oA).trans oB⟩)
 have kH:=ak HX.o.2.2.2.2.2.2.2.2
 clear hTA hTB
 go_wp2_with fail
 exact af_ (v:=.int .i64 n) (by simp[results,Tryz.results37,go_sem]) rfl ⟨by rw[kH.o],HR.o⟩
end
end M
end Go.Proofs.YtgbhohfabhilgaaGreatDoor
namespace Go.Proofs.YtgbhohfabhilgaaGreatDoor
open Go.RowKit Go.Lib
namespace M
attribute [local go_sem] Oper.semAt_some
def abB(L K:List Edt)(i:Nat):Prop:=K.length=L.length/\∀k (h:k<K.length) (h2:k<L.length) (h3:L.length-1-k<L.length),K[k]=if k<i\/L.length<=k+i then L[L.length-1-k]else L[k]
theorem abB.zero(L:List Edt):abB L L 0:=⟨rfl,λk h h2 h3=>by rw[af4 (by omega)]⟩
theorem abB.next{L K:List Edt}{i j:Nat}(h:abB L K i)(hj:i+j+1=L.length)(hij:i<j)(hi:i<K.length)(hjk:j<K.length):abB L ((K.set i K[j]).set j K[i]) (i+1):=by
 have hl:=h.1
 have ei:=h.2 i hi (by omega) (by omega)
 have ej:=h.2 j hjk (by omega) (by omega)
 rw[af4 (by omega)]at ei ej
 refine⟨by simp[hl],λk h1 h2 h3=>?_⟩
 rw[List.getElem_set]
 split
 .next q=>
  subst q
  rw[af5 (by omega),ei]
  congr 1;omega
 .next q=>
  rw[List.getElem_set]
  split
  .next q2=>
   subst q2
   rw[af5 (by omega),ej]
   congr 1;omega
  .next q2=>
   rw[h.2 k (by omega) h2 h3]
   by_cases c:k<i\/L.length<=k+i
   .rw[af5 c,af5 (by omega)]
   .rw[af4 c,af4 (by omega)]
theorem abB.done{L K:List Edt}{i:Nat}(h:abB L K i)(hi:L.length<=2*i+1):K=L.reverse:=by
 refine aj9 (by rw[ajw];exact h.1) λk h1 h2=>?_
 have hl:=h.1
 rw[List.getElem_reverse,h.2 k h1 (by omega) (by omega)]
 split
 .rfl
 .congr 1;omega
theorem abY{W:World}{g o:Nat}{cs:Array Value}(h:W.heap[g]?=some (.cells cs 86 (0,0)))(u0 u1 u2 u3 u4:Value):bS [86] W (((((W.setCell ⟨g,o,none⟩ u0).setCell ⟨g,o+1,none⟩ u1).setCell ⟨g,o+2,none⟩ u2).setCell ⟨g,o+3,none⟩ u3).setCell ⟨g,o+4,none⟩ u4):=by
 have k1:=aC (i:=o) u0 h
 have k2:=aC (i:=o+1) u1 k1
 have k3:=aC (i:=o+2) u2 k2
 have k4:=aC (i:=o+3) u3 k3
 have m:86∈[86]:=by simp
 exact((((bS.set (a:=⟨g,o,none⟩) h m _).trans (bS.set (a:=⟨g,o+1,none⟩) k1 m _)).trans (bS.set (a:=⟨g,o+2,none⟩) k2 m _)).trans (bS.set (a:=⟨g,o+3,none⟩) k3 m _)).trans (bS.set (a:=⟨g,o+4,none⟩) k4 m _)
theorem abJ{n:Nat}{w0 w:World}(h:Below n w0 w){g o:Nat}(hg:n<=g)(u0 u1 u2 u3 u4:Value):Below n w0 (((((w.setCell ⟨g,o,none⟩ u0).setCell ⟨g,o+1,none⟩ u1).setCell ⟨g,o+2,none⟩ u2).setCell ⟨g,o+3,none⟩ u3).setCell ⟨g,o+4,none⟩ u4):=((((h.setCell (p:=⟨g,o,none⟩) hg _).setCell (p:=⟨g,o+1,none⟩) hg _).setCell (p:=⟨g,o+2,none⟩) hg _).setCell (p:=⟨g,o+3,none⟩) hg _).setCell (p:=⟨g,o+4,none⟩) hg _
def afH(w:World)(g o:Nat)(e:Edt):Prop:=w.cell? ⟨g,o,none⟩=some (.int .i64 e.kind)/\w.cell? ⟨g,o+1,none⟩=some (.int .i64 e.pos)/\w.cell? ⟨g,o+2,none⟩=some (.int .i64 e.n)/\w.cell? ⟨g,o+3,none⟩=some (.int .i64 e.af4)/\w.cell? ⟨g,o+4,none⟩=some (.int .i64 e.id)
theorem Eds.blk{b0:Nat}{W:World}{g n c:Nat}{L:List Edt}(h:Eds b0 W (.slice (some ⟨g,0,none⟩) n c) L):b0<=g/\(∃cur,W.heap[g]?=some (.cells cur 86 (0,0)))/\∀i (hi:i<L.length),afH W g (i*5) L[i]:=by
 obtain⟨h1,h2⟩:=aP.blk h (b:=g) rfl
 refine⟨h1,h2,λi hi=>?_⟩
 have c:=λ(j:Nat) (hj:j<5)=>aP.cell aax h hi (j:=j) hj
 exact⟨c 0 (by omega),c 1 (by omega),c 2 (by omega),c 3 (by omega),c 4 (by omega)⟩
theorem adq{W:World}{b0:Nat}(hb0:b0<=W.heap.size){v:Value}{L:List Edt}(h:Eds b0 W v L)(hL:L.length<=1000):Calls Tryz.prog 90 #[v] W λe w'=>e=.returned (.tuple #[])/\Eds b0 w' v L.reverse/\Below b0 W w'/\bS [86] W w':=by
 have HF:∀f,Fence.wide.fn f:=λ_=>trivial
 obtain⟨va,vc,rfl⟩:=h.len
 obtain⟨n,hn⟩:=ay (L.length)
 rw[hn]at h hL⊢
 have HH:=ak (And.intro h (And.intro hn hb0))
 have hw0:IntKind.i64.wrap ((n:Int)-1)=(n:Int)-1:=by rw[agd];omega
 clear h hn hb0
 go_enter Tryz.func90,Tryz.ntmps90
 go_wp2_with fail
 go_loopw [2,3] (λx c wr=>∃(i:Nat) (K:List Edt),2*i<=n+1/\x=.int .i64 i/\c=.int .i64 ((n:Int)-1-i)/\abB L K i/\Eds b0 wr (.slice va n vc) K/\Below b0 W wr/\bS [86] W wr) (λx _ _=>n+1-(intOf x).toNat)
 case atStart=>
  exact⟨0,L,by omega,rfl,by simp,abB.zero L,HH.o.1,af6 _ _,bS.refl _ _⟩
 case round=>
  obtain⟨i,K,hi2,rfl,rfl,hr,hs,hbw,hon⟩:=hrel
  obtain⟨c,hc⟩:∃c:Int,(n:Int)-1-i=c:=⟨_,rfl⟩
  rw[hc]
  by_cases hlt:(i:Int)<c
  .obtain⟨j,hj⟩:∃j:Nat,i+j+1=n:=⟨n-1-i,by omega⟩
   obtain rfl:c=(j:Int):=by omega
   have hij:i<j:=by omega
   have hkl:K.length=n:=by rw[hr.1,HH.o.2.1]
   rcases hs.shape with⟨-,q⟩|⟨g,cap,e1,h1,h2⟩
   .rw[q]at hkl;simp at hkl;omega
   rw[hkl]at e1 h1
   simp only[agn]at e1
   obtain⟨rfl,-,rfl⟩:=e1
   obtain⟨hg,-,-⟩:=Eds.blk hs
   have ai:i<K.length:=by omega
   have aj:j<K.length:=by omega
   have SY:=ak (hr.next (by rw[HH.o.2.1];exact hj) hij ai aj)
   have HS:=ak hs
   have HI:aA (∀w,Below wr.heap.size wr w->afH w g (i*5) K[i]):=ak λw hw=>(Eds.blk (HS.o.below hw)).2.2 i ai
   have HJ:aA (∀w,Below wr.heap.size wr w->afH w g (j*5) K[j]):=ak λw hw=>(Eds.blk (HS.o.below hw)).2.2 j aj
   have j_:aA (∀w,Below wr.heap.size wr w->Eds b0 (((((w.setCell ⟨g,i*5,none⟩ (.int .i64 K[j].kind)).setCell ⟨g,i*5+1,none⟩ (.int .i64 K[j].pos)).setCell ⟨g,i*5+2,none⟩ (.int .i64 K[j].n)).setCell ⟨g,i*5+3,none⟩ (.int .i64 K[j].af4)).setCell ⟨g,i*5+4,none⟩ (.int .i64 K[j].id)) (.slice (some ⟨g,0,none⟩) n vc) (K.set i K[j])):=ak λw hw=>aP.adu aax (HS.o.below hw) ai rfl
   have HS2:aA (∀w,Eds b0 w (.slice (some ⟨g,0,none⟩) n vc) (K.set i K[j])->Eds b0 (((((w.setCell ⟨g,j*5,none⟩ (.int .i64 K[i].kind)).setCell ⟨g,j*5+1,none⟩ (.int .i64 K[i].pos)).setCell ⟨g,j*5+2,none⟩ (.int .i64 K[i].n)).setCell ⟨g,j*5+3,none⟩ (.int .i64 K[i].af4)).setCell ⟨g,j*5+4,none⟩ (.int .i64 K[i].id)) (.slice (some ⟨g,0,none⟩) n vc) ((K.set i K[j]).set j K[i])):=ak λw hw=>aP.adu aax hw (by rw[agL];exact aj) rfl
   have HJ1:aA (∀w,Eds b0 w (.slice (some ⟨g,0,none⟩) n vc) (K.set i K[j])->afH w g (j*5) K[j]):=ak λw hw=>by
    have:=(Eds.blk hw).2.2 j (by rw[agL];exact aj)
    rwa [List.getElem_set_ne (by omega)]at this
   have HW:=ak (And.intro hbw (And.intro hon (And.intro hg (And.intro hij hj))))
   generalize K[i]=di at *
   generalize K[j]=dj at *
   obtain⟨K1,hK1⟩:=ay (K.set i dj)
   rw[hK1]at j_ HS2 HJ1 SY
   obtain⟨K2,hK2⟩:=ay (K1.set j di)
   rw[hK2]at HS2 SY
   have x0:∀w,Below wr.heap.size wr w->w.cell? ⟨g,i*5,none⟩=some (.int .i64 di.kind):=λw hw=>(HI.o w hw).1
   have x1:∀w,Below wr.heap.size wr w->w.cell? ⟨g,i*5+1,none⟩=some (.int .i64 di.pos):=λw hw=>(HI.o w hw).2.1
   have x2:∀w,Below wr.heap.size wr w->w.cell? ⟨g,i*5+2,none⟩=some (.int .i64 di.n):=λw hw=>(HI.o w hw).2.2.1
   have x3:∀w,Below wr.heap.size wr w->w.cell? ⟨g,i*5+3,none⟩=some (.int .i64 di.af4):=λw hw=>(HI.o w hw).2.2.2.1
   have x4:∀w,Below wr.heap.size wr w->w.cell? ⟨g,i*5+4,none⟩=some (.int .i64 di.id):=λw hw=>(HI.o w hw).2.2.2.2
   have y0:∀w,Below wr.heap.size wr w->w.cell? ⟨g,j*5,none⟩=some (.int .i64 dj.kind):=λw hw=>(HJ.o w hw).1
   have y1:∀w,Below wr.heap.size wr w->w.cell? ⟨g,j*5+1,none⟩=some (.int .i64 dj.pos):=λw hw=>(HJ.o w hw).2.1
   have y2:∀w,Below wr.heap.size wr w->w.cell? ⟨g,j*5+2,none⟩=some (.int .i64 dj.n):=λw hw=>(HJ.o w hw).2.2.1
   have y3:∀w,Below wr.heap.size wr w->w.cell? ⟨g,j*5+3,none⟩=some (.int .i64 dj.af4):=λw hw=>(HJ.o w hw).2.2.2.1
   have y4:∀w,Below wr.heap.size wr w->w.cell? ⟨g,j*5+4,none⟩=some (.int .i64 dj.id):=λw hw=>(HJ.o w hw).2.2.2.2
   have q1:(i:Int)<(n:Int):=by omega
   have q2:(j:Int)<(n:Int):=by omega
   clear hr hs hbw hon h1 h2 hkl ai aj hi2 hc hg hij hj hK1 hK2
   obtain⟨wq,hwq⟩:=ay (wr.drew)
   have S0:Below wr.heap.size wr wq:=by rw[<-hwq];exact(af6 _ _).drew
   have a0:=x0 wq S0;have a1:=x1 wq S0;have a2:=x2 wq S0;have a3:=x3 wq S0;have a4:=x4 wq S0
   obtain⟨-,⟨cur,jN⟩,-⟩:=Eds.blk (HS.o.below S0)
   have fq:∀k,wq.frozen? ⟨g,k,none⟩=false:=λk=>by simp[World.frozen?,jN]
   have f0:=fq (i*5);have f1:=fq (i*5+1);have f2:=fq (i*5+2);have f3:=fq (i*5+3);have f4:=fq (i*5+4)
   have hE1:=j_.o wq S0
   have ho1:=abY (o:=i*5) jN (.int .i64 dj.kind) (.int .i64 dj.pos) (.int .i64 dj.n) (.int .i64 dj.af4) (.int .i64 dj.id)
   have hb1:=abJ (o:=i*5) (S0.mono (af9 HH.o.2.2 HW.o.1.size)) HW.o.2.2.1 (.int .i64 dj.kind) (.int .i64 dj.pos) (.int .i64 dj.n) (.int .i64 dj.af4) (.int .i64 dj.id)
   obtain⟨w1,hw1⟩:=ay (((((wq.setCell ⟨g,i*5,none⟩ (.int .i64 dj.kind)).setCell ⟨g,i*5+1,none⟩ (.int .i64 dj.pos)).setCell ⟨g,i*5+2,none⟩ (.int .i64 dj.n)).setCell ⟨g,i*5+3,none⟩ (.int .i64 dj.af4)).setCell ⟨g,i*5+4,none⟩ (.int .i64 dj.id))
   rw[hw1]at hE1 ho1 hb1
   obtain⟨b0',b1',b2',b3',b4'⟩:=HJ1.o w1 hE1
   obtain⟨-,⟨cur1,adr⟩,-⟩:=Eds.blk hE1
   have gq:∀k,w1.frozen? ⟨g,k,none⟩=false:=λk=>by simp[World.frozen?,adr]
   have g0:=gq (j*5);have g1:=gq (j*5+1);have g2:=gq (j*5+2);have g3:=gq (j*5+3);have g4:=gq (j*5+4)
   have hE2:=HS2.o w1 hE1
   have ho2:=ho1.trans (abY (o:=j*5) adr (.int .i64 di.kind) (.int .i64 di.pos) (.int .i64 di.n) (.int .i64 di.af4) (.int .i64 di.id))
   have hb2:=abJ (o:=j*5) hb1 HW.o.2.2.1 (.int .i64 di.kind) (.int .i64 di.pos) (.int .i64 di.n) (.int .i64 di.af4) (.int .i64 di.id)
   obtain⟨w2,hw2⟩:=ay (((((w1.setCell ⟨g,j*5,none⟩ (.int .i64 di.kind)).setCell ⟨g,j*5+1,none⟩ (.int .i64 di.pos)).setCell ⟨g,j*5+2,none⟩ (.int .i64 di.n)).setCell ⟨g,j*5+3,none⟩ (.int .i64 di.af4)).setCell ⟨g,j*5+4,none⟩ (.int .i64 di.id))
   rw[hw2]at hE2 ho2 hb2
   have HZ:=ak (And.intro hE2 (And.intro ((bS.of S0).trans ho2) hb2))
   have hwi:IntKind.i64.wrap ((i:Int)+1)=((i+1:Nat):Int):=by rw[agd];omega
   have hwj:IntKind.i64.wrap ((j:Int)-1)=(j:Int)-1:=by rw[agd];omega
   clear hE1 hE2 ho1 ho2 hb1 hb2 fq gq jN adr
   go_wp2_with fail
   refine abm (by kernel_rfl) ?_
   rw[hwq]
   clear hwq
   refine aad (i:=0) (d:=some 14) (v:=?_) (by kernel_rfl) rfl rfl HF (λ_ _ _ h=>h) (.inl ⟨by rfl,?_⟩) ?_
   rotate_left
   .intro w _
    go_simp;try with_reducible rfl
   refine aad (i:=1) (d:=some 15) (v:=?_) (by kernel_rfl) rfl rfl HF (λ_ _ _ h=>h) (.inl ⟨by rfl,?_⟩) ?_
   rotate_left
   .intro w _
    go_simp;try with_reducible rfl
   refine aad (i:=2) (d:=some 16) (v:=?_) (by kernel_rfl) rfl rfl HF (λ_ _ _ h=>h) (.inl ⟨by rfl,?_⟩) ?_
   rotate_left
   .intro w _
    go_simp;try with_reducible rfl
   refine aad (i:=3) (d:=some 17) (v:=?_) (by kernel_rfl) rfl rfl HF (λ_ _ _ h=>h) (.inl ⟨by rfl,?_⟩) ?_
   rotate_left
   .intro w _
    go_simp;try with_reducible rfl
   refine aad (i:=4) (d:=some 18) (v:=?_) (by kernel_rfl) rfl rfl HF (λ_ _ _ h=>h) (.inl ⟨by rfl,?_⟩) ?_
   rotate_left
   .intro w _
    go_simp;try with_reducible rfl
   refine aad (i:=5) (d:=some 19) (v:=?_) (by kernel_rfl) rfl rfl HF (λ_ _ _ h=>h) (.inl ⟨by rfl,?_⟩) ?_
   rotate_left
   .intro w _
    go_simp;try with_reducible rfl
   refine aad (i:=6) (d:=some 20) (v:=?_) (by kernel_rfl) rfl rfl HF (λ_ _ _ h=>h) (.inl ⟨by rfl,?_⟩) ?_
   rotate_left
   .intro w _
    go_simp;try with_reducible rfl
   refine aad (i:=8) (d:=some 22) (v:=?_) (by kernel_rfl) rfl rfl HF (λ_ _ _ h=>h) (.inl ⟨by rfl,?_⟩) ?_
   rotate_left
   .intro w _
    go_simp;try with_reducible rfl
   refine aad (i:=9) (d:=some 23) (v:=?_) (by kernel_rfl) rfl rfl HF (λ_ _ _ h=>h) (.inl ⟨by rfl,?_⟩) ?_
   rotate_left
   .intro w _
    go_simp;try with_reducible rfl
   refine aad (i:=10) (d:=some 24) (v:=?_) (by kernel_rfl) rfl rfl HF (λ_ _ _ h=>h) (.inl ⟨by rfl,?_⟩) ?_
   rotate_left
   .intro w _
    go_simp;try with_reducible rfl
   refine aal.enter (Below wr.heap.size wr) ?_
   refine aal.take (i:=7) (d:=some 21) (v:=?_) (by kernel_rfl) rfl rfl HF (λ_ _ _ h=>h) (.inl ⟨by rfl,?_⟩) (by first|assumption|rfl) ?_
   rotate_left
   .intro w hS;try subst hS
    go_simp;try with_reducible rfl
   refine aal.take (i:=11) (d:=some 25) (v:=?_) (by kernel_rfl) rfl rfl HF (λ_ _ _ h=>h) (.inl ⟨by rfl,?_⟩) (by first|assumption|rfl) ?_
   rotate_left
   .intro w hS;try subst hS
    go_simp;try with_reducible rfl
   refine aal.take (i:=12) (d:=some 26) (v:=?_) (by kernel_rfl) rfl rfl HF (λ_ _ _ h=>h) (.inl ⟨by rfl,?_⟩) (by first|assumption|rfl) ?_
   rotate_left
   .intro w hS;try subst hS
    go_simp;try with_reducible rfl
   refine aal.wall (i:=13) (by kernel_rfl) rfl HF (by rfl) (λK hK=>?_)
   go_simp
   have T0:uz w1:=trivial
   refine hK uz _ _ ?_
   clear hK K
   refine aal.take (i:=14) (d:=some 27) (v:=?_) (by kernel_rfl) rfl rfl HF (λ_ _ _ h=>h) (.inl ⟨by rfl,?_⟩) (by first|assumption|rfl) ?_
   rotate_left
   .intro w hS;try subst hS
    go_simp;try with_reducible rfl
   refine aal.one (i:=15) (by kernel_rfl) (by kernel_rfl) rfl HF (by rfl) (λK hK=>?_)
   go_simp
   refine hK _ _ trivial ?_
   clear hK K
   refine aal.done (by kernel_rfl) ?_
   clear x0 x1 x2 x3 x4 y0 y1 y2 y3 y4
   go_wp2_with fail
   go_roundw
   case rel=>exact⟨i+1,K2,by have:=HW.o.2.2.2;omega,rfl,by congr 1;have:=HW.o.2.2.2.2;omega,SY.o,HZ.o.1,HW.o.1.trans HZ.o.2.2,HW.o.2.1.trans HZ.o.2.1⟩
   case measure=>have:=HW.o.2.2.2.2;simp[intOf];omega
  .have HR:aA (Eds b0 wr (.slice va n vc) L.reverse/\Below b0 W wr/\bS [86] W wr):=ak ⟨by rw[<-hr.done (by rw[HH.o.2.1];omega)];exact hs,hbw,hon⟩
   clear hr hs hbw hon hi2 hc
   go_wp2_with fail
   go_end0
   exact⟨rfl,HR.o⟩
end M
end Go.Proofs.YtgbhohfabhilgaaGreatDoor
