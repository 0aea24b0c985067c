import Derived.Test.YtgbhohfabhilgaaGreatDoorBaseTop
set_option maxRecDepth 100000
set_option maxHeartbeats 8000000
set_option linter.unusedVariables false
set_option linter.unusedSimpArgs false
namespace Go.Proofs.YtgbhohfabhilgaaGreatDoor
open Go.RowKit
namespace M
variable{A B C X t u:List Nat}{n x y z:Nat}
structure Edt where
 kind:Int
 pos:Int
 n:Int
 af4:Int
 id:Nat
def abz(e:Edt):Bool:=
 if e.kind=1 then decide (e.n=0)&&decide (e.af4=0)
 else if e.kind=2 then decide (e.af4=0)&&decide (e.id=0)
 else if e.kind=3 then decide (e.af4=0)
 else if e.kind=4\/e.kind=5 then decide (e.id=0)
 else false
def aa2(len:Int)(e:Edt):Bool:=rF e.pos e.n len&&(decide (0<=e.af4)&&(decide (e.af4<=len)&&(decide (e.kind≠5) || decide (e.af4<=e.pos) || decide (e.pos+e.n<=e.af4))))
def edT(t u:List Nat)(e:Edt):List Nat:=
 let a:=e.pos.toNat;let b:=(e.pos+e.n).toNat;let c:=e.af4.toNat
 if e.kind=4 then t.take c++((t.drop a).take (b-a)++t.drop c)
 else if e.kind=5 then
  if e.af4<=e.pos then t.take c++((t.drop a).take (b-a)++((t.drop c).take (a-c)++t.drop b))
  else t.take a++((t.drop b).take (c-b)++((t.drop a).take (b-a)++t.drop c))
 else t.take a++(u++t.drop b)
def aah(e:Edt)(ul:Int)(v:Nat):Edt:=
 if e.kind=4 then⟨2,e.af4,e.n,0,0⟩
 else if e.kind=5 then(if e.af4<=e.pos then⟨5,e.af4,e.n,e.pos+e.n,0⟩else⟨5,e.af4-e.n,e.n,e.pos,0⟩)
 else⟨3,e.pos,ul,0,v⟩
theorem acp{e:Edt}(hu:e.kind=4\/e.kind=5->u=[])(h:aa2 t.length e=true):((edT t u e).length:Int)=t.length+u.length+(if e.kind=4 then e.n else if e.kind=5 then 0 else -e.n):=by
 unfold aa2 at h
 simp only[agy,aiJ,ajF]at h
 obtain⟨h1,h2,h3,h4⟩:=h
 obtain⟨-,-,a1,a2,a3,a4⟩:=dJ.1 h1
 unfold edT
 dsimp only
 split
 .next q=>rw[hu (.inl q)];simp only[af8,agB,agp,ahX];omega
 .split
  .next q=>
   rw[hu (.inr q)]
   split
   .simp only[af8,agB,agp,ahX];omega
   .have:e.pos+e.n<=e.af4:=by
     rcases h4 with(h4|h4)|h4
     .exact absurd q h4
     .omega
     .exact h4
    simp only[af8,agB,agp,ahX];omega
  .simp only[af8,agB,agp];omega
theorem aaV{a b:Nat}(h:a<=b):(t.drop a).take (b-a)++t.drop b=t.drop a:=by
 have:=ahr (b-a) (t.drop a)
 rw[ahn,show a+(b-a)=b by omega]at this
 exact this
theorem alc{α:Type}{A X:List α}(h:A.length=n):(A++X).take n=A:=List.take_left' h
theorem ac0{α:Type}{A X:List α}(h:A.length=n):(A++X).drop n=X:=List.drop_left' h
theorem ald(h1:x<=y)(h2:y<=z):t=t.take x++((t.drop x).take (y-x)++((t.drop y).take (z-y)++t.drop z)):=by
 rw[aaV h2,aaV h1,ahr]
theorem ac1(h:n=A.length):(A++X).take n=A:=alc h.symm
theorem dp_a(h:n=A.length):(A++X).drop n=X:=ac0 h.symm
theorem af0(h:n=A.length+B.length):(A++(B++X)).drop n=X:=by rw[<-agf];exact ac0 (by rw[af8];omega)
theorem dp_c(h:n=A.length+B.length+C.length):(A++(B++(C++X))).drop n=X:=by
 rw[<-agf,<-agf];exact ac0 (by rw[af8,af8];omega)
theorem abK{D:List Nat}{m k:Nat}(hx:x=A.length)(hy:y=A.length+C.length)(hz:z=A.length+C.length+B.length)(hm:m=B.length)(hk:k=C.length):
    (A++(C++(B++D))).take x++(((A++(C++(B++D))).drop y).take m++(((A++(C++(B++D))).drop x).take k++(A++(C++(B++D))).drop z))=A++(B++(C++D)):=by
 rw[ac1 hx,af0 hy,dp_c hz,dp_a hx,ac1 hm,ac1 hk]
theorem aaq{len:Int}{e:Edt}:aa2 len e=true↔0<=len/\len<=dX/\0<=e.pos/\0<=e.n/\e.pos<=len/\e.n<=len-e.pos/\0<=e.af4/\e.af4<=len/\(e.kind≠5\/e.af4<=e.pos\/e.pos+e.n<=e.af4):=by
 unfold aa2
 simp only[agy,aiJ,ajF,dJ]
 constructor
 .rintro⟨⟨a,b,c,d,f,g⟩,h,i,j⟩
  refine⟨a,b,c,d,f,g,h,i,?_⟩
  rcases j with(j|j)|j
  .exact .inl j
  .exact .inr (.inl j)
  .exact .inr (.inr j)
 .rintro⟨a,b,c,d,f,g,h,i,j⟩
  refine⟨⟨a,b,c,d,f,g⟩,h,i,?_⟩
  rcases j with j|j|j
  .exact .inl (.inl j)
  .exact .inl (.inr j)
  .exact .inr j
def edU(t:List Nat)(e:Edt):List Nat:=if e.kind=4\/e.kind=5 then[]else(t.drop e.pos.toNat).take e.n.toNat
theorem abS{e:Edt}(h:e.kind=4):edT t u e=t.take e.af4.toNat++((t.drop e.pos.toNat).take ((e.pos+e.n).toNat-e.pos.toNat)++t.drop e.af4.toNat):=by unfold edT;rw[af5 h]
theorem abA{e:Edt}(h:e.kind=5)(hle:e.af4<=e.pos):edT t u e=t.take e.af4.toNat++((t.drop e.pos.toNat).take ((e.pos+e.n).toNat-e.pos.toNat)++((t.drop e.af4.toNat).take (e.pos.toNat-e.af4.toNat)++t.drop (e.pos+e.n).toNat)):=by unfold edT;rw[af4 (by omega),af5 h,af5 hle]
theorem abQ{e:Edt}(h:e.kind=5)(hle:¬e.af4<=e.pos):edT t u e=t.take e.pos.toNat++((t.drop (e.pos+e.n).toNat).take (e.af4.toNat-(e.pos+e.n).toNat)++((t.drop e.pos.toNat).take ((e.pos+e.n).toNat-e.pos.toNat)++t.drop e.af4.toNat)):=by unfold edT;rw[af4 (by omega),af5 h,af4 hle]
theorem abo{e:Edt}(h4:e.kind≠4)(h5:e.kind≠5):edT t u e=t.take e.pos.toNat++(u++t.drop (e.pos+e.n).toNat):=by unfold edT;rw[af4 h4,af4 h5]
theorem afd{e:Edt}{v:Nat}(hu:e.kind=4\/e.kind=5->u=[])(h:aa2 t.length e=true)(hl:(t.length:Int)+u.length+e.n<=dX):
    abz (aah e u.length v)=true/\aa2 (edT t u e).length (aah e u.length v)=true/\edT (edT t u e) (edU t e) (aah e u.length v)=t:=by
 have hlen:=acp hu h
 obtain⟨a1,a2,a3,a4,a5,a6,a7,a8,a9⟩:=aaq.1 h
 have hmx:dX=1152921504606846976:=rfl
 by_cases h4:e.kind=4
 .have e1:aah e u.length v=⟨2,e.af4,e.n,0,0⟩:=by unfold aah;rw[af5 h4]
  rw[hu (.inl h4)]at hlen hl⊢
  rw[hu (.inl h4)]at e1
  rw[e1,af5 h4]at *
  refine⟨by simp[abz],aaq.2 ⟨by omega,by simp at hl hlen;omega,by simpa using a7,by simpa using a4,by simp at hlen⊢;omega,by simp at hlen⊢;omega,by simp,by simp<;>omega,.inl (by simp)⟩,?_⟩
  rw[abo (by simp) (by simp),abS h4]
  unfold edU
  rw[af5 (.inl h4)]
  dsimp only
  have l1:(t.take e.af4.toNat).length=e.af4.toNat:=by rw[agB];omega
  have l2:((t.drop e.pos.toNat).take ((e.pos+e.n).toNat-e.pos.toNat)).length=(e.pos+e.n).toNat-e.pos.toNat:=by rw[agB,agp];omega
  rw[ac1 l1.symm,af0 (by rw[l1,l2];omega),agH,ahr]
 .by_cases h5:e.kind=5
  .rw[hu (.inr h5)]at hlen hl⊢
   rw[af4 h4,af5 h5]at hlen
   have hu0:edU t e=[]:=by unfold edU;rw[af5 (.inr h5)]
   rw[hu0]
   simp only[ahX]at hlen hl⊢
   by_cases hle:e.af4<=e.pos
   .have e1:aah e (0:Nat) v=⟨5,e.af4,e.n,e.pos+e.n,0⟩:=by unfold aah;rw[af4 h4,af5 h5,af5 hle]
    rw[e1]
    refine⟨by simp[abz],aaq.2 ⟨by omega,by omega,a7,a4,by dsimp only;omega,by dsimp only;omega,by dsimp only;omega,by dsimp only;omega,.inr (.inr (by dsimp only;omega))⟩,?_⟩
    have l1:(t.take e.af4.toNat).length=e.af4.toNat:=by rw[agB];omega
    have l2:((t.drop e.pos.toNat).take ((e.pos+e.n).toNat-e.pos.toNat)).length=(e.pos+e.n).toNat-e.pos.toNat:=by rw[agB,agp];omega
    have l3:((t.drop e.af4.toNat).take (e.pos.toNat-e.af4.toNat)).length=e.pos.toNat-e.af4.toNat:=by rw[agB,agp];omega
    have e2:=ald (t:=t) (x:=e.af4.toNat) (y:=e.pos.toNat) (z:=(e.pos+e.n).toNat) (by omega) (by omega)
    rw[abA h5 hle]
    by_cases hz:e.pos+e.n<=e.af4
    .rw[abA rfl hz]
     dsimp only
     have z1:e.n=0:=by omega
     have z2:e.af4=e.pos:=by omega
     rw[z1,z2]
     simp only[Int.add_zero,aiz,ah5,agH,ahr]
    .rw[abQ rfl hz]
     dsimp only
     refine Eq.trans (abK (by rw[l1]) (by rw[l1,l2];omega) (by rw[l1,l2,l3];omega) (by rw[l3];omega) (by rw[l2];omega)) e2.symm
   .have h9:e.pos+e.n<=e.af4:=by omega
    have e1:aah e (0:Nat) v=⟨5,e.af4-e.n,e.n,e.pos,0⟩:=by unfold aah;rw[af4 h4,af5 h5,af4 hle]
    rw[e1]
    refine⟨by simp[abz],aaq.2 ⟨by omega,by omega,by dsimp only;omega,a4,by dsimp only;omega,by dsimp only;omega,a3,by dsimp only;omega,.inr (.inl (by dsimp only;omega))⟩,?_⟩
    have l1:(t.take e.pos.toNat).length=e.pos.toNat:=by rw[agB];omega
    have l2:((t.drop e.pos.toNat).take ((e.pos+e.n).toNat-e.pos.toNat)).length=(e.pos+e.n).toNat-e.pos.toNat:=by rw[agB,agp];omega
    have l3:((t.drop (e.pos+e.n).toNat).take (e.af4.toNat-(e.pos+e.n).toNat)).length=e.af4.toNat-(e.pos+e.n).toNat:=by rw[agB,agp];omega
    have e2:=ald (t:=t) (x:=e.pos.toNat) (y:=(e.pos+e.n).toNat) (z:=e.af4.toNat) (by omega) (by omega)
    rw[abQ h5 hle,abA rfl (by dsimp only;omega)]
    dsimp only
    refine Eq.trans (abK (by rw[l1]) (by rw[l1,l3];omega) (by rw[l1,l2,l3];omega) (by rw[l2];omega) (by rw[l3];omega)) e2.symm
  .have e1:aah e u.length v=⟨3,e.pos,u.length,0,v⟩:=by unfold aah;rw[af4 h4,af4 h5]
   rw[e1]
   rw[af4 h4,af4 h5]at hlen
   refine⟨by simp[abz],aaq.2 ⟨by omega,by omega,a3,by dsimp only;omega,by dsimp only;omega,by dsimp only;omega,by simp,by dsimp only;omega,.inl (by simp)⟩,?_⟩
   rw[abo (by simp) (by simp),abo h4 h5]
   unfold edU
   rw[af4 (by omega)]
   dsimp only
   have l1:(t.take e.pos.toNat).length=e.pos.toNat:=by rw[agB];omega
   rw[ac1 l1.symm,af0 (by rw[l1];omega),show e.n.toNat=(e.pos+e.n).toNat-e.pos.toNat by omega,aaV (by omega),ahr]
end M
end Go.Proofs.YtgbhohfabhilgaaGreatDoor
namespace Go.Proofs.YtgbhohfabhilgaaGreatDoor
open Go.RowKit Go.Lib
namespace M
attribute [local go_sem] Oper.semAt_some
def abE(e:Edt):List Value:=[.int .i64 e.kind,.int .i64 e.pos,.int .i64 e.n,.int .i64 e.af4,.int .i64 e.id]
abbrev edV(e:Edt):Value:=.agg #[.int .i64 e.kind,.int .i64 e.pos,.int .i64 e.n,.int .i64 e.af4,.int .i64 e.id]
def aae(W:World)(b:Nat)(e:Edt):Prop:=W.heap[b]?=some (.cells #[.int .i64 e.kind,.int .i64 e.pos,.int .i64 e.n,.int .i64 e.af4,.int .i64 e.id] 86 (0,0))
theorem aae.cells{W:World}{b:Nat}{e:Edt}(h:aae W b e):W.cell? ⟨b,0,none⟩=some (.int .i64 e.kind)/\W.cell? ⟨b,1,none⟩=some (.int .i64 e.pos)/\W.cell? ⟨b,2,none⟩=some (.int .i64 e.n)/\W.cell? ⟨b,3,none⟩=some (.int .i64 e.af4)/\W.cell? ⟨b,4,none⟩=some (.int .i64 e.id):=by
 unfold aae at h
 simp[World.cell?,h]
theorem abh(W:World)(e:Edt):∃w,W.alloc (.cells #[.int .i64 e.kind,.int .i64 e.pos,.int .i64 e.n,.int .i64 e.af4,.int .i64 e.id] 86)=w/\aae w W.heap.size e/\Below W.heap.size W w:=
 ⟨_,rfl,aD _ _,(af6 _ _).alloc (af7 _) _⟩
theorem abF(W:World)(e:Edt):Calls Tryz.prog 82 #[edV e] W λr w'=>r=.returned (.bool (abz e))/\Below W.heap.size W w':=by
 obtain⟨w1,hw,hc,hb⟩:=abh W e
 obtain⟨x0,x1,x2,x3,x4⟩:=hc.cells
 have HB:=ak hb
 obtain⟨gd,hgd⟩:=ay (W.heap.size)
 rw[hgd]at x0 x1 x2 x3 x4
 clear hc hb
 unfold edV abz
 generalize e.kind=k at *
 generalize e.pos=p at *
 generalize e.n=n at *
 generalize e.af4=t at *
 generalize e.id=i at *
 by_cases k1:k=1
 .subst k1
  rw[af5 rfl]
  by_cases n0:n=0
  .subst n0
   simp only[decide_true,Bool.true_and]
   go_enter Tryz.func82,Tryz.ntmps82
   go_wp2_with fail
   go_ret
   exact⟨rfl,HB.o⟩
  .have e0:(n==0)=false:=agh.2 n0
   rw[agD n0,Bool.false_and]
   go_enter Tryz.func82,Tryz.ntmps82
   go_wp2_with fail
   go_ret
   exact⟨rfl,HB.o⟩
 rw[af4 k1]
 have e1:(k==1)=false:=agh.2 k1
 by_cases k2:k=2
 .subst k2
  rw[af5 rfl]
  by_cases t0:t=0
  .subst t0
   simp only[decide_true,Bool.true_and]
   by_cases i0:i=0
   .subst i0
    go_enter Tryz.func82,Tryz.ntmps82
    go_wp2_with fail
    go_ret
    have hb:=HB.o
    rw[<-hw]at hb
    exact⟨rfl,hb⟩
   .have e0:((i:Int)==0)=false:=agh.2 (by omega)
    rw[agD i0]
    go_enter Tryz.func82,Tryz.ntmps82
    go_wp2_with fail
    go_ret
    exact⟨rfl,HB.o⟩
  .have e0:(t==0)=false:=agh.2 t0
   rw[agD t0,Bool.false_and]
   go_enter Tryz.func82,Tryz.ntmps82
   go_wp2_with fail
   go_ret
   exact⟨rfl,HB.o⟩
 rw[af4 k2]
 have e2:(k==2)=false:=agh.2 k2
 by_cases k3:k=3
 .subst k3
  rw[af5 rfl]
  go_enter Tryz.func82,Tryz.ntmps82
  go_wp2_with fail
  go_ret
  exact⟨rfl,HB.o⟩
 rw[af4 k3]
 have e3:(k==3)=false:=agh.2 k3
 by_cases k4:k=4\/k=5
 .rw[af5 k4]
  have hi:((i:Int)==0)=decide (i=0):=by
   by_cases i0:i=0
   .subst i0;rfl
   .rw[agD i0];exact agh.2 (by omega)
  rcases k4 with k4|k4
  .subst k4
   go_enter Tryz.func82,Tryz.ntmps82
   go_wp2_with fail
   go_ret
   exact⟨by rw[<-hi];rfl,HB.o⟩
  .subst k4
   go_enter Tryz.func82,Tryz.ntmps82
   go_wp2_with fail
   go_ret
   exact⟨by rw[<-hi];rfl,HB.o⟩
 rw[af4 k4]
 have e4:(k==4)=false:=agh.2 (λh=>k4 (.inl h))
 have e5:(k==5)=false:=agh.2 (λh=>k4 (.inr h))
 go_enter Tryz.func82,Tryz.ntmps82
 go_wp2_with fail
 go_ret
 exact⟨rfl,HB.o⟩
theorem ab_(W:World)(len:Int)(e:Edt):Calls Tryz.prog 124 #[.int .i64 len,edV e] W λr w'=>r=.returned (.bool (aa2 len e))/\Below W.heap.size W w':=by
 obtain⟨w1,hw,hc,hb⟩:=abh W e
 obtain⟨x0,x1,x2,x3,x4⟩:=hc.cells
 have HB:=ak hb
 obtain⟨gd,hgd⟩:=ay (W.heap.size)
 rw[hgd]at x0 x1 x2 x3 x4
 clear hc hb
 have hmx:dX=1152921504606846976:=rfl
 have hiff:=aaq (len:=len) (e:=e)
 unfold edV
 have HR:=ak (MS w1 e.pos e.n len)
 by_cases hr:rF e.pos e.n len=true
 rotate_left
 .have hf:aa2 len e=false:=by
   cases q:aa2 len e
   .rfl
   .exact absurd (dJ.2 (by have:=hiff.1 q;omega)) hr
  rw[hf]
  rw[af4 hr,show err 1=.iface 116 (.int .i64 1) from rfl]at HR
  clear hiff hr hf
  generalize e.kind=k at *
  generalize e.pos=p at *
  generalize e.n=n at *
  generalize e.af4=t at *
  go_enter Tryz.func124,Tryz.ntmps124
  go_wp2_with fail
  refine HR.o.mono ?_;rintro r w ⟨rfl,h⟩;rw[h];clear h w
  go_wp2_with fail
  go_ret
  exact⟨rfl,HB.o⟩
 rw[af5 hr]at HR
 have hr2:=dJ.1 hr
 have ha:IntKind.i64.wrap (e.pos+e.n)=e.pos+e.n:=by rw[agd];omega
 generalize aa2 len e=R at *
 generalize e.kind=k at *
 generalize e.pos=p at *
 generalize e.n=n at *
 generalize e.af4=t at *
 by_cases t0:t<0
 .obtain rfl:R=false:=by
   cases q:R
   .rfl
   .have:=hiff.1 q;omega
  clear hiff hr hr2
  go_enter Tryz.func124,Tryz.ntmps124
  go_wp2_with fail
  refine HR.o.mono ?_;rintro r w ⟨rfl,h⟩;rw[h];clear h w
  go_wp2_with fail
  go_ret
  exact⟨rfl,HB.o⟩
 by_cases t1:t>len
 .obtain rfl:R=false:=by
   cases q:R
   .rfl
   .have:=hiff.1 q;omega
  clear hiff hr hr2
  go_enter Tryz.func124,Tryz.ntmps124
  go_wp2_with fail
  refine HR.o.mono ?_;rintro r w ⟨rfl,h⟩;rw[h];clear h w
  go_wp2_with fail
  go_ret
  exact⟨rfl,HB.o⟩
 by_cases k5:k=5
 .subst k5
  by_cases t2:t<=p
  .obtain rfl:R=true:=hiff.2 (by omega)
   clear hiff hr hr2
   go_enter Tryz.func124,Tryz.ntmps124
   go_wp2_with fail
   refine HR.o.mono ?_;rintro r w ⟨rfl,h⟩;rw[h];clear h w
   go_wp2_with fail
   go_ret
   exact⟨rfl,HB.o⟩
  .by_cases t3:p+n<=t
   .have t4:t>=p+n:=t3
    obtain rfl:R=true:=hiff.2 (by omega)
    clear hiff hr hr2
    go_enter Tryz.func124,Tryz.ntmps124
    go_wp2_with fail
    refine HR.o.mono ?_;rintro r w ⟨rfl,h⟩;rw[h];clear h w
    go_wp2_with fail
    go_ret
    exact⟨rfl,HB.o⟩
   .have t4:¬t>=p+n:=t3
    obtain rfl:R=false:=by
     cases q:R
     .rfl
     .have:=hiff.1 q;omega
    clear hiff hr hr2
    go_enter Tryz.func124,Tryz.ntmps124
    go_wp2_with fail
    refine HR.o.mono ?_;rintro r w ⟨rfl,h⟩;rw[h];clear h w
    go_wp2_with fail
    go_ret
    exact⟨by show Ending.returned (.bool (decide (t<=p) || decide (p+n<=t)))=_;rw[agD (by omega:¬t<=p),agD (by omega:¬p+n<=t)];rfl,HB.o⟩
 .have e5:(k==5)=false:=agh.2 k5
  have e6:(k !=5)=true:=by simp;exact k5
  obtain rfl:R=true:=hiff.2 (by omega)
  clear hiff hr hr2
  go_enter Tryz.func124,Tryz.ntmps124
  go_wp2_with fail
  refine HR.o.mono ?_;rintro r w ⟨rfl,h⟩;rw[h];clear h w
  go_wp2_with fail
  go_ret
  exact⟨rfl,HB.o⟩
end M
end Go.Proofs.YtgbhohfabhilgaaGreatDoor
namespace Go.Proofs.YtgbhohfabhilgaaGreatDoor
open Go.RowKit Go.Lib
namespace M
attribute [local go_sem] Oper.semAt_some
section
variable {n0 B most:Nat} {W:World} {E:List En}
theorem aaZ(h:aW n0 W B most E){i:Nat}(hi:i<=E.length):
    Calls Tryz.prog 81 #[.pointer (some ⟨B,0,none⟩),.int .i64 i] W λe w'=>e=.returned (.bool false)/\w'=W:=by
 have HL:=ak (wY h)
 have h1:¬(i:Int)<0:=by omega
 have h2:¬(i:Int)>(E.length:Int):=by omega
 have h3:¬E.length<i:=by omega
 clear h
 go_enter Tryz.func81,Tryz.ntmps81
 go_wp2_with fail
 refine HL.o.mono ?_;rintro e w ⟨rfl,h⟩;rw[h];clear h w
 go_wp2_with fail
 go_ret
 exact⟨rfl,rfl⟩
theorem aby(hs:aW n0 W B most E){b0:Nat}{v:Value}{ids:List Nat}(hv:Ids b0 W v ids)(hb:∀i∈ids,fT E i (txt E i))(hn:ids.length<=1000)(hE:E.length<=1048576):
    Calls Tryz.prog 83 #[.pointer (some ⟨B,0,none⟩),v] W λe w'=>e=.returned .nilIface/\Below W.heap.size W w':=by
 obtain⟨va,vc,rfl⟩:=hv.len
 have HX:=ak (And.intro hs (And.intro hv (And.intro hb (And.intro hn hE))))
 clear hs hv hb hn hE
 go_enter Tryz.func83,Tryz.ntmps83
 go_wp2_with fail
 go_loopw [11] (λc wr=>∃j:Nat,j<=ids.length/\c=.int .i64 j/\Below W.heap.size W wr) (λc _=>ids.length-(intOf c).toNat)
 case atStart=>exact⟨0,agb _,rfl,af6 _ _⟩
 case round=>
  obtain⟨j,hj,rfl,hbw⟩:=hrel
  obtain⟨hs,hv,hb,hn,hE⟩:=HX.o
  have vk:=ak hbw
  by_cases hlt:j<ids.length
  .have hlt2:(j:Int)<(ids.length:Int):=by omega
   obtain⟨g,cap,e1,k0⟩:=qB (aP.below hv hbw) hlt
   simp only[agn]at e1
   obtain⟨rfl,-,rfl⟩:=e1
   have hbi:=hb _ (ag0 hlt)
   have HBA:=ak (qy (hs.below hbw) hbi.le hE)
   rw[hbi.even]at HBA
   have HJ:=ak (And.intro hlt hn)
   generalize ids[j]=x at *
   have hw1:IntKind.i64.wrap ((j:Int)+1)=((j+1:Nat):Int):=by rw[agd];omega
   clear hs hv hb hn hE hbi hbw hlt hj
   go_wp2_with fail
   refine HBA.o.mono ?_;rintro e w1 ⟨rfl,b1⟩
   have B1:=ak (Below.after vk.o b1)
   clear b1 k0
   go_wp2_with fail
   go_roundw
   case rel=>exact⟨j+1,HJ.o.1,rfl,B1.o⟩
   case measure=>have:=HJ.o.1;simp[intOf];omega
  .obtain rfl:j=ids.length:=by omega
   clear hs hv hb hn hE hbw hj
   go_wp2_with fail
   go_ret
   exact⟨rfl,vk.o⟩
theorem abG(hs:aW n0 W B most E){i:Nat}{t:List Nat}(hb:fT E i t)(hE:E.length<=1048576):
    Calls Tryz.prog 88 #[.pointer (some ⟨B,0,none⟩),.int .i64 i] W λe w'=>e=.returned .nilIface/\Below W.heap.size W w':=by
 have HU:=ak (aaZ hs hb.le)
 obtain⟨w1,hw1⟩:=ay (W.alloc (.cells #[.int .i64 i] 27))
 have b1:Below W.heap.size W w1:=by rw[<-hw1];exact(af6 _ _).alloc (af7 _) _
 have s1:Ids W.heap.size w1 (.slice (some ⟨W.heap.size,0,none⟩) 1 1) [i]:=by rw[<-hw1];exact aP.lit (l:=[i]) bX rfl (by unfold maxLen;simp)
 have HBA:=ak (aby (hs.below b1) s1 (λj hj=>by rw[agl.1 hj];exact⟨hb.le,rfl,hb.even⟩) (by simp) hE)
 have HB1:=ak b1
 clear hs hb b1 s1
 go_enter Tryz.func88,Tryz.ntmps88
 go_wp2_with fail
 refine HU.o.mono ?_;rintro e w ⟨rfl,h⟩;rw[h];clear h w
 go_wp2_with fail
 refine HBA.o.mono ?_;rintro e w2 ⟨rfl,b2⟩
 have HB2:=ak (Below.after HB1.o b2)
 clear b2
 go_wp2_with fail
 go_ret
 exact⟨rfl,HB2.o⟩
end
variable{E:List En}{t:List Nat}{B D M i k most n0:Nat}{W:World}
theorem aff(hD:GZ D M)(hs:aW n0 W B most E)(hwf:iE E)(hb:fT E i t)(hk:k<=t.length)(hM:t.length<=M)(hroom:E.length+D*(3*D+1)<=most)(hE:E.length+D*(3*D+1)<=1048576):
    Calls Tryz.prog 153 #[.pointer (some ⟨B,0,none⟩),.int .i64 i,.int .i64 (k:Nat)] W (uH n0 B most (D*(3*D+1)) E W (t.take k)):=by
 rcases agP i with g|g
 .have ht:=(hb.zero hwf).1 g
  obtain rfl:k=0:=by rw[ht]at hk;simpa using hk
  have hn0:=hs.lt
  have HS:=ak hs;have gW:=ak hwf;have gJ:=ak hn0
  clear hs hwf hb hM hroom hE hn0 hk
  go_enter Tryz.func153,Tryz.ntmps153
  go_wp2_with fail
  go_ret2
  exact⟨E,0,rfl,HS.o,gW.o,Ext.refl _,by omega,⟨agb _,by rw[cZ,ah5],rfl⟩,af6 _ _,Kt.of (af6 _ _)⟩
 .have hb1:=hb.Ig g
  have hd:=hD.le hwf hb1 hM
  have hm:(aF E i).depth*(3*D+1)<=D*(3*D+1):=agY _ hd
  exact(OB hD _ hs hwf hb1 hk hM (by omega) (by omega)).mono λe w hj=>hj.after (k1:=0) rfl (Ext.refl _) (by omega) (by omega) (af6 _ _) (Kt.of (af6 _ _))
theorem af1(hD:GZ D M)(hs:aW n0 W B most E)(hwf:iE E)(hb:fT E i t)(hk:k<=t.length)(hM:t.length<=M)(hroom:E.length+D*(3*D+1)<=most)(hE:E.length+D*(3*D+1)<=1048576):
    Calls Tryz.prog 152 #[.pointer (some ⟨B,0,none⟩),.int .i64 i,.int .i64 (k:Nat)] W (uH n0 B most (D*(3*D+1)) E W (t.drop k)):=by
 rcases agP i with g|g
 .have ht:=(hb.zero hwf).1 g
  obtain rfl:k=0:=by rw[ht]at hk;simpa using hk
  have hn0:=hs.lt
  have HS:=ak hs;have gW:=ak hwf;have gJ:=ak hn0;have Vl:=ak hb
  clear hs hwf hb hM hroom hE hn0 hk
  go_enter Tryz.func152,Tryz.ntmps152
  go_wp2_with fail
  go_ret2
  exact⟨E,i,rfl,HS.o,gW.o,Ext.refl _,by omega,by rw[agj];exact Vl.o,af6 _ _,Kt.of (af6 _ _)⟩
 .have hb1:=hb.Ig g
  have hd:=hD.le hwf hb1 hM
  have hm:(aF E i).depth*(3*D+1)<=D*(3*D+1):=agY _ hd
  exact(Rz hD _ hs hwf hb1 hk hM (by omega) (by omega)).mono λe w hj=>hj.after (k1:=0) rfl (Ext.refl _) (by omega) (by omega) (af6 _ _) (Kt.of (af6 _ _))
def ac8(n0 B most k:Nat)(E:List En)(W:World)(t1 t2:List Nat)(e:Ending)(w':World):Prop:=
 ∃E' i1 i2,e=.returned (.tuple #[vI i1,vI i2,.nilIface])/\aW n0 w' B most E'/\iE E'/\Ext E E'/\E'.length<=E.length+k/\fT E' i1 t1/\fT E' i2 t2/\Below n0 W w'/\Kt B W w'
theorem abL(hD:GZ D M)(hs:aW n0 W B most E)(hwf:iE E)(hb:fT E i t)(hk:k<=t.length)(hM:t.length<=M)(hroom:E.length+2*(D*(3*D+1))<=most)(hE:E.length+2*(D*(3*D+1))<=1048576):
    Calls Tryz.prog 125 #[.pointer (some ⟨B,0,none⟩),.int .i64 i,.int .i64 (k:Nat)] W (ac8 n0 B most (2*(D*(3*D+1))) E W (t.take k) (t.drop k)):=by
 have hE':E.length<=1048576:=by omega
 have hn0:=hs.lt
 have gJ:=ak hn0
 have HC:=ak (Ca hs hwf hb hE')
 obtain⟨K,hK⟩:=ay (D*(3*D+1))
 have HF:=ak (λw (hw:Below W.heap.size W w)=>aff hD (hs.below hw) hwf hb hk hM (by omega) (by omega))
 have HR:aA (∀w E1,aW n0 w B most E1->iE E1->Ext E E1->E1.length<=E.length+K->Calls Tryz.prog 152 #[.pointer (some ⟨B,0,none⟩),.int .i64 i,.int .i64 (k:Nat)] w (uH n0 B most K E1 w (t.drop k))):=ak λw E1 s1 f1 x1 n1=>by
  rw[<-hK]at n1⊢
  exact af1 hD s1 f1 (hb.ext x1) hk hM (by omega) (by omega)
 rw[hK]at HF⊢
 have e1:¬(k:Int)<0:=by omega
 have e2:¬(k:Int)>(t.length:Int):=by omega
 have e3:¬t.length<k:=by omega
 generalize t.take k=t1 at *
 generalize t.drop k=t2 at *
 generalize t.length=tl at *
 clear hs hwf hb hk hM hroom hE hE' hn0 hK hD
 go_enter Tryz.func125,Tryz.ntmps125
 go_wp2_with fail
 refine HC.o.mono ?_;rintro e w1 ⟨rfl,b1⟩
 have B1:=ak b1;clear b1
 go_wp2_with fail
 refine(HF.o w1 B1.o).mono ?_
 rintro e w2 ⟨E2,i2,rfl,s2,f2,x2,n2,bl2,bb2,kt2⟩
 have HR2:=ak (HR.o w2 E2 s2 f2 x2 n2)
 have HX:=ak (And.intro x2 (And.intro n2 (And.intro bl2 (And.intro ((B1.o.mono gJ.o).trans bb2) ((Kt.of (B:=B) B1.o).trans kt2)))))
 clear s2 f2 x2 n2 bl2 bb2 kt2
 go_wp2_with fail
 refine HR2.o.mono ?_
 rintro e w3 ⟨E3,i3,rfl,s3,f3,x3,n3,MW,bb3,FQ⟩
 have HZ:aA (ac8 n0 B most (2*K) E W t1 t2 (.returned (.tuple #[vI i2,vI i3,.nilIface])) w3):=ak (by
  obtain⟨x2,n2,bl2,bb2,kt2⟩:=HX.o
  exact⟨E3,i2,i3,rfl,s3,f3,x2.trans x3,by omega,bl2.ext x3,MW,bb2.trans bb3,kt2.trans FQ⟩)
 clear s3 f3 x3 n3 MW bb3 FQ
 go_wp2_with fail
 exact af_ (v:=.tuple #[vI i2,vI i3,.nilIface]) (by simp[results,Tryz.results125,go_sem]) rfl HZ.o
end M
end Go.Proofs.YtgbhohfabhilgaaGreatDoor
namespace Go.Proofs.YtgbhohfabhilgaaGreatDoor
open Go.RowKit Go.Lib
namespace M
attribute [local go_sem] Oper.semAt_some
theorem abC{e:Edt}(h:abz e=true):(e.kind=1/\e.n=0)\/(e.kind=2/\e.id=0)\/e.kind=3\/(e.kind=4/\e.id=0)\/(e.kind=5/\e.id=0):=by
 unfold abz at h
 split at h
 .next k=>simp only[agy,aiJ]at h;exact .inl ⟨k,h.1⟩
 .split at h
  .next k=>simp only[agy,aiJ]at h;exact .inr (.inl ⟨k,h.2⟩)
  .split at h
   .next k=>exact .inr (.inr (.inl k))
   .split at h
    .next k=>
     rcases k with k|k
     .exact .inr (.inr (.inr (.inl ⟨k,by simpa using h⟩)))
     .exact .inr (.inr (.inr (.inr ⟨k,by simpa using h⟩)))
    .cases h
def ElP(W:World)(len:Int)(e:Edt)(r:Ending)(w':World):Prop:=((aa2 len e=true/\∃z:Int,r=.returned (.tuple #[.int .i64 z,.nilIface]))\/(aa2 len e=false/\r=.returned (.tuple #[.int .i64 0,err 1])))/\Below W.heap.size W w'
theorem ac_{n0 B most:Nat}{W:World}{E:List En}(hs:aW n0 W B most E)(hwf:iE E){e:Edt}{u:List Nat}(hb:fT E e.id u){len:Nat}(hl:len+u.length<=100000000)(hok:abz e=true)(hE:E.length<=1048576):
    Calls Tryz.prog 84 #[.pointer (some ⟨B,0,none⟩),.int .i64 (len:Nat),edV e] W (ElP W len e):=by
 have EX:=(hb.len hwf).2
 obtain⟨w1,hw,hc,hb1⟩:=abh W e
 obtain⟨x0,x1,x2,x3,x4⟩:=hc.cells
 have HC:=ak hc;have HB1:=ak hb1
 have HV:=ak (yu w1 (len:Int))
 rw[show decide (0<=(len:Int)/\(len:Int)<=1152921504606846976)=true from agw (by omega)]at HV
 have HW:=ak (dS (hs.below hb1) hb.le hE)
 obtain⟨wt,hwt⟩:=ay ((aF E e.id).w)
 rw[hwt]at HW EX
 unfold wK at HW
 have HU:=ak EX
 have HF:=ak (λw=>abF w e)
 rw[hok]at HF
 have HI:=ak (λw=>ab_ w (len:Int) e)
 have HK:=ak (abC hok)
 have HL:=ak hl
 have HAD:aA (∀w (a b:Nat),a+b<=200000000->Calls Tryz.prog 56 #[vI a,vI b] w λe w'=>e=.returned (.tuple #[vI (a+b),.nilIface])/\w'=w):=ak λw a b hab=>by
  have:=lD w (a:=a) (b:=b) (by omega) (by omega)
  rw[af5 (by omega)]at this
  exact this
 obtain⟨gd,hgd⟩:=ay (W.heap.size)
 rw[hgd]at x0 x1 x2 x3 x4 HC
 clear hs hwf hb hl hok hE hb1 hc EX hwt
 unfold edV
 go_enter Tryz.func84,Tryz.ntmps84
 go_wp2_with fail
 try rw[hgd]
 clear hw hgd
 refine HV.o.mono ?_;rintro r w ⟨rfl,h⟩;rw[h];clear h w
 go_wp2_with fail
 refine HW.o.mono ?_
 rintro r w2 ⟨rfl,b2⟩
 obtain⟨wz,w3,hz,hss,k3,b3,⟨q0,q1,q2,q3,q4,q5⟩,r0,r1,r2,r3,r4,r5⟩:=kE w2 wt
 have HB3:=ak (Below.after b2 b3)
 obtain⟨y0,y1,y2,y3,y4⟩:=(show aae w3 gd e from au HB3.o HC.o).cells
 have HKC:=ak k3
 clear b2 b3 k3 x0 x1 x2 x3 x4
 go_wp2_with fail
 clear hz hss q0 q1 q2 q3 q4 q5 r0 r1 r2 r3 r4 r5
 refine(HF.o w3).mono ?_;rintro r w4 ⟨rfl,b4⟩
 have cB:=ak (Below.after HB3.o b4)
 obtain⟨z0,z1,z2,z3,z4⟩:=(show aae w4 gd e from au b4 (au HB3.o HC.o)).cells
 have HKC4:=ak (au b4 HKC.o)
 clear b4 y0 y1 y2 y3 y4
 go_wp2_with fail
 refine(HI.o w4).mono ?_;rintro r w5 ⟨rfl,b5⟩
 have mG:=ak (Below.after HB1.o (Below.after cB.o b5))
 obtain⟨y0,y1,y2,y3,y4⟩:=(show aae w5 gd e from au b5 (au cB.o HC.o)).cells
 have v0:=(dz.cells (au b5 HKC4.o)).1
 clear b5 z0 z1 z2 z3 z4
 by_cases hin:aa2 len e=true
 rotate_left
 .have hf:aa2 len e=false:=by simpa using hin
  have HZ:aA (ElP W len e (.returned (.tuple #[.int .i64 0,err 1])) w5):=ak ⟨.inr ⟨hf,rfl⟩,mG.o⟩
  rw[hf]
  clear hin hf y0 y1 y2 y3 y4 v0
  go_wp2_with fail
  exact af_ (v:=.tuple #[.int .i64 0,err 1]) (by simp[results,Tryz.results84,go_sem];rfl) rfl HZ.o
 have HZ:aA (∀z:Int,ElP W len e (.returned (.tuple #[.int .i64 z,.nilIface])) w5):=ak λz=>⟨.inl ⟨hin,z,rfl⟩,mG.o⟩
 have hi2:=aaq.1 hin
 rw[hin]
 have hll:=HL.o
 have hu:=HU.o
 have hkk:=HK.o
 clear hin
 obtain⟨kd,hkd⟩:=ay (e.kind)
 obtain⟨n,hn⟩:∃n:Nat,e.n=n:=⟨e.n.toNat,by omega⟩
 have hnl:n<=len:=by omega
 have hsub:IntKind.i64.wrap ((len:Int)-(n:Int))=((len-n:Nat):Int):=by rw[agd];omega
 rw[hkd]at y0 hkk
 rw[hn]at y2
 have HA1:=ak (HAD.o w5 (len-n) wt.len (by omega))
 have HA2:=ak (HAD.o w5 len n (by omega))
 have U4:=ak (HAD.o w5 len wt.len (by omega))
 clear hi2 hll hu hn hkd
 rcases hkk with⟨rfl,-⟩|⟨rfl,-⟩|rfl|⟨rfl,-⟩|⟨rfl,-⟩
 .go_wp2_with fail
  refine U4.o.mono ?_;rintro r w ⟨rfl,h⟩;rw[h];clear h w
  go_wp2_with fail
  go_ret2
  exact HZ.o _
 .go_wp2_with fail
  refine HA1.o.mono ?_;rintro r w ⟨rfl,h⟩;rw[h];clear h w
  go_wp2_with fail
  go_ret2
  exact HZ.o _
 .go_wp2_with fail
  refine HA1.o.mono ?_;rintro r w ⟨rfl,h⟩;rw[h];clear h w
  go_wp2_with fail
  go_ret2
  exact HZ.o _
 .go_wp2_with fail
  refine HA2.o.mono ?_;rintro r w ⟨rfl,h⟩;rw[h];clear h w
  go_wp2_with fail
  go_ret2
  exact HZ.o _
 .go_wp2_with fail
  refine U4.o.mono ?_;rintro r w ⟨rfl,h⟩;rw[h];clear h w
  go_wp2_with fail
  go_ret2
  exact HZ.o _
end M
end Go.Proofs.YtgbhohfabhilgaaGreatDoor
namespace Go.Proofs.YtgbhohfabhilgaaGreatDoor
open Go.RowKit Go.Lib
namespace M
attribute [local go_sem] Oper.semAt_some
variable{a b c l:List Nat}{i j k:Nat}
theorem acF{W:World}{b0 b1:Nat}{v iv:Value}{ids xs:List Nat}(hv:Ids b0 W v ids)(hi:P6 b1 W iv xs)(hx:∀k∈xs,k<ids.length)(hn:xs.length<=100)(hm:ids.length<=1000):
    Calls Tryz.prog 126 #[v,.nilIface,iv] W λe w'=>∃v',e=.returned (.tuple #[v',.nilIface])/\Ids W.heap.size w' v' (xs.map λk=>ids.getD k 0)/\Below W.heap.size W w':=by
 obtain⟨va,vc,rfl⟩:=hv.len
 obtain⟨ia,ic,rfl⟩:=hi.len
 obtain⟨m,hmm⟩:=ay (ids.length)
 obtain⟨n,hnn⟩:=ay (xs.length)
 rw[hmm]at hv hx hm⊢
 rw[hnn]at hi hn⊢
 have HX:=ak (And.intro hv (And.intro hi (And.intro hx (And.intro hn (And.intro hm (And.intro hmm hnn))))))
 clear hv hi hx hn hm hmm hnn
 go_enter Tryz.func126,Tryz.ntmps126
 go_wp2_with fail
 go_loopw [8,16] (λp c wr=>∃j:Nat,j<=n/\c=.int .i64 j/\Ids W.heap.size wr p ((xs.take j).map λk=>ids.getD k 0)/\Below W.heap.size W wr) (λ_ c _=>n-(intOf c).toNat)
 case atStart=>exact⟨0,agb _,rfl,aP.nil _ _ _ _ _,af6 _ _⟩
 case round=>
  obtain⟨j,hj,rfl,hI,hbw⟩:=hrel
  obtain⟨pa,pc,rfl⟩:=hI.len
  obtain⟨hv,hi,hx,hn,hm,hmm,hnn⟩:=HX.o
  have hpl:((xs.take j).map λk=>ids.getD k 0).length=j:=by rw[agM,agB];omega
  rw[hpl]at hI⊢
  have vk:=ak hbw
  by_cases hlt:j<n
  .have hlt2:(j:Int)<(n:Int):=by omega
   have hjx:j<xs.length:=by omega
   obtain⟨g,cap,e1,k0⟩:=qB (aP.below hi hbw) hjx
   simp only[agn]at e1
   obtain⟨rfl,-,rfl⟩:=e1
   have hxm:=hx _ (ag0 hjx)
   have hsn:(xs.take (j+1)).map (λk=>ids.getD k 0)=(xs.take j).map (λk=>ids.getD k 0)++[ids.getD xs[j] 0]:=by rw[kI hjx,ag2];rfl
   generalize xs[j]=x at *
   obtain⟨g2,cap2,e2,k1⟩:=qB (aP.below hv hbw) (show x<ids.length by omega)
   simp only[agn]at e2
   obtain⟨rfl,-,rfl⟩:=e2
   rw[show ids.getD x 0=ids[x] from by rw[ah8,agt (by omega)];rfl]at hsn
   generalize ids[x]=y at *
   have hx2:(x:Int)<(m:Int):=by omega
   have hw1:IntKind.i64.wrap ((j:Int)+1)=((j+1:Nat):Int):=by rw[agd];omega
   have HI:=ak hI
   have HJ:=ak (And.intro hlt hsn)
   have hlo:W.heap.size<=wr.heap.size:=hbw.size
   have hll:((xs.take j).map λk=>ids.getD k 0).length+1<=2000:=by omega
   generalize(xs.take j).map (λk=>ids.getD k 0)=L at *
   clear hv hi hx hn hm hmm hnn hI hbw hlt hj hpl hsn hjx hxm
   go_wp2_with (first
    | (at_builtin;refine bP (v:=.slice pa j pc) elemId bX rfl _ _ rfl rfl HI.o y rfl rfl ?c1 ?c2 hlo ?_))
   case c1=>simp[gF,Value.oneCell']
   case c2=>omega
   intro v4 w4 Xv hg4 hb4
   have lU:=ak Xv
   have cB:=ak (vk.o.trans hb4)
   clear Xv hg4 hb4 k0 k1
   go_wp2_with fail
   go_roundw
   case rel=>exact⟨j+1,HJ.o.1,rfl,by rw[HJ.o.2];exact lU.o,cB.o⟩
   case measure=>have:=HJ.o.1;simp[intOf];omega
  .obtain rfl:j=n:=by omega
   rw[show xs.take j=xs from agI (by omega)]at hI
   have HI:=ak hI
   clear hv hi hx hn hm hmm hnn hI hbw hj hpl
   go_wp2_with fail
   go_ret2
   exact⟨_,rfl,HI.o,vk.o⟩
def ArP(n0 B most k:Nat)(E:List En)(W:World)(r:List Nat)(e:Ending)(w':World):Prop:=
 ∃E' ids v' ts,e=.returned (.tuple #[v',.nilIface])/\aW n0 w' B most E'/\iE E'/\Ext E E'/\E'.length<=E.length+k/\Ids W.heap.size w' v' ids/\Wv E' ids ts/\ts.flatten=r/\ids.length<=4/\Below n0 W w'/\Kt B W w'
theorem ada{E:List En}(h1:fT E i a)(h2:fT E j b)(h3:fT E k c):Wv E [i,j,k] [a,b,c]:=by
 refine⟨rfl,λq hq h2'=>?_⟩
 match q,hq with
 |0,_=>exact h1
 |1,_=>exact h2
 |2,_=>exact h3
theorem afS{E:List En}{l:Nat}{d:List Nat}(h1:fT E i a)(h2:fT E j b)(h3:fT E k c)(h4:fT E l d):Wv E [i,j,k,l] [a,b,c,d]:=by
 refine⟨rfl,λq hq h2'=>?_⟩
 match q,hq with
 |0,_=>exact h1
 |1,_=>exact h2
 |2,_=>exact h3
 |3,_=>exact h4
theorem ale(h:l.length=4):∃a b c d,l=[a,b,c,d]:=by
 match l,h with
 | [a,b,c,d],_=>exact⟨a,b,c,d,rfl⟩
theorem alf(h:l.length=3):∃a b c,l=[a,b,c]:=by
 match l,h with
 | [a,b,c],_=>exact⟨a,b,c,rfl⟩
theorem aae.kt{B:Nat}{A C:World}{b:Nat}{e:Edt}(h:aae A b e)(hk:Kt B A C):aae C b e:=hk.cells _ (by decide) (by decide) _ _ _ h
end M
end Go.Proofs.YtgbhohfabhilgaaGreatDoor
namespace Go.Proofs.YtgbhohfabhilgaaGreatDoor
open Go.RowKit Go.Lib
namespace M
attribute [local go_sem] Oper.semAt_some
section
variable {D M n0 B most:Nat} {W:World} {E:List En} {i:Nat} {t:List Nat}
theorem adb(hD:GZ D M)(hs:aW n0 W B most E)(hwf:iE E)(hb:fT E i t)(hM:t.length<=M){a n c:Nat}(h1:a+n<=t.length)(h2:c<=t.length)(hroom:E.length+4*bZ D<=most)(hE:E.length+4*bZ D<=1048576){id:Nat}:
    Calls Tryz.prog 85 #[.pointer (some ⟨B,0,none⟩),.int .i64 i,edV ⟨4,a,n,c,id⟩] W (ArP n0 B most (4*bZ D) E W (t.take c++((t.drop a).take n++t.drop c))):=by
 have hn0:=hs.lt
 have gJ:=ak hn0
 have hsk:=Vo D
 obtain⟨w1,hw,hc,hb1⟩:=abh W ⟨4,a,n,c,id⟩
 obtain⟨x0,x1,x2,x3,x4⟩:=hc.cells
 dsimp only at hw x0 x1 x2 x3 x4
 have HC:=ak hc;have HB1:=ak hb1
 have zf:=ak (IJ hD (hs.below hb1) hwf hb h1 hM (by omega) (by omega))
 have UD:aA (∀w E1,aW n0 w B most E1->iE E1->Ext E E1->E1.length<=E.length+bZ D->Calls Tryz.prog 125 #[.pointer (some ⟨B,0,none⟩),.int .i64 i,.int .i64 (c:Nat)] w (ac8 n0 B most (2*(D*(3*D+1))) E1 w (t.take c) (t.drop c))):=ak λw E1 s1 f1 x1 n1=>
  abL hD s1 f1 (hb.ext x1) h2 hM (by omega) (by omega)
 obtain⟨gd,hgd⟩:=ay (W.heap.size)
 rw[hgd]at x0 x1 x2 x3 x4 HC
 have Y5:=ak hsk
 generalize t.take c=t1 at *
 generalize(t.drop a).take n=t2 at *
 generalize t.drop c=t3 at *
 clear hs hwf hb hM h1 h2 hroom hE hn0 hb1 hc hsk hD
 unfold edV
 go_enter Tryz.func85,Tryz.ntmps85
 go_wp2_with fail
 refine zf.o.mono ?_
 rintro e w2 ⟨E2,i2,rfl,s2,f2,e2,n2,bl2,bb2,kt2⟩
 obtain⟨y0,y1,y2,y3,y4⟩:=(HC.o.kt kt2).cells
 dsimp only at y0 y1 y2 y3 y4
 have HSP2:=ak (UD.o w2 E2 s2 f2 e2 n2)
 have HX:=ak (And.intro e2 (And.intro n2 (And.intro bl2 (And.intro ((HB1.o.mono gJ.o).trans bb2) (And.intro ((Kt.of (B:=B) HB1.o).trans kt2) bb2.size)))))
 clear s2 f2 e2 n2 bl2 bb2 kt2 x0 x1 x2 x3 x4
 go_wp2_with fail
 refine HSP2.o.mono ?_
 rintro e w3 ⟨E3,i3,i4,rfl,s3,f3,e3,n3,MW,xW,bb3,FQ⟩
 obtain⟨w4,hw4⟩:=ay (w3.alloc (.cells #[.int .i64 i3,.int .i64 i2,.int .i64 i4] 27))
 have b4:Below w3.heap.size w3 w4:=by rw[<-hw4];exact(af6 _ _).alloc (af7 _) _
 have s4:Ids w3.heap.size w4 (.slice (some ⟨w3.heap.size,0,none⟩) 3 3) [i3,i2,i4]:=by rw[<-hw4];exact aP.lit (l:=[i3,i2,i4]) bX rfl (by unfold maxLen;simp)
 have HZ:aA (ArP n0 B most (4*bZ D) E W (t1++(t2++t3)) (.returned (.tuple #[.slice (some ⟨w3.heap.size,0,none⟩) 3 3,.nilIface])) w4):=ak (by
  obtain⟨e2,n2,bl2,bb2,kt2,hz2⟩:=HX.o
  have hsk:=Y5.o
  have hsz:=HB1.o.size
  have hbb:=bb2.trans bb3
  exact⟨E3,[i3,i2,i4],_,[t1,t2,t3],rfl,s3.below b4,f3,e2.trans e3,by omega,s4.mono (af9 (af9 hsz hz2) bb3.size),ada MW (bl2.ext e3) xW,by simp,by simp,hbb.trans (b4.mono (af9 gJ.o hbb.size)),(kt2.trans FQ).trans (Kt.of b4)⟩)
 clear s3 f3 e3 n3 MW xW bb3 FQ b4 s4 y0 y1 y2 y3 y4
 go_wp2_with fail
 go_ret2
 exact HZ.o
theorem afh(hD:GZ D M)(hs:aW n0 W B most E)(hwf:iE E)(hb:fT E i t)(hM:t.length<=M){a c id:Nat}{u:List Nat}(hu:fT E id u)(h1:a<=t.length)(hroom:E.length+4*bZ D<=most)(hE:E.length+4*bZ D<=1048576){n:Int}:
    Calls Tryz.prog 85 #[.pointer (some ⟨B,0,none⟩),.int .i64 i,edV ⟨1,a,n,c,id⟩] W (ArP n0 B most (4*bZ D) E W (t.take a++(u++t.drop a))):=by
 have hn0:=hs.lt
 have gJ:=ak hn0
 have hsk:=Vo D
 obtain⟨w1,hw,hc,hb1⟩:=abh W ⟨1,a,n,c,id⟩
 obtain⟨x0,x1,x2,x3,x4⟩:=hc.cells
 dsimp only at hw x0 x1 x2 x3 x4
 have HC:=ak hc;have HB1:=ak hb1;have HU:=ak hu
 have UD:=ak (abL hD (hs.below hb1) hwf hb h1 hM (by omega) (by omega))
 obtain⟨gd,hgd⟩:=ay (W.heap.size)
 rw[hgd]at x0 x1 x2 x3 x4 HC
 have Y5:=ak hsk
 generalize t.take a=t1 at *
 generalize t.drop a=t3 at *
 clear hs hwf hb hM h1 hroom hE hn0 hb1 hc hsk hD hu
 unfold edV
 go_enter Tryz.func85,Tryz.ntmps85
 go_wp2_with fail
 refine UD.o.mono ?_
 rintro e w3 ⟨E3,i3,i4,rfl,s3,f3,e3,n3,MW,xW,bb3,FQ⟩
 obtain⟨y0,y1,y2,y3,y4⟩:=(HC.o.kt FQ).cells
 dsimp only at y0 y1 y2 y3 y4
 obtain⟨w4,hw4⟩:=ay (w3.alloc (.cells #[.int .i64 i3,.int .i64 id,.int .i64 i4] 27))
 have b4:Below w3.heap.size w3 w4:=by rw[<-hw4];exact(af6 _ _).alloc (af7 _) _
 have s4:Ids w3.heap.size w4 (.slice (some ⟨w3.heap.size,0,none⟩) 3 3) [i3,id,i4]:=by rw[<-hw4];exact aP.lit (l:=[i3,id,i4]) bX rfl (by unfold maxLen;simp)
 have HZ:aA (ArP n0 B most (4*bZ D) E W (t1++(u++t3)) (.returned (.tuple #[.slice (some ⟨w3.heap.size,0,none⟩) 3 3,.nilIface])) w4):=ak (by
  have hsk:=Y5.o
  have hsz:=HB1.o.size
  have hbb:=(HB1.o.mono gJ.o).trans bb3
  exact⟨E3,[i3,id,i4],_,[t1,u,t3],rfl,s3.below b4,f3,e3,by omega,s4.mono (af9 hsz bb3.size),ada MW (HU.o.ext e3) xW,by simp,by simp,hbb.trans (b4.mono (af9 gJ.o hbb.size)),((Kt.of (B:=B) HB1.o).trans FQ).trans (Kt.of b4)⟩)
 clear s3 f3 e3 n3 MW xW bb3 FQ b4 s4 x0 x1 x2 x3 x4
 go_wp2_with fail
 go_ret2
 exact HZ.o
end
end M
end Go.Proofs.YtgbhohfabhilgaaGreatDoor
namespace Go.Proofs.YtgbhohfabhilgaaGreatDoor
open Go.RowKit Go.Lib
namespace M
attribute [local go_sem] Oper.semAt_some
variable{ids t:List Nat}{len x y z:Nat}
theorem abM{E:List En}(hl:ids.length=4)(hb:∀j (h:j<ids.length),fT E ids[j] (Eu t [x,y,z] j)):∃i0 i1 i2 i3,ids=[i0,i1,i2,i3]/\fT E i0 (t.take x)/\fT E i1 ((t.drop x).take (y-x))/\fT E i2 ((t.drop y).take (z-y))/\fT E i3 (t.drop z):=by
 obtain⟨i0,i1,i2,i3,rfl⟩:=ale hl
 have h0:=hb 0 (by simp)
 have h1:=hb 1 (by simp)
 have h2:=hb 2 (by simp)
 have h3:=hb 3 (by simp)
 simp only[Eu,qP,Aa,ajq,List.getElem_cons_succ]at h0 h1 h2 h3
 refine⟨i0,i1,i2,i3,rfl,by simpa using h0,by simpa using h1,by simpa using h2,?_⟩
 have h4:(t.drop z).take (t.length-z)=t.drop z:=agI (by rw[agp];exact af7 _)
 simpa[h4]using h3
theorem afj{E:List En}(hl:ids.length=3)(hb:∀j (h:j<ids.length),fT E ids[j] (Eu t [x,y] j)):∃i0 i1 i2,ids=[i0,i1,i2]/\fT E i0 (t.take x)/\fT E i2 (t.drop y):=by
 obtain⟨i0,i1,i2,rfl⟩:=alf hl
 have h0:=hb 0 (by simp)
 have h2:=hb 2 (by simp)
 simp only[Eu,qP,Aa,ajq,List.getElem_cons_succ]at h0 h2
 refine⟨i0,i1,i2,rfl,by simpa using h0,?_⟩
 have h4:(t.drop y).take (t.length-y)=t.drop y:=agI (by rw[agp];exact af7 _)
 simpa[h4]using h2
theorem ade(h1:x<=y)(h2:y<=z)(h3:z<=len):MV [x,y,z] len:=λj h=>by
 match j,h with
 |0,_=>exact⟨agb _,by simp;omega⟩
 |1,_=>exact⟨by simpa[qP]using h1,by simp;omega⟩
 |2,_=>exact⟨by simpa[qP]using h2,by simpa using h3⟩
theorem akP(h1:x<=y)(h3:y<=len):MV [x,y] len:=λj h=>by
 match j,h with
 |0,_=>exact⟨agb _,by simp;omega⟩
 |1,_=>exact⟨by simpa[qP]using h1,by simpa using h3⟩
section
variable {D M n0 B most:Nat} {W:World} {E:List En} {i:Nat} {t:List Nat}
theorem abT{W:World}{b0:Nat}{v:Value}{i0 i1 i2 i3:Nat}(hv:Ids b0 W v [i0,i1,i2,i3]):∀w,W.alloc (.cells #[.int .i64 0,.int .i64 2,.int .i64 1,.int .i64 3] 3)=w->
    Calls Tryz.prog 126 #[v,.nilIface,.slice (some ⟨W.heap.size,0,none⟩) 4 4] w λe w'=>∃v',e=.returned (.tuple #[v',.nilIface])/\Ids w.heap.size w' v' [i0,i2,i1,i3]/\Below w.heap.size w w':=λw hw=>by
 have b1:Below W.heap.size W w:=by rw[<-hw];exact(af6 _ _).alloc (af7 _) _
 have s1:P6 W.heap.size w (.slice (some ⟨W.heap.size,0,none⟩) 4 4) [0,2,1,3]:=by rw[<-hw];exact aP.lit (l:=[0,2,1,3]) bX rfl (by unfold maxLen;simp)
 exact acF (hv.below b1) s1 (by simp) (by simp) (by simp)
theorem afk(hD:GZ D M)(hs:aW n0 W B most E)(hwf:iE E)(hb:fT E i t)(hM:t.length<=M){a n c id:Nat}(h1:a+n<=t.length)(h2:c<=a)(hroom:E.length+4*bZ D<=most)(hE:E.length+4*bZ D<=1048576):
    Calls Tryz.prog 85 #[.pointer (some ⟨B,0,none⟩),.int .i64 i,edV ⟨5,a,n,c,id⟩] W (ArP n0 B most (4*bZ D) E W (t.take c++((t.drop a).take n++((t.drop c).take (a-c)++t.drop (a+n))))):=by
 have hn0:=hs.lt
 have pG:=hD.2
 have gJ:=ak hn0
 obtain⟨w1,hw,hc,hb1⟩:=abh W ⟨5,a,n,c,id⟩
 obtain⟨x0,x1,x2,x3,x4⟩:=hc.cells
 dsimp only at hw x0 x1 x2 x3 x4
 have HC:=ak hc
 obtain⟨w2,hw2⟩:=ay (w1.alloc (.cells #[.int .i64 c,.int .i64 a,.int .i64 ((a:Int)+(n:Int))] 3))
 have b2:Below w1.heap.size w1 w2:=by rw[<-hw2];exact(af6 _ _).alloc (af7 _) _
 have s2:P6 w1.heap.size w2 (.slice (some ⟨w1.heap.size,0,none⟩) 3 3) [c,a,a+n]:=by rw[<-hw2];exact aP.lit (l:=[c,a,a+n]) bX rfl (by unfold maxLen;simp)
 have hbb:=Below.after hb1 b2
 have HB2:=ak hbb
 have HCU:=ak (Vq hD (hs.below hbb) hwf hb hM s2 (ade h2 (by omega) h1) (by simp) (by simpa using hroom) (by simpa using hE))
 have hwr:IntKind.i64.wrap ((a:Int)+(n:Int))=(a:Int)+(n:Int):=by rw[agd];omega
 have hle:(c:Int)<=(a:Int):=by omega
 obtain⟨gd,hgd⟩:=ay (W.heap.size)
 rw[hgd]at x0 x1 x2 x3 x4 HC
 clear hs hwf hb hM h1 hroom hE hn0 hb1 hc hD b2 s2 hbb pG h2
 unfold edV
 go_enter Tryz.func85,Tryz.ntmps85
 go_wp2_with fail
 refine HCU.o.mono ?_
 rintro e w3 ⟨E3,ids,v3,rfl,s3,f3,e3,n3,i3,il3,MW,bb3,FQ⟩
 obtain⟨i0,i1,i2,i4,rfl,c0,c1,c2,c4⟩:=abM (by simpa using il3) MW
 obtain⟨va,vc,rfl⟩:=i3.len
 obtain⟨w4,hw4⟩:=ay (w3.alloc (.cells #[.int .i64 0,.int .i64 2,.int .i64 1,.int .i64 3] 3))
 have b4:Below w3.heap.size w3 w4:=by rw[<-hw4];exact(af6 _ _).alloc (af7 _) _
 have HOR:=ak (abT i3 w4 hw4)
 have HZ:aA (∀w5 v5,Ids w4.heap.size w5 v5 [i0,i2,i1,i4]->Below w4.heap.size w4 w5->ArP n0 B most (4*bZ D) E W (t.take c++((t.drop a).take n++((t.drop c).take (a-c)++t.drop (a+n)))) (.returned (.tuple #[v5,.nilIface])) w5):=ak (λw5 v5 h5 b5=>by
  have hsz:=HB2.o.size
  have b45:=Below.after b4 b5
  have hbb:=(HB2.o.mono gJ.o).trans bb3
  rw[show a+n-a=n by omega]at c2
  exact⟨E3,[i0,i2,i1,i4],_,[t.take c,(t.drop a).take n,(t.drop c).take (a-c),t.drop (a+n)],rfl,s3.below b45,f3,e3,by simpa using n3,h5.mono (af9 (af9 hsz bb3.size) b4.size),afS c0 c2 c1 c4,by simp,by simp,hbb.trans (b45.mono (af9 gJ.o hbb.size)),((Kt.of (B:=B) HB2.o).trans FQ).trans (Kt.of b45)⟩)
 clear s3 f3 e3 n3 i3 il3 MW bb3 FQ b4 c0 c1 c2 c4 x0 x1 x2 x3 x4
 go_wp2_with fail
 refine HOR.o.mono ?_
 rintro e w5 ⟨v5,rfl,h5,b5⟩
 have HZ5:=ak (HZ.o w5 v5 h5 b5)
 clear h5 b5
 go_wp2_with fail
 go_ret2
 exact HZ5.o
theorem afm(hD:GZ D M)(hs:aW n0 W B most E)(hwf:iE E)(hb:fT E i t)(hM:t.length<=M){a n c id:Nat}(h1:a+n<=c)(h2:c<=t.length)(h3:¬c<=a)(hroom:E.length+4*bZ D<=most)(hE:E.length+4*bZ D<=1048576):
    Calls Tryz.prog 85 #[.pointer (some ⟨B,0,none⟩),.int .i64 i,edV ⟨5,a,n,c,id⟩] W (ArP n0 B most (4*bZ D) E W (t.take a++((t.drop (a+n)).take (c-(a+n))++((t.drop a).take n++t.drop c)))):=by
 have hn0:=hs.lt
 have pG:=hD.2
 have gJ:=ak hn0
 obtain⟨w1,hw,hc,hb1⟩:=abh W ⟨5,a,n,c,id⟩
 obtain⟨x0,x1,x2,x3,x4⟩:=hc.cells
 dsimp only at hw x0 x1 x2 x3 x4
 have HC:=ak hc
 obtain⟨w2,hw2⟩:=ay (w1.alloc (.cells #[.int .i64 a,.int .i64 ((a:Int)+(n:Int)),.int .i64 c] 3))
 have b2:Below w1.heap.size w1 w2:=by rw[<-hw2];exact(af6 _ _).alloc (af7 _) _
 have s2:P6 w1.heap.size w2 (.slice (some ⟨w1.heap.size,0,none⟩) 3 3) [a,a+n,c]:=by rw[<-hw2];exact aP.lit (l:=[a,a+n,c]) bX rfl (by unfold maxLen;simp)
 have hbb:=Below.after hb1 b2
 have HB2:=ak hbb
 have HCU:=ak (Vq hD (hs.below hbb) hwf hb hM s2 (ade (by omega) h1 h2) (by simp) (by simpa using hroom) (by simpa using hE))
 have hwr:IntKind.i64.wrap ((a:Int)+(n:Int))=(a:Int)+(n:Int):=by rw[agd];omega
 have hle:¬(c:Int)<=(a:Int):=by omega
 obtain⟨gd,hgd⟩:=ay (W.heap.size)
 rw[hgd]at x0 x1 x2 x3 x4 HC
 clear hs hwf hb hM h1 hroom hE hn0 hb1 hc hD b2 s2 hbb pG h2
 unfold edV
 go_enter Tryz.func85,Tryz.ntmps85
 go_wp2_with fail
 refine HCU.o.mono ?_
 rintro e w3 ⟨E3,ids,v3,rfl,s3,f3,e3,n3,i3,il3,MW,bb3,FQ⟩
 obtain⟨i0,i1,i2,i4,rfl,c0,c1,c2,c4⟩:=abM (by simpa using il3) MW
 obtain⟨va,vc,rfl⟩:=i3.len
 obtain⟨w4,hw4⟩:=ay (w3.alloc (.cells #[.int .i64 0,.int .i64 2,.int .i64 1,.int .i64 3] 3))
 have b4:Below w3.heap.size w3 w4:=by rw[<-hw4];exact(af6 _ _).alloc (af7 _) _
 have HOR:=ak (abT i3 w4 hw4)
 have HZ:aA (∀w5 v5,Ids w4.heap.size w5 v5 [i0,i2,i1,i4]->Below w4.heap.size w4 w5->ArP n0 B most (4*bZ D) E W (t.take a++((t.drop (a+n)).take (c-(a+n))++((t.drop a).take n++t.drop c))) (.returned (.tuple #[v5,.nilIface])) w5):=ak (λw5 v5 h5 b5=>by
  have hsz:=HB2.o.size
  have b45:=Below.after b4 b5
  have hbb:=(HB2.o.mono gJ.o).trans bb3
  rw[show a+n-a=n by omega]at c1
  exact⟨E3,[i0,i2,i1,i4],_,[t.take a,(t.drop (a+n)).take (c-(a+n)),(t.drop a).take n,t.drop c],rfl,s3.below b45,f3,e3,by simpa using n3,h5.mono (af9 (af9 hsz bb3.size) b4.size),afS c0 c2 c1 c4,by simp,by simp,hbb.trans (b45.mono (af9 gJ.o hbb.size)),((Kt.of (B:=B) HB2.o).trans FQ).trans (Kt.of b45)⟩)
 clear s3 f3 e3 n3 i3 il3 MW bb3 FQ b4 c0 c1 c2 c4 x0 x1 x2 x3 x4
 go_wp2_with fail
 refine HOR.o.mono ?_
 rintro e w5 ⟨v5,rfl,h5,b5⟩
 have HZ5:=ak (HZ.o w5 v5 h5 b5)
 clear h5 b5
 go_wp2_with fail
 go_ret2
 exact HZ5.o
end
end M
end Go.Proofs.YtgbhohfabhilgaaGreatDoor
