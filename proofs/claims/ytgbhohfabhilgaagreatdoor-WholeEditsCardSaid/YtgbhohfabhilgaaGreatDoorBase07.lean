import Derived.Test.YtgbhohfabhilgaaGreatDoorBase06
set_option maxRecDepth 100000
set_option maxHeartbeats 8000000
set_option linter.unusedVariables false
set_option linter.unusedSimpArgs false
namespace Go.Proofs.YtgbhohfabhilgaaGreatDoor
namespace M
def tV(f:Nat->Nat->Bool):Nat->List Nat->List Nat
 |_,[]=>[]
 |_,[_]=>[]
 |o,x::y::t=>if f x y then o::tV f (o+2) t else tV f (o+1) (y::t)
theorem qE(f:Nat->Nat->Bool)(o x y:Nat)(t:List Nat):tV f o (x::y::t)=if f x y then o::tV f (o+2) t else tV f (o+1) (y::t):=by conv=>lhs;unfold tV
def Ni(f:Nat->Nat->Bool):Nat->List Nat->List Nat
 |_,[]=>[]
 |_,[_]=>[]
 |o,x::y::t=>(if f x y then[o]else[])++Ni f (o+1) (y::t)
theorem AP{f:Nat->Nat->Bool}(h:∀x y z,f x y=true->f y z=false):∀(o:Nat) (K:List Nat),Ni f o K=tV f o K
 |_,[]=>rfl
 |_,[_]=>rfl
 |o,x::y::t=>by
  unfold Ni tV
  cases hf:f x y with
  |false=>simp only[aii,ahu,agH];exact AP h (o+1) (y::t)
  |true=>
   simp only[ahv,ajt]
   congr 1
   cases t with
   |nil=>rfl
   |cons z t=>
    unfold Ni
    rw[h x y z hf]
    simp only[aii,ahu,agH]
    exact AP h (o+2) (z::t)
def kg:List Nat->Nat->Nat->List (Nat×Nat)
 | [],_,_=>[]
 |x::t,i,s=>if t.head?=some x then kg t (i+1) s else(if i+1-s>1 then[(s,i+1-s)]else[])++kg t (i+1) (i+1)
def Af(p:Nat×Nat):List Nat:=(List.range (p.2/2)).map λk=>p.1+2*k
theorem FZ(s:Nat):Af (s,1)=[]:=by simp[Af]
theorem Sd(s:Nat):Af (s,0)=[]:=by simp[Af]
theorem Vz(s n:Nat):Af (s,n+2)=s::Af (s+2,n):=by
 unfold Af
 show(List.range ((n+2)/2)).map _=_
 rw[show(n+2)/2=n/2+1 by omega,List.range_succ_eq_map,ag8,aiO]
 congr 1
 refine aiG λk _=>?_
 show s+2*(k+1)=s+2+2*k
 omega
def Us(x y:Nat):Bool:=decide (x=y)
theorem F3(x:Nat)(t:List Nat)(ht:t.head?≠some x):∀(c s:Nat),tV Us s (List.replicate c x++t)=Af (s,c)++tV Us (s+c) t
 |0,s=>by rw[Sd];rfl
 |1,s=>by
  rw[FZ]
  cases t with
  |nil=>rfl
  |cons y t=>
   have:Us x y=false:=agD (λe=>ht (by rw[e];rfl))
   show tV Us s (x::y::t)=_
   rw[qE,this];rfl
 |c+2,s=>by
  have:Us x x=true:=agw rfl
  rw[Vz,ag7,ag7]
  show tV Us s (x::x::(List.replicate c x++t))=_
  rw[qE,this,af5 rfl,F3 x t ht c (s+2),show s+2+c=s+(c+2) by omega]
  rfl
theorem I_:∀(t:List Nat) (x i s:Nat),s<=i->(kg (x::t) i s).flatMap Af=tV Us s (List.replicate (i-s) x++x::t)
 | [],x,i,s,h=>by
  unfold kg
  simp only[List.head?_nil,reduceCtorEq,ahu]
  have e:(List.replicate (i-s) x++[x])=List.replicate (i+1-s) x++[]:=by rw[agi,<-ahR,show i-s+1=i+1-s by omega]
  rw[e,F3 x [] (by simp)]
  by_cases hn:i+1-s>1
  .rw[af5 hn];simp[kg,tV]
  .rw[af4 hn]
   have:i+1-s=1:=by omega
   rw[this,FZ];simp[kg,tV]
 |y::t,x,i,s,h=>by
  have ih:=I_ t y (i+1)
  unfold kg
  by_cases hy:y=x
  .subst hy
   rw[af5 (show(y::t).head?=some y from rfl),ih s (by omega),show i+1-s=(i-s)+1 by omega,ahR,agf]
   rfl
  .have hne:¬(y::t).head?=some x:=by simp;exact hy
   rw[af4 hne,ag_,ih (i+1) (af7 _),aiz]
   have e:(List.replicate (i-s) x++x::y::t)=List.replicate (i+1-s) x++y::t:=by rw[show i+1-s=(i-s)+1 by omega,ahR,agf];rfl
   rw[e,F3 x (y::t) hne,show s+(i+1-s)=i+1 by omega]
   congr 1
   by_cases hn:i+1-s>1
   .rw[af5 hn];simp
   .rw[af4 hn]
    have:i+1-s=1:=by omega
    rw[this,FZ];rfl
theorem OV(K:List Nat):(kg K 0 0).flatMap Af=tV Us 0 K:=by
 cases K with
 |nil=>rfl
 |cons x t=>rw[I_ t x 0 0 (af7 0)];rfl
theorem yX{f g:Nat->Nat->Bool}(h:∀x y,f x y=g x y):∀(o:Nat) (K:List Nat),tV f o K=tV g o K
 |_,[]=>rfl
 |_,[_]=>rfl
 |o,x::y::t=>by
  rw[qE,qE,h x y,yX h (o+2) t,yX h (o+1) (y::t)]
theorem vw:∀(t:List Nat) (i s:Nat),s<=i->∀p∈kg t i s,s<=p.1/\p.1+p.2<=i+t.length/\2<=p.2
 | [],_,_,_,p,hp=>by cases hp
 |x::t,i,s,h,p,hp=>by
  unfold kg at hp
  by_cases hx:t.head?=some x
  .rw[af5 hx]at hp
   have:=vw t (i+1) s (by omega) p hp
   rw[agc];omega
  .rw[af4 hx]at hp
   rcases ags.1 hp with hp|hp
   .by_cases hn:i+1-s>1
    .rw[af5 hn]at hp
     rw[agl.1 hp,agc]
     show s<=s/\s+(i+1-s)<=_/\2<=i+1-s
     omega
    .rw[af4 hn]at hp;cases hp
   .have:=vw t (i+1) (i+1) (by omega) p hp
    rw[agc];omega
theorem xC:∀(t:List Nat) (i s:Nat),(kg t i s).length<=t.length
 | [],_,_=>af7 0
 |x::t,i,s=>by
  unfold kg
  rw[agc]
  split
  .have:=xC t (i+1) s;omega
  .rw[af8]
   have:=xC t (i+1) (i+1)
   split<;>simp<;>omega
theorem OW{n:Nat}(ht:f_ n=true)(x y:Nat):fits n x y=Us x y:=by
 unfold f_ at ht
 obtain⟨h1,h2,h3⟩:=ahz ht
 unfold fits Us
 rw[af4 (by omega),af4 (by omega),af5 h3]
end M
end Go.Proofs.YtgbhohfabhilgaaGreatDoor
