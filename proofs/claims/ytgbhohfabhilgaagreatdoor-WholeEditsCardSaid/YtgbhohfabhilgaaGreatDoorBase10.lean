import Derived.Test.YtgbhohfabhilgaaGreatDoorBase06
import Derived.Test.YtgbhohfabhilgaaGreatDoorBase09
set_option maxRecDepth 100000
set_option maxHeartbeats 8000000
set_option linter.unusedVariables false
set_option linter.unusedSimpArgs false
namespace Go.Proofs.YtgbhohfabhilgaaGreatDoor
section
open Go.RowKit
namespace M
variable{e:En}{A B E:List En}{t:List Nat}{C d i j n:Nat}{y:Sy}{α:Type}
def BA(E:List En)(e:En):Prop:=(e.ru.kind=1->e.depth=0/\e.even=true)/\
 (e.ru.kind=2->e.depth=1+max (aF E e.ru.left).depth (aF E e.ru.right).depth/\e.even=((aF E e.ru.left).even&&(aF E e.ru.right).even&&decide (-1<=((aF E e.ru.left).depth:Int)-(aF E e.ru.right).depth)&&decide (((aF E e.ru.left).depth:Int)-(aF E e.ru.right).depth<=1)))/\
 (e.ru.kind=3->e.even=false)
inductive iE:List En->Prop
 |nil:iE []
 |snoc {E:List En} {e:En}:iE E->Fv E e->BA E e->iE (E++[e])
theorem iE.wf(h:iE E):Wf E:=by
 induction h with
 |nil=>exact .nil
 |snoc _ h2 _ ih=>exact .snoc ih h2
def Ext(E E2:List En):Prop:=∃X,E2=E++X
theorem Ext.refl(E:List En):Ext E E:=⟨[],by simp⟩
theorem Ext.trans{C:List En}(h:Ext A B)(k:Ext B C):Ext A C:=by
 obtain⟨X,rfl⟩:=h;obtain⟨Y,rfl⟩:=k;exact⟨X++Y,by rw[agf]⟩
theorem Ext.le(h:Ext A B):A.length<=B.length:=by
 obtain⟨X,rfl⟩:=h;simp
theorem Ext.ent(h:Ext A B)(hi:i<=A.length):aF B i=aF A i:=by
 obtain⟨X,rfl⟩:=h;unfold aF;by_cases h0:i=0
 .rw[af5 h0,af5 h0]
 rw[af4 h0,af4 h0,agV (by omega)]
theorem Ib:∀(X A:List En) {i:Nat},i<=A.length->txt (A++X) i=txt A i
 | [],A,i,_=>by rw[agi]
 |e::X,A,i,hi=>by
  have h:=Ib X (A++[e]) (i:=i) (by simp;omega)
  rw[agf]at h
  rw[show A++e::X=A++([e]++X) from rfl,h,gB hi]
theorem Ext.txt(h:Ext A B)(hi:i<=A.length):txt B i=txt A i:=by
 obtain⟨X,rfl⟩:=h;exact Ib X A hi
theorem BA.ext(h:BA A e)(hx:Ext A B)(ho:Fv A e):BA B e:=by
 refine⟨h.1,λhk=>?_,h.2.2⟩;rcases ho.kind with⟨a,-⟩|⟨-,-,-,a,-,b,-⟩|⟨a,-⟩
 .omega
 .rw[hx.ent a,hx.ent b];exact h.2.1 hk
 omega
theorem iE.at(h:iE E):∀i,0<i->i<=E.length->BA E (aF E i):=by
 induction h with
 |nil=>intro i h1 h2;simp at h2;omega
 | @snoc E e hE ho hd ih=>
  intro i h1 h2;rw[af8,agk]at h2;have hx:Ext E (E++[e]):=⟨[e],rfl⟩;by_cases hi:i<=E.length
  .rw[hx.ent hi];have hr:=hE.wf.rule i h1 hi;refine⟨(ih i h1 hi).1,λhk=>?_,(ih i h1 hi).2.2⟩;rcases hr.cases with⟨a,-⟩|⟨-,-,-,a,-,b,-⟩|⟨a,-⟩
   .omega
   .rw[hx.ent (by omega),hx.ent (by omega)];exact(ih i h1 hi).2.1 hk
   omega
  obtain rfl:i=E.length+1:=by omega
  rw[mX];exact hd.ext hx ho
theorem Ee{r:Ru}(hf:fid r 1 E≠0):0<fid r 1 E/\fid r 1 E<=E.length/\(aF E (fid r 1 E)).ru=r:=by
 obtain⟨j,e',h1,h2,h3⟩:=QF hf;have hj:=(agA.1 h2).1;refine⟨by omega,by omega,?_⟩;unfold aF;rw[af4 (by omega),show fid r 1 E-1=j by omega,h2];exact h3
theorem Fx(h:iE E)(ho:Fv E e)(hd:BA E e):iE (fA E e).1/\Ext E (fA E e).1/\(fA E e).1.length<=E.length+1/\0<(fA E e).2/\(fA E e).2<=(fA E e).1.length/\(aF (fA E e).1 (fA E e).2).ru=e.ru:=by
 unfold fA;by_cases hf:fid e.ru 1 E=0
 .rw[af5 hf];exact⟨.snoc h ho hd,⟨[e],rfl⟩,by simp,by simp,by simp,by rw[mX]⟩
 rw[af4 hf];obtain⟨a,b,c⟩:=Ee hf;exact⟨h,Ext.refl _,by simp,a,b,c⟩
theorem Mr(E:List En)(b:Nat):BA E (letE b):=by
 refine⟨λ_=>⟨rfl,rfl⟩,λh=>?_,λh=>?_⟩
 .have h':(1:Nat)=2:=h;omega
 have h':(1:Nat)=3:=h;omega
theorem Ic(E:List En)(l r:Nat):BA E (gN E l r):=by
 refine⟨λh=>?_,λ_=>⟨rfl,rfl⟩,λh=>?_⟩
 .have h':(2:Nat)=1:=h;omega
 have h':(2:Nat)=3:=h;omega
structure lY(E:List En)(i:Nat)(t:List Nat)(d:Nat):Prop where
 pos:0<i
 le:i<=E.length
 txt:txt E i=t
 even:(aF E i).even=true
 depth:(aF E i).depth=d
theorem lY.ext(h:lY A i t d)(hx:Ext A B):lY B i t d:=
 ⟨h.pos,af9 h.le hx.le,by rw[hx.txt h.le];exact h.txt,by rw[hx.ent h.le];exact h.even,by rw[hx.ent h.le];exact h.depth⟩
theorem U8(h:iE E){b:Nat}(hb:b<256):iE (fA E (letE b)).1/\Ext E (fA E (letE b)).1/\(fA E (letE b)).1.length<=E.length+1/\lY (fA E (letE b)).1 (fA E (letE b)).2 [b] 0:=by
 obtain⟨a1,a2,a3,a4,a5,a6⟩:=Fx h (Mo E hb) (Mr E b);refine⟨a1,a2,a3,a4,a5,?_,?_,?_⟩
 .rcases(a1.wf.rule _ a4 a5).cases with⟨-,-,-,-,-,g⟩|⟨g,-⟩|⟨g,-⟩
  .rw[g,a6];rfl
  .rw[a6]at g;cases g
  rw[a6]at g;cases g
 .exact((a1.at _ a4 a5).1 (by rw[a6];rfl)).2
 exact((a1.at _ a4 a5).1 (by rw[a6];rfl)).1
theorem Ie(h:iE E){l r dl dr:Nat}{s:List Nat}(hl:lY E l s dl)(hr:lY E r t dr)(hd:dl<=dr+1/\dr<=dl+1)(hlen:s.length+t.length<=1152921504606846976):
    (iM E l r).2.2=0/\iE (iM E l r).1/\Ext E (iM E l r).1/\(iM E l r).1.length<=E.length+1/\lY (iM E l r).1 (iM E l r).2.1 (s++t) (1+max dl dr):=by
 have e1:(aF E l).w.len=s.length:=by rw[(h.wf.get l hl.pos hl.le).1,hl.txt];rfl
 have e2:(aF E r).w.len=t.length:=by rw[(h.wf.get r hr.pos hr.le).1,hr.txt];rfl
 have e:iM E l r=((fA E (gN E l r)).1,(fA E (gN E l r)).2,0):=by
  unfold iM;rw[af4 (by have:=hl.pos;omega),af4 (by have:=hr.pos;omega),af5 (by rw[e1,e2];exact hlen)]
 rw[e];obtain⟨a1,a2,a3,a4,a5,a6⟩:=Fx h (Ia h.wf hl.pos hr.pos hl.le hr.le (by rw[e1,e2];exact hlen)) (Ic E l r);have hk:(aF (fA E (gN E l r)).1 (fA E (gN E l r)).2).ru=⟨2,0,l,r,0⟩:=a6;obtain⟨d1,d2⟩:=(a1.at _ a4 a5).2.1 (by rw[hk]);rw[hk]at d1 d2;dsimp only at d1 d2;rw[a2.ent hl.le,a2.ent hr.le,hl.depth,hr.depth]at d1 d2;rw[hl.even,hr.even]at d2;refine⟨rfl,a1,a2,a3,a4,a5,?_,?_,d1⟩
 .rcases(a1.wf.rule _ a4 a5).cases with⟨g,-⟩|⟨-,-,-,-,-,-,-,g⟩|⟨g,-⟩
  .rw[hk]at g;cases g
  .rw[g,hk,a2.txt hl.le,a2.txt hr.le,hl.txt,hr.txt]
  rw[hk]at g;cases g
 rw[d2];have h1:decide (-1<=(dl:Int)-dr)=true:=by simp;omega
 have h2:decide ((dl:Int)-dr<=1)=true:=by simp;omega
 rw[h1,h2];rfl
def Ms(n:Nat):Nat:=if n<=1 then 0 else 1+Ms (n-n/2)
termination_by n
decreasing_by omega
theorem Av(h:n<=1):Ms n=0:=by rw[Ms,af5 h]
theorem o8(h:1<n):Ms n=1+Ms (n-n/2):=by rw[Ms,af4 (by omega)]
theorem BC:∀(n m:Nat),m<=n->Ms m<=Ms n:=by
 intro n
 induction n using Nat.strongRecOn with
 |_ n ih=>
  intro m hm;by_cases h1:m<=1
  .rw[Av h1];exact agb _
  rw[o8 (by omega),o8 (n:=n) (by omega)];have:=ih (n-n/2) (by omega) (m-m/2) (by omega);omega
theorem Q6:∀(n:Nat),Ms (n+1)<=Ms n+1:=by
 intro n
 induction n using Nat.strongRecOn with
 |_ n ih=>
  by_cases h1:n<=1
  .rcases agP n with h0|h0
   .subst h0;rw[Av (n:=0+1) (by omega)];omega
   obtain rfl:n=1:=by omega
   rw[o8 (by omega),Av (by omega)];omega
  rw[o8 (n:=n+1) (by omega),o8 (n:=n) (by omega)];rcases aiB n with h2|h2
  .have e:n+1-(n+1)/2=(n-n/2)+1:=by omega
   rw[e];have:=ih (n-n/2) (by omega);omega
  have e:n+1-(n+1)/2=n-n/2:=by omega
  rw[e];omega
structure bH where
 pos:Int
 n:Int
 id:Nat
def dX:Int:=1152921504606846976
def rF(f n len:Int):Bool:=decide (0<=len)&&decide (len<=dX)&&decide (0<=f)&&decide (0<=n)&&decide (f<=len)&&decide (n<=len-f)
theorem dJ{f n len:Int}:rF f n len=true↔0<=len/\len<=dX/\0<=f/\0<=n/\f<=len/\n<=len-f:=by
 unfold rF;simp only[agy,aiJ];constructor
 .rintro⟨⟨⟨⟨⟨a,b⟩,c⟩,d⟩,e⟩,f⟩;exact⟨a,b,c,d,e,f⟩
 rintro⟨a,b,c,d,e,f⟩;exact⟨⟨⟨⟨⟨a,b⟩,c⟩,d⟩,e⟩,f⟩
def eQ(len last:Int)(c:bH):Bool:=rF c.pos c.n len && !decide (c.pos<=last) && !(decide (c.n=0)&&decide (c.id=0))
def yE(last:Int):List bH->Int
 | []=>last
 |c::L=>yE (c.pos+c.n) L
def bC(len last:Int):List bH->Bool
 | []=>true
 |c::L=>eQ len last c&&bC len (c.pos+c.n) L
theorem BG(len:Int):∀(L:List bH) (last:Int) (c:bH),bC len last (L++[c])=(bC len last L&&eQ len (yE last L) c)
 | [],last,c=>by simp[bC,yE]
 |a::L,last,c=>by
  show(eQ len last a&&bC len (a.pos+a.n) (L++[c]))=(eQ len last a&&bC len (a.pos+a.n) L&&eQ len (yE (a.pos+a.n) L) c)
  rw[BG len L]
  simp only[Bool.and_assoc]
theorem Ef:∀(L:List bH) (last:Int) (c:bH),yE last (L++[c])=c.pos+c.n
 | [],_,_=>rfl
 |_::L,_,c=>Ef L _ c
theorem uW{len last:Int}{L:List bH}(h:bC len last L=true)(i:Nat):bC len last (L.take i)=true:=by
 induction L generalizing last i with
 |nil=>simpa using h
 |cons a L ih=>
  cases i with
  |zero=>rfl
  |succ i=>
   simp only[bC,agy]at h;simp only[aiH,bC,agy];exact⟨h.1,ih h.2 i⟩
def fZ:List bH->Int
 | []=>0
 |c::L=>c.n+fZ L
theorem Eh:∀(L:List bH) (c:bH),fZ (L++[c])=fZ L+c.n
 | [],c=>by show c.n+0=0+c.n;omega
 |a::L,c=>by show a.n+fZ (L++[c])=a.n+fZ L+c.n;rw[Eh L];omega
def dN(E:List En):List bH->Nat
 | []=>0
 |c::L=>(txt E c.id).length+dN E L
theorem Ei(E:List En):∀(L:List bH) (c:bH),dN E (L++[c])=dN E L+(txt E c.id).length
 | [],c=>by show _+0=0+_;omega
 |a::L,c=>by show _+dN E (L++[c])=_+dN E L+_;rw[Ei E L];omega
theorem uX{len:Int}(h0:0<=len):∀(L:List bH) (last:Int),bC len last L=true-> -1<=last->last<=len->0<=fZ L/\fZ L+last<=yE last L+(if L=[]then 0 else 0)/\yE last L<=len/\last<=yE last L
 | [],last,_,h1,h2=>by simp[fZ,yE];exact h2
 |c::L,last,h,h1,h2=>by
  simp only[bC,eQ,agy,ahV,ahQ]at h
  obtain⟨⟨⟨h3,h4⟩,-⟩,h5⟩:=h
  obtain⟨-,-,a,b,e,f⟩:=dJ.1 h3
  obtain⟨g1,g2,g3,g4⟩:=uX h0 L (c.pos+c.n) h5 (by omega) (by omega)
  simp only[ite_self]at g2⊢
  refine⟨by show 0<=c.n+fZ L;omega,?_,g3,by show last<=yE (c.pos+c.n) L;omega⟩
  show c.n+fZ L+last<=yE (c.pos+c.n) L+0
  omega
theorem yF{len:Int}(h0:0<=len){L:List bH}(h:bC len (-1) L=true):0<=fZ L/\fZ L<=len:=by
 cases L with
 |nil=>exact⟨ako _,h0⟩
 |cons c L=>
  simp only[bC,eQ,agy,ahV,ahQ]at h;obtain⟨⟨⟨h3,h4⟩,-⟩,h5⟩:=h;obtain⟨-,-,a,b,e,f⟩:=dJ.1 h3;obtain⟨g1,g2,g3,g4⟩:=uX h0 L (c.pos+c.n) h5 (by omega) (by omega);simp only[ite_self]at g2;show 0<=c.n+fZ L/\c.n+fZ L<=len;omega
def wP(len:Int)(L:List bH):Int:=if ¬(0<=len/\len<=dX)then 1 else if bC len (-1) L then 0 else 4
def gK(E:List En)(len:Int)(L:List bH):Int×Int:=
 if wP len L≠0 then(0,wP len L)else if len-fZ L+dN E L<=dX then(len-fZ L+dN E L,0)else(0,2)
def zZ(E:List En)(L:List bH):Prop:=∀c∈L,c.id<=E.length/\(aF E c.id).even=true
theorem wQ(E:List En)(L:List bH)(i:Nat):dN E (L.take i)<=dN E L:=by
 induction L generalizing i with
 |nil=>simp[dN]
 |cons a L ih=>
  cases i with
  |zero=>exact agb _
  |succ i=>rw[aiH];show _+dN E (L.take i)<=_+dN E L;have:=ih i;omega
theorem kI{L:List α}(h:i<L.length):L.take (i+1)=L.take i++[L[i]]:=by
 rw[ajB,agt h];rfl
theorem lY.split(hE:iE E)(h:lY E i t d)(hd:0<d):
    ∃l r s1 t1 d1 d2,(aF E i).ru=⟨2,0,l,r,0⟩/\lY E l s1 d1/\lY E r t1 d2/\t=s1++t1/\d=1+max d1 d2/\d1<=d2+1/\d2<=d1+1:=by
 have hdo:=hE.at i h.pos h.le;rcases(hE.wf.rule i h.pos h.le).cases with⟨a,-⟩|⟨a,b,c1,c2,c3,c4,c5,c6⟩|⟨a,-⟩
 .have:=(hdo.1 a).1;rw[h.depth]at this;omega
 .obtain⟨e1,e2⟩:=hdo.2.1 a;rw[h.even]at e2;rw[h.depth]at e1;have e3:=e2.symm;simp only[agy,aiJ]at e3;obtain⟨⟨⟨x1,x2⟩,x3⟩,x4⟩:=e3;have hle:=h.le;refine⟨(aF E i).ru.left,(aF E i).ru.right,M.txt E (aF E i).ru.left,M.txt E (aF E i).ru.right,(aF E (aF E i).ru.left).depth,(aF E (aF E i).ru.right).depth,?_,⟨c1,by omega,rfl,x1,rfl⟩,⟨c3,by omega,rfl,x2,rfl⟩,?_,e1,by omega,by omega⟩
  .generalize(aF E i).ru=r at *;obtain⟨k,lt,l,r,tm⟩:=r;dsimp only at *;subst a b c5;rfl
  rw[<-h.txt,c6]
 have:=hdo.2.2 a;rw[h.even]at this;cases this
def Aw:Nat->Nat×Nat
 |0=>(1,2)
 |d+1=>((Aw d).2,(Aw d).1+(Aw d).2)
theorem Ol(d:Nat):(Aw d).1<=(Aw d).2:=by
 cases d with
 |zero=>decide
 |succ d=>show(Aw d).2<=(Aw d).1+(Aw d).2;omega
theorem o9:∀(k d:Nat),(Aw d).1<=(Aw (d+k)).1
 |0,d=>af7 _
 |k+1,d=>af9 (o9 k d) (show(Aw (d+k)).1<=(Aw (d+k)).2 from Ol _)
theorem U9(d:Nat):(Aw (d+2)).1=(Aw d).1+(Aw (d+1)).1:=rfl
theorem lY.least(hE:iE E):∀(d:Nat) {i:Nat} {t:List Nat},lY E i t d->(Aw d).1<=t.length:=by
 intro d
 induction d using Nat.strongRecOn with
 |_ d ih=>
  intro i t h;have hp:=(hE.wf.get i h.pos h.le).2.2.1;rw[h.txt]at hp
  match d,h,ih with
  |0,_,_=>exact hp
  |1,h,ih=>
   obtain⟨l,r,s1,t1,d1,d2,-,hl,hr,rfl,hd,-⟩:=h.split hE (by omega);have p1:=(hE.wf.get l hl.pos hl.le).2.2.1;have p2:=(hE.wf.get r hr.pos hr.le).2.2.1;rw[hl.txt]at p1;rw[hr.txt]at p2;rw[af8];show 2<=_;omega
  |d+2,h,ih=>
   obtain⟨l,r,s1,t1,d1,d2,-,hl,hr,rfl,hd,h1,h2⟩:=h.split hE (by omega);have i1:=ih d1 (by omega) hl;have i2:=ih d2 (by omega) hr;rw[af8,U9];rcases Nat.le_total d1 d2 with g|g
   .obtain rfl:d2=d+1:=(by omega);have:=o9 (d1-d) d;rw[show d+(d1-d)=d1 by omega]at this;omega
   obtain rfl:d1=d+1:=by omega
   have:=o9 (d2-d) d;rw[show d+(d2-d)=d2 by omega]at this;omega
theorem Zz:1152921504606846976<(Aw 87).1:=by decide+kernel
theorem lY.deep(hE:iE E)(h:lY E i t d):d<=86:=by
 have h1:=h.least hE;have h2:=(hE.wf.get i h.pos h.le).2.1;rw[h.txt]at h2;rcases aja d 87 with g|g
 .omega
 have:=o9 (d-87) 87;rw[show 87+(d-87)=d by omega]at this;have:=Zz;omega
theorem lY.len(hE:iE E)(h:lY E i t d):t.length<=1152921504606846976/\0<t.length:=by
 have h2:=hE.wf.get i h.pos h.le;rw[h.txt]at h2;exact⟨h2.2.1,h2.2.2.1⟩
structure fT(E:List En)(i:Nat)(t:List Nat):Prop where
 le:i<=E.length
 txt:txt E i=t
 even:(aF E i).even=true
theorem lY.zero(h:lY E i t d):fT E i t:=⟨h.le,h.txt,h.even⟩
theorem fT.Ig(h:fT E i t)(h0:0<i):lY E i t (aF E i).depth:=⟨h0,h.le,h.txt,h.even,rfl⟩
theorem fT.ext(h:fT A i t)(hx:Ext A B):fT B i t:=⟨af9 h.le hx.le,by rw[hx.txt h.le];exact h.txt,by rw[hx.ent h.le];exact h.even⟩
structure Cp where
 id:Nat
 times:Nat
def MZ(c:Cp):List Value:=[.int .i64 c.id,.int .i64 c.times]
theorem dO(c:Cp):(MZ c).length=2:=rfl
theorem tQ(c:Cp):∀u∈MZ c,u.oneCell'=true:=by simp[MZ,Value.oneCell']
def Cb(E:List En)(c:Cp):List Nat:=rep c.times (txt E c.id)
def qR(E:List En):List Cp->List Nat
 | []=>[]
 |a::L=>qR E L++Cb E a
theorem rU(E:List En)(L M:List Cp):qR E (L++M)=qR E M++qR E L:=by
 induction L with
 |nil=>show qR E M=qR E M++[];rw[agi]
 |cons a L ih=>show qR E (L++M)++Cb E a=qR E M++(qR E L++Cb E a);rw[ih,agf]
theorem Cc(E:List En)(c:Cp):qR E [c]=Cb E c:=rfl
def cst(E:List En)(i:Nat):Nat:=2*(txt E i).length-1
def Ab(E:List En):List Cp->Nat
 | []=>0
 |a::L=>Ab E L+a.times*cst E a.id
theorem vo(E:List En)(L M:List Cp):Ab E (L++M)=Ab E M+Ab E L:=by
 induction L with
 |nil=>show Ab E M=Ab E M+0;rfl
 |cons a L ih=>show Ab E (L++M)+a.times*cst E a.id=Ab E M+(Ab E L+a.times*cst E a.id);rw[ih];omega
theorem FR(E:List En)(c:Cp):Ab E [c]=c.times*cst E c.id:=by show 0+_=_;omega
def kids(r:Ru):List Cp:=if r.kind=1 then[]else if r.kind=2 then[⟨r.right,1⟩,⟨r.left,1⟩]else[⟨r.left,r.times⟩]
def emit(r:Ru):List Nat:=if r.kind=1 then[r.letter]else[]
def fD(L:List Cp)(s:Cp):List Cp:=if s.times=1 then L else L++[⟨s.id,s.times-1⟩]
def Xw(E:List En)(s:Cp):Prop:=0<s.id/\s.id<=E.length/\0<s.times/\s.times<=1152921504606846976
theorem OH{L:List Cp}{s:Cp}(h:Xw E s):txt E s.id++qR E (fD L s)=qR E (L++[s]):=by
 rw[rU,Cc]
 have hr:Cb E s=txt E s.id++rep (s.times-1) (txt E s.id):=by
  unfold Cb
  obtain⟨-,-,h3,-⟩:=h
  obtain⟨k,hk⟩:∃k,s.times=k+1:=⟨s.times-1,by omega⟩
  rw[hk,ji,ahU]
 rw[hr]
 unfold fD
 split
 .rename_i h1
  rw[h1]
  show _=(txt E s.id++[])++qR E L
  rw[agi]
 .rw[rU,Cc]
  unfold Cb
  rw[agf]
theorem RH{L:List Cp}{s:Cp}(h:Xw E s):Ab E (fD L s)+cst E s.id=Ab E (L++[s]):=by
 rw[vo,FR]
 obtain⟨-,-,h3,-⟩:=h
 obtain⟨k,hk⟩:∃k,s.times=k+1:=⟨s.times-1,by omega⟩
 unfold fD
 split
 .rename_i h1
  rw[h1];omega
 .rw[vo,FR,hk,ahU,ag6];dsimp only;omega
theorem RI{L:List Cp}{s:Cp}(h:∀x∈L++[s],Xw E x):∀x∈fD L s,Xw E x:=by
 intro x hx
 unfold fD at hx
 split at hx
 .exact h x (ahd _ hx)
 .rename_i h1
  rcases ags.1 hx with g|g
  .exact h x (ahd _ g)
  .simp only[agl]at g
   subst g
   obtain⟨a,b,c,d⟩:=h s (by simp)
   exact⟨a,b,by dsimp only;omega,by dsimp only;omega⟩
theorem K7(hwf:Wf E){s:Cp}(h:Xw E s):emit (aF E s.id).ru++qR E (kids (aF E s.id).ru)=txt E s.id/\Ab E (kids (aF E s.id).ru)<cst E s.id/\(∀c∈kids (aF E s.id).ru,Xw E c/\c.id<s.id)/\(kids (aF E s.id).ru).length<=2:=by
 obtain⟨h1,h2,-,-⟩:=h
 have pos:∀i,0<i->i<=E.length->0<(txt E i).length:=λi a b=>(hwf.get i a b).2.2.1
 rcases(hwf.rule s.id h1 h2).cases with⟨a,-,-,-,-,g⟩|⟨a,-,c,d,f,g,-,l⟩|⟨a,-,c,d,-,f,g,l⟩
 .unfold emit kids
  rw[af5 a,af5 a,g]
  unfold cst
  rw[g]
  exact⟨rfl,by show 0<2*1-1;omega,by simp,by simp⟩
 .have p1:=pos _ c (by omega);have p2:=pos _ f (by omega)
  unfold emit kids
  rw[af4 (by omega),af4 (by omega),af5 a]
  refine⟨?_,?_,?_,by simp⟩
  .rw[l]
   show[]++(([]++Cb E ⟨_,1⟩)++Cb E ⟨_,1⟩)=_
   unfold Cb
   rw[iB,iB,agH,agH]
  .show 0+1*cst E _+1*cst E _<_
   unfold cst
   rw[l,af8];dsimp only;omega
  .intro c' hc
   simp only[agm,ahA,ahD]at hc
   rcases hc with rfl|rfl
   .exact⟨⟨f,by dsimp only;omega,by dsimp only;omega,by dsimp only;omega⟩,g⟩
   .exact⟨⟨c,by dsimp only;omega,by dsimp only;omega,by dsimp only;omega⟩,d⟩
 .have p1:=pos _ c (by omega)
  unfold emit kids
  rw[af4 (by omega),af4 (by omega),af4 (by omega)]
  refine⟨?_,?_,?_,by simp⟩
  .rw[l];rfl
  .rw[FR]
   unfold cst
   rw[l,fQ]
   dsimp only
   have:(aF E s.id).ru.times*(2*(txt E (aF E s.id).ru.left).length-1)+(aF E s.id).ru.times=2*((aF E s.id).ru.times*(txt E (aF E s.id).ru.left).length):=by
    obtain⟨q,hq⟩:∃q,(txt E (aF E s.id).ru.left).length=q+1:=⟨_,(Nat.succ_pred_eq_of_pos p1).symm⟩
    rw[hq,show 2*(q+1)-1=2*q+1 by omega,aiA,aiA,ag3,aiA,<-aiN,<-aiN,ahq 2];omega
   omega
  .intro c' hc
   simp only[agm,ahA,ahD]at hc
   subst hc
   exact⟨⟨c,by dsimp only;omega,by dsimp only;omega,g⟩,d⟩
def DK(C:Nat)(L:List Cp):Prop:=∀(k:Nat) (s:Cp),L[k]?=some s->k+1+3*s.id<=C
theorem DK.len{L:List Cp}(h:DK C L):L.length<=C:=by
 rcases agR L with rfl|⟨L',s,rfl⟩
 .simp
 .have:=h L'.length s (by rw[agO,agN (af7 _)];simp)
  rw[agO,af8,agk];omega
theorem DK.drop{L:List Cp}{s:Cp}(h:DK C (L++[s])):DK C (fD L s):=by
 have h0:DK C L:=λk x hx=>h k x (by rw[agV (agA.1 hx).1];exact hx)
 unfold fD
 split
 .exact h0
 .intro k x hx
  by_cases hk:k<L.length
  .rw[agV hk]at hx
   exact h0 k x hx
  .rw[agN (by omega)]at hx
   have hk2:=(agA.1 hx).1
   simp only[agk]at hk2
   have e:k=L.length:=by omega
   subst e
   simp at hx
   subst hx
   exact h L.length s (by rw[agN (af7 _)];simp)
theorem Ew(L:List Cp)(s:Cp):(fD L s).length<=L.length+1:=by
 unfold fD;split<;>simp
theorem DK.push{L M:List Cp}{s:Cp}(h:DK C (L++[s]))(hM:∀x∈M,x.id<s.id)(hl:M.length<=2):DK C (fD L s++M):=by
 intro k x hx
 by_cases hk:k<(fD L s).length
 .rw[agV hk]at hx
  exact h.drop k x hx
 .rw[agN (by omega)]at hx
  have h1:=h L.length s (by rw[agN (af7 _)];simp)
  have h2:=hM x (agE hx)
  have h3:=(agA.1 hx).1
  have h4:=Ew L s
  omega
theorem aP.put{B g cap:Nat}{W:World}{e:TypeId}{size:Nat}{enc:α->List Value}(he:∀a,(enc a).length=size){L:List α}{a b:α}(h:aP B W e size enc (.slice (some ⟨g,0,none⟩) n cap) (L++[a]))(hj:j<size){u:Value}(hb:enc b=(enc a).set j u):
    aP B (W.setCell ⟨g,L.length*size+j,none⟩ u) e size enc (.slice (some ⟨g,0,none⟩) n cap) (L++[b]):=by
 have hx:(L++[b]).flatMap enc=((L++[a]).flatMap enc).set (L.length*size+j) u:=by
  simp only[ag_,agW,aj_,agi]
  rw[aiY _ _ (by rw[bf he];omega),bf he,ajo,hb]
 have hn:(L++[b]).length=(L++[a]).length:=by simp
 unfold aP at h⊢
 rw[hx,hn]
 refine⟨by rw[agL];exact h.1,?_⟩
 rcases h.2 with⟨hv,_⟩|⟨g',cap',cur,hv,hg,hgb,h1,h2,h3,h4⟩
 .cases hv
 .cases hv
  refine .inr ⟨g,cap,cur.setIfInBounds (L.length*size+j) u,rfl,hg,aC _ hgb,h1,h2,by simpa using h3,?_⟩
  rw[ajh,akj,h4]
def sy(T:List Sy)(i:Nat):Sy:=(T[i-1]?).getD (.lt 0)
def z_(T:List Sy)(r:Ru):Sy:=if r.kind=1 then .lt r.letter else if r.kind=2 then .pr (sy T r.left) (sy T r.right)else .pw (sy T r.left) r.times
def syms(E:List En):List Sy:=E.foldl (λT e=>T++[z_ T e.ru]) []
theorem pq(E:List En)(e:En):syms (E++[e])=syms E++[z_ (syms E) e.ru]:=by
 unfold syms
 rw[ai2];rfl
theorem bN(E:List En):(syms E).length=E.length:=by
 rcases agR E with rfl|⟨E',e,rfl⟩
 .rfl
 .rw[agO,pq,af8,af8,bN E'];rfl
termination_by E.length
decreasing_by simp_all
def sym(E:List En)(i:Nat):Sy:=sy (syms E) i
theorem BS(h0:0<i)(hi:i<=E.length):sym (E++[e]) i=sym E i:=by
 unfold sym sy
 rw[pq,agV (by rw[bN];omega)]
theorem Iu(E:List En)(e:En):sym (E++[e]) (E.length+1)=z_ (syms E) e.ru:=by
 unfold sym sy
 rw[pq,agN (by rw[bN];omega),bN]
 simp
theorem Iw:∀(X A:List En) {i:Nat},0<i->i<=A.length->sym (A++X) i=sym A i
 | [],A,i,_,_=>by rw[agi]
 |e::X,A,i,h0,hi=>by
  have h:=Iw X (A++[e]) (i:=i) h0 (by simp;omega)
  rw[agf]at h
  rw[show A++e::X=A++([e]++X) from rfl,h,BS h0 hi]
theorem Ext.sym{A B:List En}(h:Ext A B){i:Nat}(h0:0<i)(hi:i<=A.length):M.sym B i=M.sym A i:=by
 obtain⟨X,rfl⟩:=h
 exact Iw X A h0 hi
theorem yO:∀(X A:List En),∃Y,syms (A++X)=syms A++Y
 | [],A=>⟨[],by simp⟩
 |e::X,A=>by
  obtain⟨Y,h⟩:=yO X (A++[e])
  rw[agf,pq]at h
  exact⟨z_ (syms A) e.ru::Y,by rw[show A++e::X=A++([e]++X) from rfl,h];simp⟩
theorem tF(h0:0<i)(hi:i<=E.length):sym E i∈syms E:=by
 unfold sym sy
 rw[agt (by rw[bN];omega)]
 exact ag0 _
theorem FD(h:y∈syms E):∃i,0<i/\i<=E.length/\sym E i=y:=by
 obtain⟨k,hk,e⟩:=ajv h
 rw[bN]at hk
 refine⟨k+1,by omega,by omega,?_⟩
 unfold sym sy
 rw[ahU,agt (by rw[bN];omega)]
 exact e
theorem Rm(h:Wf E):∀i,0<i->i<=E.length->sym E i=z_ (syms E) (aF E i).ru:=by
 induction h with
 |nil=>intro i h1 h2;simp at h2;omega
 | @snoc E e hE he ih=>
  intro i h1 h2
  rw[af8,agk]at h2
  have low:∀j,0<j->j<=E.length->sy (syms (E++[e])) j=sy (syms E) j:=λj a b=>BS a b
  by_cases hi:i<=E.length
  .have e1:aF (E++[e]) i=aF E i:=by
    unfold aF
    rw[af4 (by omega),af4 (by omega),agV (by omega)]
   rw[BS h1 hi,e1,ih i h1 hi]
   have hr:=hE.rule i h1 hi
   unfold z_
   rcases hr.cases with⟨a,-⟩|⟨a,-,b,c,d,f,-⟩|⟨a,-,b,c,-⟩
   .rw[af5 a,af5 a]
   .rw[af4 (by omega),af5 a,af4 (by omega),af5 a,low _ b (by omega),low _ d (by omega)]
   .rw[af4 (by omega),af4 (by omega),af4 (by omega),af4 (by omega),low _ b (by omega)]
  .obtain rfl:i=E.length+1:=by omega
   rw[Iu,mX]
   unfold z_
   rcases he.kind with⟨a,-⟩|⟨a,-,b,c,d,f,-⟩|⟨a,-,b,c,-⟩
   .rw[af5 a,af5 a]
   .rw[af4 (by omega),af5 a,af4 (by omega),af5 a,low _ b c,low _ d f]
   .rw[af4 (by omega),af4 (by omega),af4 (by omega),af4 (by omega),low _ b c]
theorem fI(h:Wf E)(h0:0<i)(hi:i<=E.length):
    (∃b,(aF E i).ru=⟨1,b,0,0,0⟩/\sym E i=.lt b/\b<256)\/(∃l r,(aF E i).ru=⟨2,0,l,r,0⟩/\sym E i=.pr (sym E l) (sym E r)/\0<l/\l<i/\0<r/\r<i)\/(∃x k,(aF E i).ru=⟨3,0,x,0,k⟩/\sym E i=.pw (sym E x) k/\0<x/\x<i/\2<=k/\k<=1152921504606846976):=by
 have hs:=Rm h i h0 hi
 have hr:=(h.rule i h0 hi).cases
 generalize(aF E i).ru=r at hs hr⊢
 obtain⟨k,b,l,rr,t⟩:=r
 unfold z_ at hs
 dsimp only at hs
 rcases hr with⟨a,b1,b2,b3,b4,-⟩|⟨a,b1,b2,b3,b4,b5,b6,-⟩|⟨a,b1,b2,b3,b4,b5,b6,-⟩
 .try dsimp only at a b1 b2 b3 b4
  subst a b2 b3 b4
  exact .inl ⟨b,rfl,hs,b1⟩
 .try dsimp only at a b1 b2 b3 b4 b5 b6
  subst a b1 b6
  exact .inr (.inl ⟨l,rr,rfl,hs,b2,b3,b4,b5⟩)
 .try dsimp only at a b1 b2 b3 b4 b5 b6
  subst a b1 b4
  exact .inr (.inr ⟨l,t,rfl,hs,b2,b3,b5,b6⟩)
theorem Ou{l:List α}(h:l.Nodup)(hi:i<l.length)(hj:j<l.length)(e:l[i]=l[j]):i=j:=by
 rw[List.Nodup,akv]at h
 rcases ajC i j with k|k|k
 .exact absurd e (h i j hi hj k)
 .exact k
 .exact absurd e.symm (h j i hj hi k)
theorem FE(h:Wf E)(hn:(E.map En.ru).Nodup):∀i j,0<i->i<=E.length->0<j->j<=E.length->sym E i=sym E j->i=j:=by
 intro i
 induction i using Nat.strongRecOn with
 |_ i ih=>
  intro j h0 hi k0 hj he
  have mW:(aF E i).ru=(aF E j).ru->i=j:=λe=>by
   rw[qm h0 hi,qm k0 hj]at e
   have:=Ou hn (i:=i-1) (j:=j-1) (by rw[agM];omega) (by rw[agM];omega) (by rw[aiK,aiK];exact e)
   omega
  rcases fI h h0 hi with⟨b,r1,s1,-⟩|⟨l,r,r1,s1,l1,l2,l3,l4⟩|⟨x,k,r1,s1,l1,l2,l3,l4⟩<;>rcases fI h k0 hj with⟨b',r1',s1',-⟩|⟨l',r',r1',s1',l1',l2',l3',l4'⟩|⟨x',k',r1',s1',l1',l2',l3',l4'⟩<;>rw[s1,s1']at he<;>first|(cases he;done)|skip
  .injection he with e
   exact mW (by rw[r1,r1',e])
  .injection he with e1 e2
   have q1:=ih l l2 l' l1 (by omega) l1' (by omega) e1
   have q2:=ih r l4 r' l3 (by omega) l3' (by omega) e2
   exact mW (by rw[r1,r1',q1,q2])
  .injection he with e1 e2
   have q1:=ih x l2 x' l1 (by omega) l1' (by omega) e1
   exact mW (by rw[r1,r1',q1,e2])
theorem FH(h:Wf E):∀i,0<i->i<=E.length->txt E i=ug (uU E) (aF E i).ru:=by
 induction h with
 |nil=>intro i h1 h2;simp at h2;omega
 | @snoc E e hE he ih=>
  intro i h1 h2
  rw[af8,agk]at h2
  have low:∀j,j<=E.length->tx (uU (E++[e])) j=tx (uU E) j:=λj b=>gB b
  by_cases hi:i<=E.length
  .have e1:aF (E++[e]) i=aF E i:=by
    unfold aF
    rw[af4 (by omega),af4 (by omega),agV (by omega)]
   rw[gB hi,e1,ih i h1 hi]
   have hr:=hE.rule i h1 hi
   unfold ug
   rcases hr.cases with⟨a,-⟩|⟨a,-,b,c,d,f,-⟩|⟨a,-,b,c,-⟩
   .rw[af5 a,af5 a]
   .rw[af4 (by omega),af5 a,af4 (by omega),af5 a,low _ (by omega),low _ (by omega)]
   .rw[af4 (by omega),af4 (by omega),af4 (by omega),af4 (by omega),low _ (by omega)]
  .obtain rfl:i=E.length+1:=by omega
   rw[Br,mX]
   unfold ug
   rcases he.kind with⟨a,-⟩|⟨a,-,b,c,d,f,-⟩|⟨a,-,b,c,-⟩
   .rw[af5 a,af5 a]
   .rw[af4 (by omega),af5 a,af4 (by omega),af5 a,low _ c,low _ f]
   .rw[af4 (by omega),af4 (by omega),af4 (by omega),af4 (by omega),low _ c]
theorem MK(h:Wf E):∀i,0<i->i<=E.length->aV (sym E i)=txt E i:=by
 intro i
 induction i using Nat.strongRecOn with
 |_ i ih=>
  intro h0 hi
  rw[FH h i h0 hi]
  unfold ug
  rcases fI h h0 hi with⟨b,r1,s1,-⟩|⟨l,r,r1,s1,l1,l2,l3,l4⟩|⟨x,k,r1,s1,l1,l2,l3,l4⟩
  .rw[r1,s1];rfl
  .rw[r1,s1]
   show aV (sym E l)++aV (sym E r)=txt E l++txt E r
   rw[ih l l2 l1 (by omega),ih r l4 l3 (by omega)]
  .rw[r1,s1]
   show(List.replicate k (aV (sym E x))).flatten=rep k (txt E x)
   rw[ih x l2 l1 (by omega)];rfl
theorem BU(h:Wf E)(hn:(E.map En.ru).Nodup):(syms E).Nodup:=by
 rw[List.Nodup,akv]
 intro i j hi hj hij e
 rw[bN]at hi hj
 have:=FE h hn (i+1) (j+1) (by omega) (by omega) (by omega) (by omega) (by
  unfold sym sy
  rw[ahU,ahU,agt (by rw[bN];omega),agt (by rw[bN];omega)]
  exact e)
 omega
def num(E:List En)(y:Sy):Nat:=(syms E).idxOf y+1
theorem aS(h:y∈syms E):0<num E y/\num E y<=E.length/\sym E (num E y)=y:=by
 have hlt:=List.idxOf_lt_length_of_mem h
 rw[bN]at hlt
 refine⟨Nat.succ_pos _,hlt,?_⟩
 unfold sym sy num
 rw[ahU,agt (by rw[bN];exact hlt)]
 exact List.getElem_idxOf _
theorem AJ(h:Wf E)(hn:(E.map En.ru).Nodup)(h0:0<i)(hi:i<=E.length):num E (sym E i)=i:=by
 obtain⟨a,b,c⟩:=aS (tF h0 hi)
 exact FE h hn _ _ a b h0 hi c
theorem eZ(h:Ext A B)(hy:y∈syms A):num B y=num A y:=by
 obtain⟨X,rfl⟩:=h
 obtain⟨Y,e⟩:=yO X A
 unfold num
 rw[e,List.idxOf_append,af5 hy]
theorem Ext.mem(h:Ext A B)(hy:y∈syms A):y∈syms B:=by
 obtain⟨X,rfl⟩:=h
 obtain⟨Y,e⟩:=yO X A
 rw[e];simp[hy]
theorem pz(h:Wf E){x:Sy}(hy:y∈syms E)(hx:x∈aZ y):x∈syms E:=by
 obtain⟨i,h0,hi,rfl⟩:=FD hy
 rcases fI h h0 hi with⟨b,r1,s1,-⟩|⟨l,r,r1,s1,l1,l2,l3,l4⟩|⟨x',k,r1,s1,l1,l2,l3,l4⟩
 .rw[s1]at hx;cases hx
 .rw[s1]at hx
  simp[aZ]at hx
  rcases hx with rfl|rfl
  .exact tF l1 (by omega)
  .exact tF l3 (by omega)
 .rw[s1]at hx
  simp[aZ]at hx
  rw[hx.2]
  exact tF l1 (by omega)
def yP(E:List En):Sy->Ru
 | .lt b=>⟨1,b,0,0,0⟩
 | .pr l r=>⟨2,0,num E l,num E r,0⟩
 | .pw x k=>⟨3,0,num E x,0,k⟩
theorem ZJ(h:Wf E)(hn:(E.map En.ru).Nodup)(h0:0<i)(hi:i<=E.length):(aF E i).ru=yP E (sym E i):=by
 rcases fI h h0 hi with⟨b,r1,s1,-⟩|⟨l,r,r1,s1,l1,l2,l3,l4⟩|⟨x,k,r1,s1,l1,l2,l3,l4⟩
 .rw[r1,s1];rfl
 .rw[r1,s1]
  show _=(⟨2,0,num E (sym E l),num E (sym E r),0⟩:Ru)
  rw[AJ h hn l1 (by omega),AJ h hn l3 (by omega)]
 .rw[r1,s1]
  show _=(⟨3,0,num E (sym E x),0,k⟩:Ru)
  rw[AJ h hn l1 (by omega)]
end M
end
section
open Go.RowKit Go.Lib
namespace M
attribute [local go_sem] Oper.semAt_some
theorem pF(w:World)(r:Ru):∃wz w2,w.alloc (.cells #[.int .i64 0,.int .u8 0,.int .i64 0,.int .i64 0,.int .i64 0] 50)=wz/\
    ((((wz.setCell ⟨w.heap.size,0,none⟩ (.int .i64 r.kind)).setCell ⟨w.heap.size,1,none⟩ (.int .u8 r.letter)).setCell ⟨w.heap.size,2,none⟩ (.int .i64 r.left)).setCell ⟨w.heap.size,3,none⟩ (.int .i64 r.right)).setCell ⟨w.heap.size,4,none⟩ (.int .i64 r.times)=w2/\
    eP w2 w.heap.size r/\Below w.heap.size w w2/\(wz.cell? ⟨w.heap.size,0,none⟩=some (.int .i64 0)/\wz.cell? ⟨w.heap.size,1,none⟩=some (.int .u8 0)/\wz.cell? ⟨w.heap.size,2,none⟩=some (.int .i64 0)/\wz.cell? ⟨w.heap.size,3,none⟩=some (.int .i64 0)/\wz.cell? ⟨w.heap.size,4,none⟩=some (.int .i64 0))/\
    (wz.frozen? ⟨w.heap.size,0,none⟩=false/\wz.frozen? ⟨w.heap.size,1,none⟩=false/\wz.frozen? ⟨w.heap.size,2,none⟩=false/\wz.frozen? ⟨w.heap.size,3,none⟩=false/\wz.frozen? ⟨w.heap.size,4,none⟩=false):=by
 have k0:eP (w.alloc (.cells #[.int .i64 0,.int .u8 0,.int .i64 0,.int .i64 0,.int .i64 0] 50)) w.heap.size ⟨0,0,0,0,0⟩:=aD _ _
 have b0:Below w.heap.size w (w.alloc (.cells #[.int .i64 0,.int .u8 0,.int .i64 0,.int .i64 0,.int .i64 0] 50)):=(af6 _ _).alloc (af7 _) _
 exact⟨_,_,rfl,rfl,k0.set r,((((b0.setCell (p:=⟨w.heap.size,0,none⟩) (af7 _) _).setCell (p:=⟨w.heap.size,1,none⟩) (af7 _) _).setCell (p:=⟨w.heap.size,2,none⟩) (af7 _) _).setCell (p:=⟨w.heap.size,3,none⟩) (af7 _) _).setCell (p:=⟨w.heap.size,4,none⟩) (af7 _) _,k0.cells,k0.free 0,k0.free 1,k0.free 2,k0.free 3,k0.free 4⟩
theorem kE(w:World)(u:Wt):∃wz w2,w.alloc (.cells #[.int .i64 0,.int .i64 0,.int .i64 0,.int .i64 0,.int .u64 0,.int .u64 0] 92)=wz/\
    (((((wz.setCell ⟨w.heap.size,0,none⟩ (.int .i64 u.len)).setCell ⟨w.heap.size,1,none⟩ (.int .i64 u.lines)).setCell ⟨w.heap.size,2,none⟩ (.int .i64 u.head)).setCell ⟨w.heap.size,3,none⟩ (.int .i64 u.tail)).setCell ⟨w.heap.size,4,none⟩ (.int .u64 u.d.v)).setCell ⟨w.heap.size,5,none⟩ (.int .u64 u.d.s)=w2/\
    dz w2 w.heap.size u/\Below w.heap.size w w2/\(wz.cell? ⟨w.heap.size,0,none⟩=some (.int .i64 0)/\wz.cell? ⟨w.heap.size,1,none⟩=some (.int .i64 0)/\wz.cell? ⟨w.heap.size,2,none⟩=some (.int .i64 0)/\wz.cell? ⟨w.heap.size,3,none⟩=some (.int .i64 0)/\wz.cell? ⟨w.heap.size,4,none⟩=some (.int .u64 0)/\wz.cell? ⟨w.heap.size,5,none⟩=some (.int .u64 0))/\
    (wz.frozen? ⟨w.heap.size,0,none⟩=false/\wz.frozen? ⟨w.heap.size,1,none⟩=false/\wz.frozen? ⟨w.heap.size,2,none⟩=false/\wz.frozen? ⟨w.heap.size,3,none⟩=false/\wz.frozen? ⟨w.heap.size,4,none⟩=false/\wz.frozen? ⟨w.heap.size,5,none⟩=false):=by
 have k0:dz (w.alloc (.cells #[.int .i64 0,.int .i64 0,.int .i64 0,.int .i64 0,.int .u64 0,.int .u64 0] 92)) w.heap.size w0:=aD _ _
 have b0:Below w.heap.size w (w.alloc (.cells #[.int .i64 0,.int .i64 0,.int .i64 0,.int .i64 0,.int .u64 0,.int .u64 0] 92)):=(af6 _ _).alloc (af7 _) _
 exact⟨_,_,rfl,rfl,k0.set u,bY b0 (af7 _) u,k0.cells,k0.free 0,k0.free 1,k0.free 2,k0.free 3,k0.free 4,k0.free 5⟩
def yS(n:Nat):List Value:=[.int .u8 n]
theorem lI(n:Nat):(yS n).length=1:=rfl
theorem IZ(n:Nat):∀u∈yS n,u.oneCell'=true:=by simp[yS,Value.oneCell']
abbrev RN(B:Nat)(W:World)(v:Value)(l:List Nat):Prop:=aP B W 5 1 yS v l
theorem Xx:Elem Tryz.prog 22 5 1 1:=gP Tryz.underlying22 (z:=.int .u8 0) (by kernel_rfl) rfl (by decide) (by decide)
section
variable {n0 B most:Nat} {W:World} {E:List En}
theorem tK(h:aW n0 W B most E){i:Nat}(hi:i<=E.length)(hE:E.length<=1048576):
    Calls Tryz.prog 130 #[.pointer (some ⟨B,0,none⟩),.int .i64 i] W λe w'=>e=.returned (.tuple #[.int .i64 (aF E i).depth,.nilIface])/\Below W.heap.size W w':=by
 have QG:=ak (fH h (i:Int))
 rw[agw (show 0<=(i:Int)/\(i:Int)<=(E.length:Int) by omega)]at QG
 have HAT:=ak (rC h hi hE)
 have hfl:∀(a b c d e f g h i j k l m:Value) (w:World),(Instr.field 136 (.agg #[a,b,c,d,e,f,g,h,i,j,k,l,m]) 2).run Tryz.prog w=.ok l w:=λ_ _ _ _ _ _ _ _ _ _ _ _ _ _=>by kernel_rfl
 obtain⟨e,he⟩:=ay (aF E i)
 rw[he]at HAT⊢
 unfold DF at HAT
 clear h he
 go_enter Tryz.func130,Tryz.ntmps130
 go_wp2_with fail
 refine QG.o.mono ?_;rintro e' w4 ⟨rfl,h⟩;rw[h];clear h w4
 go_wp2_with fail
 refine HAT.o.mono ?_;rintro e' w2 ⟨rfl,b2⟩
 have B2:=ak b2
 clear b2
 go_wp2_with fail
 go_ret2
 exact⟨rfl,B2.o⟩
theorem B_(h:aW n0 W B most E){i:Nat}(hi:i<=E.length)(hE:E.length<=1048576):
    Calls Tryz.prog 131 #[.pointer (some ⟨B,0,none⟩),.int .i64 i] W λe w'=>e=.returned (.bool (aF E i).even)/\Below W.heap.size W w':=by
 have QG:=ak (fH h (i:Int))
 rw[agw (show 0<=(i:Int)/\(i:Int)<=(E.length:Int) by omega)]at QG
 have HAT:=ak (rC h hi hE)
 have hfl:∀(a b c d e f g h i j k l m:Value) (w:World),(Instr.field 136 (.agg #[a,b,c,d,e,f,g,h,i,j,k,l,m]) 3).run Tryz.prog w=.ok m w:=λ_ _ _ _ _ _ _ _ _ _ _ _ _ _=>by kernel_rfl
 obtain⟨e,he⟩:=ay (aF E i)
 rw[he]at HAT⊢
 unfold DF at HAT
 clear h he
 go_enter Tryz.func131,Tryz.ntmps131
 go_wp2_with fail
 refine QG.o.mono ?_;rintro e' w4 ⟨rfl,h⟩;rw[h];clear h w4
 go_wp2_with fail
 refine HAT.o.mono ?_;rintro e' w2 ⟨rfl,b2⟩
 have B2:=ak b2
 clear b2
 go_wp2_with fail
 go_ret
 exact⟨rfl,B2.o⟩
theorem qy(h:aW n0 W B most E){i:Nat}(hi:i<=E.length)(hE:E.length<=1048576):
    Calls Tryz.prog 93 #[.pointer (some ⟨B,0,none⟩),.int .i64 i] W λe w'=>e=.returned (.tuple #[.bool (aF E i).even,.nilIface])/\Below W.heap.size W w':=by
 have HD:=ak (tK h hi hE)
 have HV:=ak (λw hw=>B_ (h.below hw) hi hE (W:=w))
 generalize(aF E i).depth=d at *
 generalize(aF E i).even=b at *
 clear h
 go_enter Tryz.func93,Tryz.ntmps93
 go_wp2_with fail
 refine HD.o.mono ?_;rintro e' w1 ⟨rfl,b1⟩
 have B1:=ak b1
 clear b1
 go_wp2_with fail
 refine(HV.o w1 B1.o).mono ?_;rintro e' w2 ⟨rfl,b2⟩
 have B2:=ak (Below.after B1.o b2)
 clear b2
 go_wp2_with fail
 go_ret2
 exact⟨rfl,B2.o⟩
theorem wY(h:aW n0 W B most E):
    Calls Tryz.prog 54 #[.pointer (some ⟨B,0,none⟩)] W λe w'=>e=.returned (.int .i64 E.length)/\w'=W:=by
 obtain⟨lv,mb,h1,h2,-,-,-⟩:=h
 obtain⟨a,cap,rfl⟩:=h2.len
 obtain⟨-,c1,-,-⟩:=h1.cells
 clear h1 h2
 go_enter Tryz.func54,Tryz.ntmps54
 go_wp2_with fail
 go_ret
 exact⟨rfl,rfl⟩
end
end M
end
end Go.Proofs.YtgbhohfabhilgaaGreatDoor
