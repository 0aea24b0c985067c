import Derived.Test.YtgbhohfabhilgaaGreatDoorBase14
set_option maxRecDepth 100000
set_option maxHeartbeats 8000000
set_option linter.unusedVariables false
set_option linter.unusedSimpArgs false
namespace Go.Proofs.YtgbhohfabhilgaaGreatDoor
section
open Go.RowKit
namespace M
variable{m:ByteArray}{E:List En}{t:List Nat}{L:List bH}{f i n:Nat}
structure zx where
 pos:Int
 n:Int
 text:ByteArray
def jE(s:ByteArray):List Nat:=s.data.toList.map (·.toNat)
theorem aG(s:ByteArray):(jE s).length=s.size:=by simp[jE]
theorem EZ(s:ByteArray):∀b∈jE s,b<256:=by
 intro b hb
 obtain⟨x,-,rfl⟩:=agz.1 hb
 exact x.toNat_lt
theorem nJ(a b:ByteArray):jE (a++b)=jE a++jE b:=by
 unfold jE
 rw[ByteArray.data_append,akI,ag2]
theorem sP(s:ByteArray)(i j:Nat):jE (s.extract i j)=((jE s).drop i).take (j-i):=by
 unfold jE
 rw[ByteArray.data_extract,Array.toList_extract,List.extract_eq_take_drop,aiM,ai8]
theorem NQ{a b:ByteArray}(h:jE a=jE b):a=b:=by
 apply ByteArray.ext
 apply Array.ext'
 unfold jE at h
 have hinj:∀{l m:List UInt8},l.map (·.toNat)=m.map (·.toNat)->l=m:=by
  intro l
  induction l with
  |nil=>intro m h;cases m with
   |nil=>rfl
   |cons b m=>cases h
  |cons a l ih=>intro m h;cases m with
   |nil=>cases h
   |cons b m=>
    rw[ag8,ag8]at h
    injection h with h1 h2
    rw[UInt8.toNat_inj.1 h1,ih h2]
 exact hinj h
def fG(c:zx)(i f:Nat):Nat:=f+((c.pos%9).toNat+(if 0<i then 1 else 0))
def nK(c:zx)(n o:Nat):Nat:=min (c.n%7).toNat (n-o)
def yg(n:Nat):List zx->Nat->Nat->List (Nat×Nat×ByteArray)
 | [],_,_=>[]
 |c::S,i,f=>if 12<=i then[]else if n<fG c i f\/20<c.text.size then[]else if nK c n (fG c i f)=0/\c.text.size=0 then yg n S (i+1) f else(fG c i f,nK c n (fG c i f),c.text)::yg n S (i+1) (fG c i f+nK c n (fG c i f))
def UG(t:List Nat):Nat->List (Nat×Nat×ByteArray)->List Nat
 |f,[]=>t.drop f
 |f,x::R=>(t.drop f).take (x.1-f)++(jE x.2.2++UG t (x.1+x.2.1) R)
def E9(E:List En)(L:List bH)(P:List (Nat×Nat×ByteArray)):Prop:=L.map (λc=>(c.pos,c.n,txt E c.id))=P.map (λx=>((x.1:Int),(x.2.1:Int),jE x.2.2))/\zZ E L/\∀c∈L,(c.id=0↔txt E c.id=[])
theorem E9.ext{E2:List En}{P:List (Nat×Nat×ByteArray)}(h:E9 E L P)(hx:Ext E E2):E9 E2 L P:=by
 obtain⟨h1,h2,h3⟩:=h
 refine⟨?_,λc hc=>⟨af9 (h2 c hc).1 hx.le,by rw[hx.ent (h2 c hc).1];exact(h2 c hc).2⟩,λc hc=>by rw[hx.txt (h2 c hc).1];exact h3 c hc⟩
 rw[<-h1]
 refine aiG λc hc=>?_
 rw[hx.txt (h2 c hc).1]
theorem E9.snoc{P:List (Nat×Nat×ByteArray)}{c:bH}{x:Nat×Nat×ByteArray}(h:E9 E L P)(hp:c.pos=x.1)(hn:c.n=x.2.1)(ht:txt E c.id=jE x.2.2)(hi:c.id<=E.length)(he:(aF E c.id).even=true)(h0:c.id=0↔txt E c.id=[]):E9 E (L++[c]) (P++[x]):=by
 obtain⟨h1,h2,h3⟩:=h
 refine⟨by rw[ag2,ag2,h1];simp[hp,hn,ht],λy hy=>?_,λy hy=>?_⟩
 .rcases ags.1 hy with g|g
  .exact h2 y g
  .simp only[agl]at g;subst g;exact⟨hi,he⟩
 .rcases ags.1 hy with g|g
  .exact h3 y g
  .simp only[agl]at g;subst g;exact h0
theorem E9.len{P:List (Nat×Nat×ByteArray)}(h:E9 E L P):L.length=P.length:=by
 have:=agC List.length h.1
 simpa using this
theorem E9.pat{E:List En}{t:List Nat}:∀{L:List bH} {P:List (Nat×Nat×ByteArray)} {f:Nat},E9 E L P->cO E t f L=UG t f P
 | [],[],f,_=>rfl
 | [],x::P,f,h=>by have:=h.len;simp at this
 |c::L,[],f,h=>by have:=h.len;simp at this
 |c::L,x::P,f,h=>by
  obtain⟨h1,h2,h3⟩:=h
  rw[ag8,ag8]at h1
  injection h1 with h4 h5
  simp only[agX]at h4
  obtain⟨q1,q2,q3⟩:=h4
  show(t.drop f).take (c.pos.toNat-f)++(txt E c.id++cO E t (c.pos+c.n).toNat L)=(t.drop f).take (x.1-f)++(jE x.2.2++UG t (x.1+x.2.1) P)
  have ih:=E9.pat (t:=t) (f:=x.1+x.2.1) (show E9 E L P from⟨h5,λd hd=>h2 d (by simp[hd]),λd hd=>h3 d (by simp[hd])⟩)
  rw[q3,<-ih,show c.pos.toNat=x.1 by omega,show(c.pos+c.n).toNat=x.1+x.2.1 by omega]
theorem zy(n:Nat):∀(S:List zx) (i f:Nat),(yg n S i f).length+i<=max 12 i/\∀x∈yg n S i f,x.2.1<=6/\x.2.2.size<=20
 | [],i,f=>⟨by simp[yg];omega,λx hx=>by simp[yg]at hx⟩
 |c::S,i,f=>by
  unfold yg
  split
  .exact⟨by simp;omega,λx hx=>by simp at hx⟩
  .rename_i h1
   split
   .exact⟨by simp;omega,λx hx=>by simp at hx⟩
   .rename_i h2
    split
    .obtain⟨a,b⟩:=zy n S (i+1) f
     exact⟨by omega,b⟩
    .obtain⟨a,b⟩:=zy n S (i+1) (fG c i f+nK c n (fG c i f))
     refine⟨by rw[agc];omega,λx hx=>?_⟩
     rcases agm.1 hx with rfl|hx
     .exact⟨by show nK c n (fG c i f)<=6;unfold nK;omega,by show c.text.size<=20;omega⟩
     .exact b x hx
theorem Db{E:List En}{n:Nat}(hn:(n:Int)<=dX):∀(S:List zx) (i f:Nat) (last:Int) (L:List bH),f<=n->last<(f:Int)+(if 0<i then 1 else 0:Nat)->E9 E L (yg n S i f)->bC n last L=true
 | [],i,f,last,L,_,_,h=>by
  have:=h.len
  obtain rfl:L=[]:=ahw (by rw[this];rfl)
  rfl
 |c::S,i,f,last,L,hf,hl,h=>by
  have hnil:∀{L:List bH},E9 E L []->bC n last L=true:=λ{L} h=>by
   obtain rfl:L=[]:=ahw (by rw[h.len];rfl)
   rfl
  unfold yg at h
  split at h
  .exact hnil h
  .rename_i h1
   split at h
   .exact hnil h
   .rename_i h2
    split at h
    .exact Db hn S (i+1) f last L hf (by rw[af5 (by omega)];split at hl<;>omega) h
    .rename_i h3
     obtain⟨o,ho⟩:=ay (fG c i f)
     obtain⟨k,hk⟩:=ay (nK c n o)
     have ho2:f+(if 0<i then 1 else 0)<=o:=by rw[<-ho];unfold fG;omega
     have hk2:k<=n-o:=by rw[<-hk];unfold nK;omega
     rw[ho]at h h2 h3
     rw[hk]at h h3
     match L,h with
     | [],h=>have:=h.len;simp at this
     |d::L,h=>
      obtain⟨h4,h5,h6⟩:=h
      rw[ag8,ag8]at h4
      injection h4 with h7 h8
      simp only[agX]at h7
      obtain⟨q1,q2,q3⟩:=h7
      show(eQ n last d&&bC n (d.pos+d.n) L)=true
      rw[agy]
      refine⟨?_,Db hn S (i+1) (o+k) (d.pos+d.n) L (by omega) (by rw[af5 (by omega)];omega) ⟨h8,λe he=>h5 e (by simp[he]),λe he=>h6 e (by simp[he])⟩⟩
      unfold eQ
      simp only[agy,ahV,ahQ,ajs]
      refine⟨⟨dJ.2 ⟨by omega,hn,by omega,by omega,by omega,by omega⟩,by omega⟩,?_⟩
      by_cases hk0:k=0
      .right
       intro hd
       have e1:=(h6 d (by simp)).1 hd
       rw[q3]at e1
       have e2:=agC List.length e1
       rw[aG]at e2
       exact h3 ⟨hk0,e2⟩
      .left;omega
structure Qh(n:Nat)(t:List Nat)(S:List zx)(i f:Nat)(P:List (Nat×Nat×ByteArray))(m:ByteArray):Prop where
 rest:yg n S 0 0=P++yg n (S.drop i) i f
 made:∀R,UG t 0 (P++R)=jE m++UG t f R
 fn:f<=n
 msz:m.size<=f+20*i
 pl:P.length<=i
theorem Qh.zero(n:Nat)(t:List Nat)(S:List zx):Qh n t S 0 0 [] ByteArray.empty:=⟨rfl,λR=>rfl,agb _,agb _,af7 _⟩
theorem Qh.skip{S:List zx}{P:List (Nat×Nat×ByteArray)}(h:Qh n t S i f P m)(hi:i<S.length)(h1:i<12)(h2:¬(n<fG S[i] i f\/20<S[i].text.size))(h3:nK S[i] n (fG S[i] i f)=0/\S[i].text.size=0):Qh n t S (i+1) f P m:=by
 refine⟨?_,h.made,h.fn,by have:=h.msz;omega,by have:=h.pl;omega⟩
 rw[h.rest,ahc hi]
 congr 1
 show yg n (S[i]::S.drop (i+1)) i f=_
 rw[yg,af4 (by omega),af4 h2,af5 h3]
theorem Qh.snoc{S:List zx}{P:List (Nat×Nat×ByteArray)}{m2:ByteArray}(h:Qh n t S i f P m)(hi:i<S.length)(h1:i<12)(h2:¬(n<fG S[i] i f\/20<S[i].text.size))(h3:¬(nK S[i] n (fG S[i] i f)=0/\S[i].text.size=0))(ht:t.length=n)(hm:jE m2=jE m++((t.drop f).take (fG S[i] i f-f)++jE S[i].text)):Qh n t S (i+1) (fG S[i] i f+nK S[i] n (fG S[i] i f)) (P++[(fG S[i] i f,nK S[i] n (fG S[i] i f),S[i].text)]) m2:=by
 have ho:f<=fG S[i] i f:=by unfold fG;omega
 have hc:nK S[i] n (fG S[i] i f)<=n-fG S[i] i f:=by unfold nK;omega
 refine⟨?_,λR=>?_,by omega,?_,by rw[af8,agk];have:=h.pl;omega⟩
 .rw[h.rest,ahc hi,agf]
  congr 1
  show yg n (S[i]::S.drop (i+1)) i f=_
  rw[yg,af4 (by omega),af4 h2,af4 h3];rfl
 .rw[agf,h.made]
  show jE m++((t.drop f).take (fG S[i] i f-f)++(jE S[i].text++UG t (fG S[i] i f+nK S[i] n (fG S[i] i f)) R))=_
  rw[hm];simp only[agf]
 .have e:=agC List.length hm
  rw[aG,af8,af8,aG,aG,agB,agp]at e
  have:=h.msz
  omega
theorem Qh.done{S:List zx}{P:List (Nat×Nat×ByteArray)}(h:Qh n t S i f P m)(he:S.length<=i\/12<=i\/∃hi:i<S.length,n<fG S[i] i f\/20<S[i].text.size):P=yg n S 0 0/\UG t 0 P=jE m++t.drop f:=by
 have h0:yg n (S.drop i) i f=[]:=by
  rcases he with q|q|⟨hi,q⟩
  .rw[List.drop_eq_nil_of_le q];rfl
  .cases S.drop i with
   |nil=>rfl
   |cons c S=>rw[yg,af5 q]
  .rw[ahc hi,yg]
   by_cases h12:12<=i
   .rw[af5 h12]
   .rw[af4 h12,af5 q]
 refine⟨by rw[h.rest,h0,agi],?_⟩
 have:=h.made []
 rw[agi]at this
 rw[this];rfl
structure Small(E:List En)(len:Nat)(L:List bH):Prop where
 zV:zZ E L
 Za:L.length<=12
 form:bC len (-1) L=true
 t20:∀c∈L,(txt E c.id).length<=20
 n6:∀c∈L,0<=c.n/\c.n<=6
theorem xU(E:List En):∀(L:List bH) (k:Nat),(∀c∈L,(txt E c.id).length<=k)->dN E L<=k*L.length
 | [],_,_=>agb _
 |c::L,k,h=>by
  have:=xU E L k (λd hd=>h d (by simp[hd]))
  have:=h c (by simp)
  show(txt E c.id).length+dN E L<=k*(L.length+1)
  rw[aiA,ag3];omega
theorem Small.ins{len:Nat}(h:Small E len L):dN E L<=240:=by
 have:=xU E L 20 h.t20
 have:=h.Za
 omega
theorem E9.small{s:Nat}{S:List zx}(h:E9 E L (yg s S 0 0))(hs:(s:Int)<=dX):Small E s L:=by
 obtain⟨a,b⟩:=zy s S 0 0
 have hm:∀c∈L,∃x∈yg s S 0 0,c.pos=x.1/\c.n=x.2.1/\txt E c.id=jE x.2.2:=λc hc=>by
  have:(c.pos,c.n,txt E c.id)∈L.map (λc=>(c.pos,c.n,txt E c.id)):=agz.2 ⟨c,hc,rfl⟩
  rw[h.1]at this
  obtain⟨x,hx,e⟩:=agz.1 this
  simp only[agX]at e
  exact⟨x,hx,e.1.symm,e.2.1.symm,e.2.2.symm⟩
 refine⟨h.2.1,?_,?_,?_,?_⟩
 .rw[h.len];omega
 .exact Db hs S 0 0 (-1) L (agb _) (by simp) h
 .intro c hc
  obtain⟨x,hx,-,-,e⟩:=hm c hc
  rw[e,aG];exact(b x hx).2
 .intro c hc
  obtain⟨x,hx,-,e,-⟩:=hm c hc
  rw[e];have:=(b x hx).1;omega
theorem Ui{len:Nat}(hl:(len:Int)<=dX)(h:bC len (-1) L=true)(hb:(len:Int)-fZ L+dN E L<=dX):gK E len L=(len-fZ L+dN E L,0):=by
 unfold gK wP
 rw[af4 (show ¬¬((0:Int)<=(len:Int)/\(len:Int)<=dX) by omega),h]
 simp only[ahv,ne_eq,not_true_eq_false,ahu]
 rw[af5 hb]
theorem A8(hl:(t.length:Int)<=dX)(h:bC t.length (-1) L=true)(hb:((cO E t 0 L).length:Int)<=dX):gK E t.length L=((((cO E t 0 L).length:Nat):Int),0):=by
 have h1:=pO (E:=E) (t:=t) L (-1) 0 h (by omega) (agb _)
 rw[Ui hl h (by omega)]
 congr 1
 omega
end M
end
section
open Go.RowKit Go.Lib
variable{bytes n:Nat}{α:Type}{e t:TypeId}
theorem mo{P:Program}{w:World}{ops:Array Oper}{rest:List Oper}{o:Oper}{a:Act}{Q:Exit->Act->World->Prop}{size:Nat}(hE:Elem P t e size bytes){enc:α->List Value}(he:∀a,(enc a).length=size)(h1:∀y,∀u∈enc y,u.oneCell'=true)
    (hgd:o.guard=none) (s x:Operand) (ho:o.op=.call { callee:=.builtin .append,args:=#[s,x],argTypes:=#[t,t] })
    {B₀ B₁ g cap:Nat} {v:Value} {l l2:List α} {m:Nat} (hs:a.eval s=v) (hS:aP B₀ w e size enc v l) (hx:a.eval x=.slice (some ⟨g,0,none⟩) m cap) (hm:m=l2.length) (hS2:aP B₁ w e size enc (.slice (some ⟨g,0,none⟩) m cap) l2)
    (hbytes:(l.length+l2.length)*bytes<=140737488355328) (hbase:B₀<=w.heap.size)
    (h:∀v' w',aP B₀ w' e size enc v' (l++l2)->w.grownBy w' v.ownBlock->Below B₀ w w'->wpList P ops Q rest (a.put o.dst v') w'):wpList P ops Q (o::rest) a w:=by
 obtain⟨ht,i,z,hi,hz,hsz,hby,hzs,h0,hb0⟩:=hE;subst hm;refine aj8 _ hgd s x t ho B₀ e i z size bytes ht hi hz hsz hby hzs h0 v l.length (l.flatMap enc) hs hS ⟨g,0,none⟩ l2.length cap (l2.flatMap enc) hx (bf he l2) ?_ ?_ ?_ hbytes hbase ?_
 .intro j u hu;exact ait hS2 (g:=g) rfl j u hu
 .intro u hu;obtain⟨y,-,hy⟩:=ah4.1 hu;exact h1 y u hy
 .have:(l.length+l2.length)*1<=(l.length+l2.length)*bytes:=ahK _ hb0;simp only[maxLen];omega
 .intro v' w' hown hg _;exact h v' w' (aP.append (l2:=l2) hown rfl rfl rfl) hg (oM hS hg hbase)
theorem OJ{F:Fence}{P:Program}{w:World}{ops:Array Oper}{rest:List Oper}{o:Oper}{a:Act}{Q:Exit->Act->World->Prop}{size:Nat}(hE:Elem P t e size bytes){enc:α->List Value}(he:∀a,(enc a).length=size)(h1:∀y,∀u∈enc y,u.oneCell'=true)
    (hgd:o.guard=none) (s x:Operand) (ho:o.op=.call { callee:=.builtin .append,args:=#[s,x],argTypes:=#[t,t] })
    {B₀ B₁ g cap:Nat} {v:Value} {l l2:List α} {m:Nat} (hs:a.eval s=v) (hS:aP B₀ w e size enc v l) (hx:a.eval x=.slice (some ⟨g,0,none⟩) m cap) (hm:m=l2.length) (hS2:aP B₁ w e size enc (.slice (some ⟨g,0,none⟩) m cap) l2)
    (hbytes:(l.length+l2.length)*bytes<=140737488355328) (hbase:B₀<=w.heap.size)
    (h:∀v' w',aP B₀ w' e size enc v' (l++l2)->w.grownBy w' v.ownBlock->Below B₀ w w'->wpListIn F n P ops Q rest (a.put o.dst v') w'):wpListIn F n P ops Q (o::rest) a w:=by
 obtain⟨ht,i,z,hi,hz,hsz,hby,hzs,h0,hb0⟩:=hE;subst hm;refine wpListIn_append_own _ hgd s x t ho B₀ e i z size bytes ht hi hz hsz hby hzs h0 v l.length (l.flatMap enc) hs hS ⟨g,0,none⟩ l2.length cap (l2.flatMap enc) hx (bf he l2) ?_ ?_ ?_ hbytes hbase ?_
 .intro j u hu;exact ait hS2 (g:=g) rfl j u hu
 .intro u hu;obtain⟨y,-,hy⟩:=ah4.1 hu;exact h1 y u hy
 .have:(l.length+l2.length)*1<=(l.length+l2.length)*bytes:=ahK _ hb0;simp only[maxLen];omega
 .intro v' w' hown hg _;exact h v' w' (aP.append (l2:=l2) hown rfl rfl rfl) hg (oM hS hg hbase)
theorem aP.pop{B₀:Nat}{W:World}{size:Nat}{enc:α->List Value}(he:∀a,(enc a).length=size){a:Option Addr}{cap:Nat}{l:List α}{x:α}(h:aP B₀ W e size enc (.slice a (n+1) cap) (l++[x]))(hn:l.length=n):aP B₀ W e size enc (.slice a n cap) l:=by
 subst hn;refine⟨bf he l,?_⟩;rcases h.2 with⟨-,hz⟩|⟨g,c,cur,hv,hb,hg,h1,h2,h3,h4⟩
 .simp at hz
 .rw[af8,agk]at hv h1 h4;simp only[agn]at hv;obtain⟨rfl,-,rfl⟩:=hv;refine .inr ⟨g,cap,cur,rfl,hb,hg,by omega,h2,h3,?_⟩;have e1:=agC (List.take (l.length*size)) h4;rw[akh,aio (agY _ (aiT _)),ag_]at e1;rw[e1,ahP (by rw[bf he l];exact af7 _),agI (by rw[bf he l];exact af7 _)]
namespace M
attribute [local go_sem] Oper.semAt_some
variable{g l n n1:Nat}{v:Value}{A B W:World}
def M6(s:Sp):List Value:=[.int .i64 s.id,.int .i64 s.dG,.int .i64 s.n,.int .i64 s.times]
theorem dh(s:Sp):(M6 s).length=4:=rfl
theorem pI(s:Sp):∀u∈M6 s,u.oneCell'=true:=by simp[M6,Value.oneCell']
abbrev spV(s:Sp):Value:=.agg #[.int .i64 s.id,.int .i64 s.dG,.int .i64 s.n,.int .i64 s.times]
abbrev M7(B:Nat)(W:World)(v:Value)(l:List Sp):Prop:=aP B W 260 4 M6 v l
theorem Ce:Elem Tryz.prog 261 260 4 32:=gP Tryz.underlying261 (z:=.agg #[.int .i64 0,.int .i64 0,.int .i64 0,.int .i64 0]) (by kernel_rfl) rfl (by decide) (by decide)
def IX(W:World)(g:Nat)(s:Sp):Prop:=W.heap[g]?=some (.cells #[.int .i64 s.id,.int .i64 s.dG,.int .i64 s.n,.int .i64 s.times] 260 (0,0))
theorem IX.cells{s:Sp}(h:IX W g s):W.cell? ⟨g,0,none⟩=some (.int .i64 s.id)/\W.cell? ⟨g,1,none⟩=some (.int .i64 s.dG)/\W.cell? ⟨g,2,none⟩=some (.int .i64 s.n)/\W.cell? ⟨g,3,none⟩=some (.int .i64 s.times):=by
 unfold IX at h
 simp[World.cell?,h]
theorem IX.free{s:Sp}(h:IX W g s)(i:Nat):W.frozen? ⟨g,i,none⟩=false:=by
 unfold IX at h
 simp[World.frozen?,h]
theorem IX.set{s0:Sp}(h:IX W g s0)(s:Sp):IX ((((W.setCell ⟨g,0,none⟩ (.int .i64 s.id)).setCell ⟨g,1,none⟩ (.int .i64 s.dG)).setCell ⟨g,2,none⟩ (.int .i64 s.n)).setCell ⟨g,3,none⟩ (.int .i64 s.times)) g s:=by
 unfold IX at h⊢
 exact aC _ (aC _ (aC _ (aC _ h)))
theorem acN(w:World)(s:Sp):∃wz w2,w.alloc (.cells #[.int .i64 0,.int .i64 0,.int .i64 0,.int .i64 0] 260)=wz/\
    (((wz.setCell ⟨w.heap.size,0,none⟩ (.int .i64 s.id)).setCell ⟨w.heap.size,1,none⟩ (.int .i64 s.dG)).setCell ⟨w.heap.size,2,none⟩ (.int .i64 s.n)).setCell ⟨w.heap.size,3,none⟩ (.int .i64 s.times)=w2/\
    IX w2 w.heap.size s/\Below w.heap.size w w2/\(wz.cell? ⟨w.heap.size,0,none⟩=some (.int .i64 0)/\wz.cell? ⟨w.heap.size,1,none⟩=some (.int .i64 0)/\wz.cell? ⟨w.heap.size,2,none⟩=some (.int .i64 0)/\wz.cell? ⟨w.heap.size,3,none⟩=some (.int .i64 0))/\
    (wz.frozen? ⟨w.heap.size,0,none⟩=false/\wz.frozen? ⟨w.heap.size,1,none⟩=false/\wz.frozen? ⟨w.heap.size,2,none⟩=false/\wz.frozen? ⟨w.heap.size,3,none⟩=false):=by
 have k0:IX (w.alloc (.cells #[.int .i64 0,.int .i64 0,.int .i64 0,.int .i64 0] 260)) w.heap.size ⟨0,0,0,0⟩:=aD _ _
 have b0:Below w.heap.size w (w.alloc (.cells #[.int .i64 0,.int .i64 0,.int .i64 0,.int .i64 0] 260)):=(af6 _ _).alloc (af7 _) _
 exact⟨_,_,rfl,rfl,k0.set s,(((b0.setCell (p:=⟨w.heap.size,0,none⟩) (af7 _) _).setCell (p:=⟨w.heap.size,1,none⟩) (af7 _) _).setCell (p:=⟨w.heap.size,2,none⟩) (af7 _) _).setCell (p:=⟨w.heap.size,3,none⟩) (af7 _) _,k0.cells,k0.free 0,k0.free 1,k0.free 2,k0.free 3⟩
structure vv(n:Nat)(A B:World):Prop where
 below:Below n A B
 cells:∀t,t≠260->jd t A B
 others:KeepsOthers A B
theorem vv.of(h:Below A.heap.size A B)(hn:n<=A.heap.size):vv n A B:=⟨h.mono hn,λ_ _=>jd.below h,vZ h⟩
theorem vv.trans{n:Nat}{A B C:World}(h:vv n A B)(k:vv n B C):vv n A C:=⟨h.below.trans k.below,λt ht=>(h.cells t ht).trans (k.cells t ht),h.others.trans k.others⟩
theorem vv.own{l:List Sp}(hS:M7 n A v l)(hg:A.grownBy B v.ownBlock)(hn:n<=A.heap.size):vv n A B:=by
 refine⟨oM hS hg hn,λt ht=>qY hS hg ht,⟨hg.size,λk o hk ho=>?_⟩⟩;rw[hg.block k (aga.1 hk).1 ?_]
 .exact hk
 .rcases hS.2 with⟨rfl,_⟩|⟨g,cap,cur,rfl,_,hgb,_⟩
  .simp[Value.ownBlock]
  .intro e';obtain rfl:k=g:=by simpa[Value.ownBlock]using e'
   rw[hk]at hgb;cases hgb;cases ho
theorem OL{L:List Sp}(hS:M7 n1 W v L)(hn1:n1<=W.heap.size)(r:Ru)(s:Sp)(hl:l<=1152921504606846976)(hf:s.dG<=1152921504606846976)(hn:s.n<=1152921504606846976)(hL:L.length<=4000000):
    Calls Tryz.prog 156 #[v,qN r,.int .i64 l,spV s] W λe w'=>∃v',e=.returned v'/\M7 n1 w' v' (L++rV r l s)/\vv n1 W w':=by
 have HF:∀f,Fence.wide.fn f:=λ_=>trivial;unfold qN spV;obtain⟨va,vc,rfl⟩:=hS.len;obtain⟨W1,hW1⟩:=ay (W.alloc (.cells #[.int .i64 r.kind,.int .u8 r.letter,.int .i64 r.left,.int .i64 r.right,.int .i64 r.times] 50));have k1:eP W1 W.heap.size r:=by rw[<-hW1];exact eP.new _ _
 have b1:Below W.heap.size W W1:=by rw[<-hW1];exact(af6 _ _).alloc (af7 _) _
 have s1:W1.heap.size=W.heap.size+1:=by rw[<-hW1];simp
 obtain⟨W2,hW2⟩:=ay (W1.alloc (.cells #[.int .i64 s.id,.int .i64 s.dG,.int .i64 s.n,.int .i64 s.times] 260));have k2:IX W2 W1.heap.size s:=by rw[<-hW2];exact aD _ _
 have b2:Below W1.heap.size W1 W2:=by rw[<-hW2];exact(af6 _ _).alloc (af7 _) _
 rw[s1]at k2;obtain⟨c0,c1,c2,c3,c4⟩:=eP.cells (au b2 k1);obtain⟨d0,d1,d2,d3⟩:=k2.cells;have B2:=ak (Below.after b1 b2);have HS:=ak (hS.below (Below.after b1 b2));have S1:=ak s1;have hcl:(if(l:Int)-(s.dG:Int)<0 then(0:Int)else if(l:Int)-(s.dG:Int)>(s.n:Int)then(s.n:Int)else(l:Int)-(s.dG:Int))=((min (l-s.dG) s.n:Nat):Int):=by
  split
  .omega
  split<;>omega
 have RL:=ak hcl;obtain⟨q,hq⟩:=ay (min (l-s.dG) s.n);have hqn:q<=s.n:=by omega
 have HQ:=ak hq;rw[hq]at RL;have HST:aA (rV r l s=[⟨r.right,s.dG-l,s.n-q,1⟩,⟨r.left,min s.dG l,q,1⟩]):=ak (by unfold rV;rw[hq]);obtain⟨p,hp⟩:=ay (s.n-q);have hw1:IntKind.i64.wrap ((s.n:Int)-(q:Int))=(p:Int):=by rw[agd];omega
 rw[hp]at HST;clear hS k1 k2 b1 b2 hq hcl hp;by_cases hflt:s.dG<l
 .have hfl:s.dG<=l:=by omega
  have e1:(s.dG:Int)-(l:Int)<0:=by omega
  have e3:(s.dG:Int)<(l:Int):=by omega
  have e4:¬(l:Int)<(s.dG:Int):=by omega
  have hw3:IntKind.i64.wrap ((s.dG:Int)-(l:Int))=(s.dG:Int)-(l:Int):=by rw[agd];omega
  have HL2:aA (rV r l s=[⟨r.right,0,p,1⟩,⟨r.left,s.dG,q,1⟩]):=ak (by rw[HST.o,show s.dG-l=0 by omega,aio hfl]);obtain⟨Wc,hWc⟩:=ay (W2.alloc (.cells #[.int .i64 r.right,.int .i64 0,.int .i64 p,.int .i64 1,.int .i64 r.left,.int .i64 s.dG,.int .i64 q,.int .i64 1] 260));have lc:M7 W2.heap.size Wc (.slice (some ⟨W2.heap.size,0,none⟩) 2 2) [⟨r.right,0,p,1⟩,⟨r.left,s.dG,q,1⟩]:=by rw[<-hWc];exact aP.lit (l:=[⟨r.right,0,p,1⟩,⟨r.left,s.dG,q,1⟩]) dh rfl (by simp;unfold maxLen;omega)
  have bc:Below W2.heap.size W2 Wc:=by rw[<-hWc];exact(af6 _ _).alloc (af7 _) _
  have IY:=ak lc;have Dt:=ak (HS.o.below bc);have um:=ak (Below.after B2.o bc);clear lc bc;go_enter Tryz.func156,Tryz.ntmps156;go_wp2_with fail
  refine(wJ W2 ((l:Int)-(s.dG:Int)) 0 (s.n:Int)).mono ?_;rintro e w ⟨rfl,h⟩;rw[h,RL.o];clear h w;go_wp2_with (
   at_builtin;refine mo (l2:=[⟨r.right,0,p,1⟩,⟨r.left,s.dG,q,1⟩]) Ce dh pI rfl _ _ rfl rfl Dt.o rfl rfl IY.o (by simp;omega) (af9 hn1 um.o.size) ?_;intro v3 w3 Ey hg3 hb3;have yQ:=ak Ey;have tN:=ak (vv.trans (vv.of um.o hn1) (vv.own Dt.o hg3 (af9 hn1 um.o.size)));clear Ey hg3 hb3)
  go_ret;exact⟨_,rfl,by rw[HL2.o];exact yQ.o,tN.o⟩
 by_cases hfe:s.dG=l
 .have HL2:aA (rV r l s=[⟨r.right,0,p,1⟩,⟨r.left,s.dG,q,1⟩]):=ak (by rw[HST.o,show s.dG-l=0 by omega,aio (by omega)]);have hw3:IntKind.i64.wrap ((s.dG:Int)-(l:Int))=0:=by rw[agd];omega
  have e1:¬(s.dG:Int)<(l:Int):=by omega
  have e3:¬(l:Int)<(s.dG:Int):=by omega
  have e4:¬s.dG<l:=by omega
  have e5:¬l<s.dG:=by omega
  clear hflt hfe;obtain⟨Wc,hWc⟩:=ay (W2.alloc (.cells #[.int .i64 r.right,.int .i64 0,.int .i64 p,.int .i64 1,.int .i64 r.left,.int .i64 s.dG,.int .i64 q,.int .i64 1] 260));have lc:M7 W2.heap.size Wc (.slice (some ⟨W2.heap.size,0,none⟩) 2 2) [⟨r.right,0,p,1⟩,⟨r.left,s.dG,q,1⟩]:=by rw[<-hWc];exact aP.lit (l:=[⟨r.right,0,p,1⟩,⟨r.left,s.dG,q,1⟩]) dh rfl (by simp;unfold maxLen;omega)
  have bc:Below W2.heap.size W2 Wc:=by rw[<-hWc];exact(af6 _ _).alloc (af7 _) _
  have IY:=ak lc;have Dt:=ak (HS.o.below bc);have um:=ak (Below.after B2.o bc);clear lc bc;go_enter Tryz.func156,Tryz.ntmps156;go_wp2_with fail
  refine(wJ W2 ((l:Int)-(s.dG:Int)) 0 (s.n:Int)).mono ?_;rintro e w ⟨rfl,h⟩;rw[h,RL.o];clear h w;go_wp2_with (
   at_builtin;refine mo (l2:=[⟨r.right,0,p,1⟩,⟨r.left,s.dG,q,1⟩]) Ce dh pI rfl _ _ rfl rfl Dt.o rfl rfl IY.o (by simp;omega) (af9 hn1 um.o.size) ?_;intro v3 w3 Ey hg3 hb3;have yQ:=ak Ey;have tN:=ak (vv.trans (vv.of um.o hn1) (vv.own Dt.o hg3 (af9 hn1 um.o.size)));clear Ey hg3 hb3)
  go_ret;exact⟨_,rfl,by rw[HL2.o];exact yQ.o,tN.o⟩
 obtain⟨d,hd⟩:=ay (s.dG-l);have e3:¬(s.dG:Int)<(l:Int):=by omega
 have e4:(l:Int)<=(s.dG:Int):=by omega
 have hw3:IntKind.i64.wrap ((s.dG:Int)-(l:Int))=(d:Int):=by rw[agd];omega
 have HL2:aA (rV r l s=[⟨r.right,d,p,1⟩,⟨r.left,l,q,1⟩]):=ak (by rw[HST.o,hd,akd (by omega)]);have e6:l<s.dG:=by omega
 clear hd;obtain⟨Wc,hWc⟩:=ay (W2.alloc (.cells #[.int .i64 r.right,.int .i64 (d:Int),.int .i64 p,.int .i64 1,.int .i64 r.left,.int .i64 l,.int .i64 q,.int .i64 1] 260));have lc:M7 W2.heap.size Wc (.slice (some ⟨W2.heap.size,0,none⟩) 2 2) [⟨r.right,d,p,1⟩,⟨r.left,l,q,1⟩]:=by rw[<-hWc];exact aP.lit (l:=[⟨r.right,d,p,1⟩,⟨r.left,l,q,1⟩]) dh rfl (by simp;unfold maxLen;omega)
 have bc:Below W2.heap.size W2 Wc:=by rw[<-hWc];exact(af6 _ _).alloc (af7 _) _
 have IY:=ak lc;have Dt:=ak (HS.o.below bc);have um:=ak (Below.after B2.o bc);clear lc bc;go_enter Tryz.func156,Tryz.ntmps156;go_wp2_with fail
 refine(wJ W2 ((l:Int)-(s.dG:Int)) 0 (s.n:Int)).mono ?_;rintro e w ⟨rfl,h⟩;rw[h,RL.o];clear h w;go_wp2_with (
  at_builtin;refine mo (l2:=[⟨r.right,d,p,1⟩,⟨r.left,l,q,1⟩]) Ce dh pI rfl _ _ rfl rfl Dt.o rfl rfl IY.o (by simp;omega) (af9 hn1 um.o.size) ?_;intro v3 w3 Ey hg3 hb3;have yQ:=ak Ey;have tN:=ak (vv.trans (vv.of um.o hn1) (vv.own Dt.o hg3 (af9 hn1 um.o.size)));clear Ey hg3 hb3)
 go_ret;exact⟨_,rfl,by rw[HL2.o];exact yQ.o,tN.o⟩
theorem K8{L:List Sp}(hS:M7 n1 W v L)(hn1:n1<=W.heap.size)(r:Ru)(s:Sp)(hl0:0<l)(hl:l<=1152921504606846976)(hf:s.dG<=1152921504606846976)(hn:s.n<=1152921504606846976)(hhead:l<s.dG%l+s.n->(l-s.dG%l)%l<=s.n)(hL:L.length<=4000000):
    Calls Tryz.prog 157 #[v,qN r,.int .i64 l,spV s] W λe w'=>∃v',e=.returned v'/\M7 n1 w' v' (L++qC r l s)/\vv n1 W w':=by
 have HF:∀f,Fence.wide.fn f:=λ_=>trivial;unfold qN spV;obtain⟨va,vc,rfl⟩:=hS.len;obtain⟨W1,hW1⟩:=ay (W.alloc (.cells #[.int .i64 r.kind,.int .u8 r.letter,.int .i64 r.left,.int .i64 r.right,.int .i64 r.times] 50));have k1:eP W1 W.heap.size r:=by rw[<-hW1];exact eP.new _ _
 have b1:Below W.heap.size W W1:=by rw[<-hW1];exact(af6 _ _).alloc (af7 _) _
 have s1:W1.heap.size=W.heap.size+1:=by rw[<-hW1];simp
 obtain⟨W2,hW2⟩:=ay (W1.alloc (.cells #[.int .i64 s.id,.int .i64 s.dG,.int .i64 s.n,.int .i64 s.times] 260));have k2:IX W2 W1.heap.size s:=by rw[<-hW2];exact aD _ _
 have b2:Below W1.heap.size W1 W2:=by rw[<-hW2];exact(af6 _ _).alloc (af7 _) _
 rw[s1]at k2;have k1':=au b2 k1;obtain⟨c0,c1,c2,c3,c4⟩:=eP.cells k1';obtain⟨d0,d1,d2,d3⟩:=k2.cells;have B2:=ak (Below.after b1 b2);have HS:=ak (hS.below (Below.after b1 b2));have S1:=ak s1;have K1:=ak (show eP W2 W.heap.size r from k1');have K2:=ak k2;have hl0b:((l:Int)==0)=false:=by simp;omega
 have hlz:¬l=0:=by omega
 have ht1:Int.tmod (s.dG:Int) (l:Int)=((s.dG%l:Nat):Int):=rfl;obtain⟨f,hf0⟩:=ay (s.dG%l);have hfl:f<l:=by rw[<-hf0];exact ahb _ hl0
 rw[hf0]at ht1 hhead;have HF0:=ak hf0;have hfw:IntKind.i64.wrap (f:Int)=(f:Int):=by rw[agd];omega
 have hHead:=ak hhead;clear hS k1 k1' k2 b1 b2 hf0 hhead;by_cases hin:f+s.n<=l
 .have hin2:(f:Int)+(s.n:Int)<=(l:Int):=by omega
  have HL2:aA (qC r l s=[⟨r.left,f,s.n,1⟩]):=ak (by unfold qC;rw[HF0.o,af5 hin]);obtain⟨Wc,hWc⟩:=ay (W2.alloc (.cells #[.int .i64 r.left,.int .i64 f,.int .i64 s.n,.int .i64 1] 260));have lc:M7 W2.heap.size Wc (.slice (some ⟨W2.heap.size,0,none⟩) 1 1) [⟨r.left,f,s.n,1⟩]:=by rw[<-hWc];exact aP.lit (l:=[⟨r.left,f,s.n,1⟩]) dh rfl (by simp;unfold maxLen;omega)
  have bc:Below W2.heap.size W2 Wc:=by rw[<-hWc];exact(af6 _ _).alloc (af7 _) _
  have IY:=ak lc;have Dt:=ak (HS.o.below bc);have um:=ak (Below.after B2.o bc);clear lc bc;go_enter Tryz.func157,Tryz.ntmps157;go_wp2_with (
   at_builtin;refine mo (l2:=[⟨r.left,f,s.n,1⟩]) Ce dh pI rfl _ _ rfl rfl Dt.o rfl rfl IY.o (by simp;omega) (af9 hn1 um.o.size) ?_;intro v3 w3 Ey hg3 hb3;have yQ:=ak Ey;have tN:=ak (vv.trans (vv.of um.o hn1) (vv.own Dt.o hg3 (af9 hn1 um.o.size)));clear Ey hg3 hb3)
  go_ret;exact⟨_,rfl,by rw[HL2.o];exact yQ.o,tN.o⟩
 have hin2:¬(f:Int)+(s.n:Int)<=(l:Int):=by omega
 have hw1:IntKind.i64.wrap ((l:Int)-(f:Int))=((l-f:Nat):Int):=by rw[agd];omega
 have ht2:Int.tmod ((l-f:Nat):Int) (l:Int)=(((l-f)%l:Nat):Int):=rfl;obtain⟨h,hh⟩:=ay ((l-f)%l);have hhl:h<l:=by rw[<-hh];exact ahb _ hl0
 have hhn:h<=s.n:=by rw[<-hh];exact hHead.o (by omega)
 rw[hh]at ht2;have hhw:IntKind.i64.wrap (h:Int)=(h:Int):=by rw[agd];omega
 obtain⟨m,hm⟩:=ay (s.n-h);have hmb:m<=1152921504606846976:=by omega
 have hw2:IntKind.i64.wrap ((s.n:Int)-(h:Int))=(m:Int):=by rw[agd];omega
 have ht3:Int.tmod (m:Int) (l:Int)=((m%l:Nat):Int):=rfl;have ht4:Int.tdiv (m:Int) (l:Int)=((m/l:Nat):Int):=rfl;obtain⟨x,hx⟩:=ay (m%l);obtain⟨y,hy⟩:=ay (m/l);have hxl:x<l:=by rw[<-hx];exact ahb _ hl0
 have hym:y<=m:=by rw[<-hy];exact ain _ _
 have hxw:IntKind.i64.wrap (x:Int)=(x:Int):=by rw[agd];omega
 have hyw:IntKind.i64.wrap (y:Int)=(y:Int):=by rw[agd];omega
 rw[hx]at ht3;rw[hy]at ht4;have HL2:aA (qC r l s=[⟨r.left,0,x,1⟩,⟨r.left,0,l,y⟩,⟨r.left,f,h,1⟩]):=ak (by unfold qC;rw[HF0.o,af4 hin,hh,hm,hx,hy]);have n2:∀w,Below W2.heap.size W2 w->w.cell? ⟨W.heap.size,2,none⟩=some (.int .i64 r.left):=λw hw=>(eP.cells (au hw K1.o)).2.2.1;clear hh hm hx hy;go_enter Tryz.func157,Tryz.ntmps157;go_wp2_with fail
 obtain⟨w3,hw3⟩:=ay (W2.drew);have S0:Below W2.heap.size W2 w3:=by rw[<-hw3];exact(af6 _ _).drew
 obtain⟨Wc,hWc⟩:=ay (w3.alloc (.cells #[.int .i64 r.left,.int .i64 0,.int .i64 x,.int .i64 1,.int .i64 r.left,.int .i64 0,.int .i64 l,.int .i64 y,.int .i64 r.left,.int .i64 f,.int .i64 h,.int .i64 1] 260));have lc:M7 w3.heap.size Wc (.slice (some ⟨w3.heap.size,0,none⟩) 3 3) [⟨r.left,0,x,1⟩,⟨r.left,0,l,y⟩,⟨r.left,f,h,1⟩]:=by rw[<-hWc];exact aP.lit (l:=[⟨r.left,0,x,1⟩,⟨r.left,0,l,y⟩,⟨r.left,f,h,1⟩]) dh rfl (by simp;unfold maxLen;omega)
 have bc:Below w3.heap.size w3 Wc:=by rw[<-hWc];exact(af6 _ _).alloc (af7 _) _
 have IY:=ak lc;have Dt:=ak ((HS.o.below S0).below bc);have um:=ak (Below.after (Below.after B2.o S0) bc);have SC:Below W2.heap.size W2 Wc:=Below.after S0 bc;clear lc bc;refine bM (Below W2.heap.size W2) (by kernel_rfl) ?_;rw[hw3];clear hw3;refine bJ 0 1 2 3 4 5 ?_;refine bJ 6 7 8 9 10 11 ?_;refine bJ 12 13 14 15 16 17 ?_;refine tk1 18 ?_;refine aT 19 λK hK=>?_;go_simp;refine hK _ _ SC ?_;clear hK K;refine aJ.cK 20 (by kernel_rfl) ?_;simp only[agr,agj];clear n2 S0 SC hWc;gi_wp2_with (
  gi_at_builtin;refine OJ (l2:=[⟨r.left,0,x,1⟩,⟨r.left,0,l,y⟩,⟨r.left,f,h,1⟩]) Ce dh pI rfl _ _ rfl rfl Dt.o rfl rfl IY.o (by simp;omega) (af9 hn1 um.o.size) ?_;intro v3 w4 Ey hg3 hb3;have yQ:=ak Ey;have tN:=ak (vv.trans (vv.of um.o hn1) (vv.own Dt.o hg3 (af9 hn1 um.o.size)));clear Ey hg3 hb3)
 refine NP.normal ?_;go_wp2_with fail
 go_ret;exact⟨_,rfl,by rw[HL2.o];exact yQ.o,tN.o⟩
end M
end
end Go.Proofs.YtgbhohfabhilgaaGreatDoor
