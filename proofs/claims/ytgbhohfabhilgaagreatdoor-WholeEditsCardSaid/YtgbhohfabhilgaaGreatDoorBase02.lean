import Derived.Test.YtgbhohfabhilgaaGreatDoorBase01
set_option maxRecDepth 100000
set_option maxHeartbeats 8000000
set_option linter.unusedVariables false
set_option linter.unusedSimpArgs false
namespace Go.Proofs.YtgbhohfabhilgaaGreatDoor
section
variable {F:Fence} {n:Nat} {P:Program} {ops:Array Oper} {Q:Exit->Act->World->Prop} {S:World->Prop}
theorem aJ.two{i j:Nat}{oi oj:Oper}{k:Nat}{listed:Array Bool}{a:Act}{w:World}(hr:(Region.ready .any ops listed ==[i,j])=true)(hd:nR ops=true)(hi:ops[i]?=some oi)(hj:ops[j]?=some oj)(hF:∀f,F.fn f)(hwi:Region.wanted oi (yielded ops a.tmps)=true)(hwj:Region.wanted oj (yielded ops a.tmps)=true)
    (h1:∀K:Act->World->Prop,(∀a w,S w->aJ F n P ops Q S k (listed.setIfInBounds i true) a w->K a w)->oi.uponIn F n P a K Q ((execOp a.eval oi).run P w))
    (h2:∀K:Act->World->Prop,(∀a w,S w->aJ F n P ops Q S k (listed.setIfInBounds j true) a w->K a w)->oj.uponIn F n P a K Q ((execOp a.eval oj).run P w)):
    aJ F n P ops Q S (k+1) listed a w:=by
 have hr:Region.ready .any ops listed=[i,j]:=by simpa using hr
 refine⟨λh0=>(by rw[hr]at h0;cases h0),λx hx=>?_⟩
 rw[hr]at hx
 simp only[agm,ahA,ahD]at hx
 rcases hx with rfl|rfl
 .refine ajO hi λK hK=>?_
  rw[af5 hwi]
  refine⟨λf _=>hF f,?_⟩
  rw[aip _ _ _ (gQ hd _ _ hi)]
  exact h1 K λa w hS hA=>hK a w (.inl ⟨hS,hA⟩)
 .refine ajO hj λK hK=>?_
  rw[af5 hwj]
  refine⟨λf _=>hF f,?_⟩
  rw[aip _ _ _ (gQ hd _ _ hj)]
  exact h2 K λa w hS hA=>hK a w (.inl ⟨hS,hA⟩)
end
section
open Go.RowKit
variable{bytes:Nat}{α:Type}{e t:TypeId}
def pE(n:Nat)(v v':Value):Prop:=v'.ownBlock=v.ownBlock\/∃b,v'.ownBlock=some b/\n<=b
theorem zJ{B₀:Nat}{W:World}{size:Nat}{enc:α->List Value}{v:Value}{l:List α}(h:aP B₀ W e size enc v l)(hl:l≠[]):∃b,v.ownBlock=some b/\B₀<=b:=by
 rcases h.2 with⟨rfl,hn⟩|⟨g,cap,cur,rfl,hg,rest⟩
 .exact absurd (ahw hn) hl
 .exact⟨g,rfl,hg⟩
theorem eB{P:Program}{size:Nat}(hE:Elem P t e size bytes){enc:α->List Value}(he:∀a,(enc a).length=size)(ty:TypeId)
    {B₀:Nat} {w0:World} {v:Value} {l:List α} (hS:aP B₀ w0 e size enc v l) (y:α) (c:Nat) {cs:Array Value} (hcs:cs.toList=enc y) (h1:∀u∈enc y,u.oneCell'=true)
    (hbytes:(l.length+1)*bytes<=140737488355328) (hbase:B₀<=w0.heap.size):
    ∃v' w',(Builtin.append_ #[t,t] ty #[v,.slice (some ⟨w0.heap.size,0,none⟩) 1 c]).run P (w0.alloc (.cells cs e))=.ok v' w'/\aP B₀ w' e size enc v' (l++[y])/\(w0.alloc (.cells cs e)).grownBy w' v.ownBlock/\Below B₀ w0 w'/\pE w0.heap.size v v':=by
 have hE':=hE
 obtain⟨ht,i,z,hi,hz,hsz,hby,hzs,h0,hb0⟩:=hE
 have hnew:(w0.alloc (.cells cs e)).heap[w0.heap.size]?=some (.cells cs e):=by show(w0.heap.push _)[w0.heap.size]?=_;simp
 have hcells:∀j u,(enc y)[j]?=some u->(w0.alloc (.cells cs e)).cell? ((⟨w0.heap.size,0,none⟩:Addr).add j)=some u:=by
  intro j u hu
  have e1:(⟨w0.heap.size,0,none⟩:Addr).add j=⟨w0.heap.size,j,none⟩:=by unfold Addr.add;split<;>simp_all
  rw[e1]
  rw[<-hcs]at hu
  simp only[World.cell?,hnew]
  simpa using hu
 have hmax:l.length+1<=maxLen:=by
  have:(l.length+1)*1<=(l.length+1)*bytes:=ahK _ hb0
  simp only[maxLen];omega
 have hsize:(w0.alloc (.cells cs e)).heap.size=w0.heap.size+1:=by simp
 have hbel:∀{w':World},(w0.alloc (.cells cs e)).grownBy w' v.ownBlock->Below B₀ w0 w':=λhg=>by
  refine((af6 B₀ w0).alloc hbase _).grown hg (by simp;omega) ?_
  intro k hk
  rcases hS.2 with⟨rfl,_⟩|⟨g,cap,cur,rfl,hb,_⟩
  .simp[Value.ownBlock]at hk
  .simp[Value.ownBlock]at hk;omega
 have hS1:=ajx hS (.cells cs e)
 rcases hS.shape with⟨rfl,rfl⟩|⟨g0,c0,rfl,hc1,hc2⟩
 .have hS0:aP w0.heap.size w0 e size enc (.slice none 0 0) ([]:List α):=aP.nil _ _ _ _ _
  obtain⟨v',w',hrun,hown,hg,-⟩:=run_append_own (P:=P) (w0.alloc (.cells cs e)) w0.heap.size t ty e i z size bytes ht hi hz hsz hby hzs h0 (.slice none 0 0) 0 [] (ajx hS0 _) ⟨w0.heap.size,0,none⟩ 1 c (enc y) (by rw[he,ah6]) hcells h1 (by simpa using hmax) (by simpa using hbytes) (by omega)
  have hs2:aP w0.heap.size w' e size enc v' ([]++[y]):=aP.append (l:=[]) (l2:=[y]) hown rfl rfl (by simp)
  exact⟨v',w',hrun,hs2.mono hbase,hg,hbel hg,.inr (zJ hs2 (by simp))⟩
 .by_cases hroom:l.length+1<=c0
  .obtain⟨w',hrun,hown,hg⟩:=akH (P:=P) (w0.alloc (.cells cs e)) B₀ t ty e i size ht hi hsz g0 l.length c0 (l.flatMap enc) hS1 ⟨w0.heap.size,0,none⟩ 1 c (enc y) (by rw[he,ah6]) hcells h1 hroom
   exact⟨_,w',hrun,aP.append (l2:=[y]) hown rfl rfl (by simp),hg,hbel hg,.inl rfl⟩
  .obtain⟨v',w',hrun,hown,hg⟩:=run_append_arg_grows (P:=P) (w0.alloc (.cells cs e)) t ty e i z size bytes ht hi hz hsz hby hzs h0 ⟨g0,0,none⟩ l.length c0 (l.flatMap enc) (bf he l) (λj u hu=>ait hS1 (g:=g0) rfl j u hu) ⟨w0.heap.size,0,none⟩ 1 c (enc y) (by rw[he,ah6]) hcells (by omega) hmax hbytes
   have hs2:aP (w0.alloc (.cells cs e)).heap.size w' e size enc v' (l++[y]):=aP.append (l2:=[y]) hown rfl rfl (by simp)
   have hg':(w0.alloc (.cells cs e)).grownBy w' (Value.ownBlock (.slice (some ⟨g0,0,none⟩) l.length c0)):=⟨hg.1,hg.2,hg.3,hg.size,λk hk _=>hg.block k hk (by simp)⟩
   obtain⟨b,hb1,hb2⟩:=zJ hs2 (by simp)
   exact⟨v',w',hrun,aP.mono hs2 (by omega),hg',hbel hg',.inr ⟨b,hb1,by omega⟩⟩
theorem rT(z:Array Value)(k:Nat):(Builtin.zeroCells z k).toList=(List.replicate k z.toList).flatten:=by
 have h0:z.toList=(List.range z.size).map λj=>z[j]! :=by
  refine aj9 (by simp) λi h1 h2=>?_
  have hi:i<z.size:=by simpa using h1
  simp[hi]
 have h:∀k,(List.range (k*z.size)).map (λi=>z[i%z.size]!)=(List.replicate k z.toList).flatten:=by
  intro k
  induction k with
  |zero=>simp
  |succ k ih=>
   rw[ag6,List.range_add,ag2,ih,ahR,ais,aiO]
   congr 1
   rw[ahW,List.flatten_nil,agi,h0]
   refine aiG λj hj=>?_
   have hj':=ahN.1 hj
   show z[(k*z.size+j)%z.size]! =z[j]!
   rw[ahq,Nat.mul_add_mod,aik hj']
 simpa[Builtin.zeroCells]using h k
theorem qQ{P:Program}(w:World)(t tn ty e:TypeId)(i:TypeInfo)(z:Value)(kq kn:IntKind)(ht:P.underlying t=some (.slice e))(htn:P.underlying tn=some (.int kn))(hi:P.info? e=some i)(hz:i.zero=some z)
    (g sLen sCap:Nat) (cur:Array Value) (hg:w.heap[g]?=some (.cells cur e (0,0))) (k:Nat) (h0:0<k) (hs:0<i.size) (hzs:z.cells.size=i.size) (h1:∀u∈z.cells,u.oneCell'=true)
    (hroom:sLen+k<=sCap) (hcs:cur.size=sCap*i.size) (h63:(k:Int)<=9223372036854775807) (h48:k*i.bytes<=281474976710656):
    (Builtin.append_ #[t,tn] ty #[.slice (some ⟨g,0,none⟩) sLen sCap,.int kq k]).run P w=
     .ok (.slice (some ⟨g,0,none⟩) (sLen+k) sCap) (w.setRow g (cur.toList.take (sLen*i.size)++(Builtin.zeroCells z.cells k).toList++cur.toList.drop (sLen*i.size+(Builtin.zeroCells z.cells k).toList.length)).toArray):=by
 have hl:(Builtin.zeroCells z.cells k).toList.length=k*i.size:=by rw[ah2,ajI,hzs]
 have hfit:sLen*i.size+(Builtin.zeroCells z.cells k).toList.length<=cur.size:=by rw[hl,hcs,<-aha];exact agY _ hroom
 have hone:∀u∈(Builtin.zeroCells z.cells k).toList,u.oneCell'=true:=by
  intro u hu
  rw[rT]at hu
  obtain⟨l,hl,hu⟩:=akb.1 hu
  rw[(aiI.1 hl).2]at hu
  exact h1 u (by simpa using hu)
 have hst:=run_storeCells_at P g (sLen*i.size) e (Builtin.zeroCells z.cells k).toList 0 cur w hg (by simpa using hfit) hone
 simp only[ahC]at hst
 have hw:IntKind.i64.wrap (k:Int)=k:=by rw[agd];omega
 have h48i:¬(281474976710656<(k:Int)*(i.bytes:Int)):=by
  rw[<-ai6]
  omega
 have hneg:¬((k:Int)<0):=by omega
 have hns:¬(k*i.size=0):=Nat.mul_ne_zero (by omega) (by omega)
 simp[Builtin.append_,ahs ht,ahs htn,sizeOf,typeInfo,zeroValue,hi,hz,asInt,asIntOf,hw,hneg,hns,h48i,hroom,ai9,hst]
theorem RG{P:Program}{tn:TypeId}{kn:IntKind}{size:Nat}(hE:Elem P t e size bytes)(htn:P.underlying tn=some (.int kn)){enc:α->List Value}(he:∀a,(enc a).length=size)(h1:∀y,∀u∈enc y,u.oneCell'=true)(ty:TypeId)(kq:IntKind)
    {B₀:Nat} {w:World} {v:Value} {l:List α} (hS:aP B₀ w e size enc v l) (x:α) (hx:∀i z,P.info? e=some i->i.zero=some z->z.cells.toList=enc x) (k:Nat) (h0:0<k) (hbytes:(l.length+k)*bytes<=140737488355328) (hm:l.length+k<=maxLen) (hbase:B₀<=w.heap.size):
    ∃v' w',(Builtin.append_ #[t,tn] ty #[v,.int kq k]).run P w=.ok v' w'/\aP B₀ w' e size enc v' (l++List.replicate k x)/\w.grownBy w' v.ownBlock:=by
 obtain⟨ht,i,z,hi,hz,hsz,hby,hzs,hp0,hb0⟩:=hE
 subst hsz
 subst hby
 have hzx:=hx i z hi hz
 have hnews:(Builtin.zeroCells z.cells k).toList=(List.replicate k x).flatMap enc:=by
  rw[rT,hzx,aiV]
 have hone:∀u∈z.cells,u.oneCell'=true:=λu hu=>h1 x u (by rw[<-hzx];simpa using hu)
 have hl:(Builtin.zeroCells z.cells k).toList.length=k*i.size:=by rw[ah2,ajI,hzs]
 have h63:((l.length+k:Nat):Int)<=9223372036854775807:=by simp only[maxLen]at hm;omega
 have h48:k*i.bytes<=281474976710656:=by
  have:k*i.bytes<=(l.length+k)*i.bytes:=agY _ (by omega)
  omega
 have hlen:((l++List.replicate k x).flatMap enc).length=(l++List.replicate k x).length*i.size:=bf he _
 have ZX:(l++List.replicate k x).flatMap enc=l.flatMap enc++(Builtin.zeroCells z.cells k).toList:=by rw[ag_,hnews]
 have hln:(l++List.replicate k x).length=l.length+k:=by simp
 have kM:(l.flatMap enc).length=l.length*i.size:=bf he _
 have grown:∀(old:Nat),old<l.length+k->∀(row:Option Nat) (v:Value),v=.slice (some ⟨w.heap.size,0,none⟩) (l.length+k) (grownCap w (l.length+k) old e)->
     aP B₀ (w.drew.alloc (.cells ((l.flatMap enc).toArray++Builtin.zeroCells z.cells k++Builtin.zeroCells z.cells (grownCap w (l.length+k) old e-(l.length+k))) e)) e i.size enc v (l++List.replicate k x)/\
     w.grownBy (w.drew.alloc (.cells ((l.flatMap enc).toArray++Builtin.zeroCells z.cells k++Builtin.zeroCells z.cells (grownCap w (l.length+k) old e-(l.length+k))) e)) row:=by
  intro old ho row v hv
  have hge:=akq w (l.length+k) old e
  have hcm:grownCap w (l.length+k) old e<=maxLen:=aj4 w (l.length+k) old e hm
  subst hv
  refine⟨⟨hlen,.inr ⟨w.heap.size,grownCap w (l.length+k) old e,_,by rw[hln],hbase,heap_alloc_new w.drew _,by rw[hln];exact hge,hcm,?_,?_⟩⟩,⟨rfl,rfl,rfl,by simp,λj hj _=>ahM w.drew _ j hj⟩⟩
  .simp only[Array.size_append,ajA,ajI,hzs,kM,<-aha]
   congr 1
   omega
  .simp only[akI,agf]
   rw[<-agf,hln,ZX]
   rw[show(l.length+k)*i.size=(l.flatMap enc++(Builtin.zeroCells z.cells k).toList).length by rw[af8,kM,hl,aha]]
   exact List.take_left
 rcases hS.2 with⟨hv,hn⟩|⟨g,cap,cur,rfl,hbg,hg,hnc,hcm,hcs,htake⟩
 .subst hv
  have hl0:l=[]:=ahw hn
  subst hl0
  have hr:=ajP (P:=P) w t tn ty e i z kq kn ht htn hi hz none 0 0 [] (by simp[Builtin.firstCells,loadCells,loadCellsFrom]) k h0 hp0 (by omega) (by simpa using h63) h48 (by
   have:=aki (need:=0+k) (old:=0) (bytes:=i.bytes) (by omega) (by simpa using hbytes)
   exact this)
  simp only[ahi]at hr
  have hgr:=grown 0 (by simp;omega) (Value.ownBlock (.slice none 0 0)) _ rfl
  simp only[ahX,ahi,aj_]at hgr
  exact⟨_,_,hr,hgr.1,hgr.2⟩
 .by_cases hroom:l.length+k<=cap
  .have hr:=qQ (P:=P) w t tn ty e i z kq kn ht htn hi hz g l.length cap cur hg k h0 hp0 hzs hone hroom hcs (by omega) h48
   have hfit:l.length*i.size+(Builtin.zeroCells z.cells k).toList.length<=cur.size:=by rw[hl,hcs,<-aha];exact agY _ hroom
   refine⟨_,_,hr,⟨hlen,.inr ⟨g,cap,_,by rw[hln],hbg,setRow_heap w g cur _ e _ hg,by rw[hln];exact hroom,hcm,?_,?_⟩⟩,⟨rfl,rfl,rfl,by simp,λj _ hj=>setRow_other w g j _ (λe=>hj (by simp[Value.ownBlock,e]))⟩⟩
   .simp only[ah2]at hfit
    simp only[ajA,af8,agB,agp,ah2]
    omega
   .rw[htake,hln,ZX]
    rw[show(l.length+k)*i.size=(l.flatMap enc++(Builtin.zeroCells z.cells k).toList).length by rw[af8,kM,hl,aha]]
    exact List.take_left
  .have holds:(Builtin.firstCells i.size l.length (.slice (some ⟨g,0,none⟩) l.length cap)).run P w.drew=.ok (l.flatMap enc).toArray w.drew:=by
    have hc:=ait (w:=w) hS (g:=g) rfl
    exact akO (P:=P) w.drew i.size l.length ⟨g,0,none⟩ l.length cap (l.flatMap enc) kM hc
   have hr:=ajP (P:=P) w t tn ty e i z kq kn ht htn hi hz (some ⟨g,0,none⟩) l.length cap (l.flatMap enc) holds k h0 hp0 (by omega) h63 h48 (aki (by omega) hbytes)
   have hgr:=grown cap (by omega) (Value.ownBlock (.slice (some ⟨g,0,none⟩) l.length cap)) _ rfl
   exact⟨_,_,hr,hgr.1,hgr.2⟩
theorem Wy{P:Program}{w:World}{ops:Array Oper}{rest:List Oper}{o:Oper}{a:Act}{Q:Exit->Act->World->Prop}{size:Nat}(hE:Elem P t e size bytes){enc:α->List Value}(he:∀a,(enc a).length=size)(h1:∀y,∀u∈enc y,u.oneCell'=true)
    (hgd:o.guard=none) (s x:Operand) (ho:o.op=.call { callee:=.builtin .append,args:=#[s,x],argTypes:=#[t,t] })
    {B₀ B₁ g cap:Nat} {v:Value} {l l2:List α} {m:Nat} (hs:a.eval s=v) (hS:aP B₀ w e size enc v l) (hx:a.eval x=.slice (some ⟨g,0,none⟩) m cap) (hm:m=l2.length) (hS2:aP B₁ w e size enc (.slice (some ⟨g,0,none⟩) m cap) l2)
    (hbytes:(l.length+l2.length)*bytes<=140737488355328) (hbase:B₀<=w.heap.size)
    (h:∀v' w',aP B₀ w' e size enc v' (l++l2)->w.grownBy w' v.ownBlock->Below B₀ w w'->wpList P ops Q rest (a.put o.dst v') w'):wpList P ops Q (o::rest) a w:=by
 obtain⟨ht,i,z,hi,hz,hsz,hby,hzs,h0,hb0⟩:=hE
 subst hm
 refine aj8 _ hgd s x t ho B₀ e i z size bytes ht hi hz hsz hby hzs h0 v l.length (l.flatMap enc) hs hS ⟨g,0,none⟩ l2.length cap (l2.flatMap enc) hx (bf he l2) ?_ ?_ ?_ hbytes hbase ?_
 .intro j u hu
  exact ait hS2 (g:=g) rfl j u hu
 .intro u hu
  obtain⟨y,-,hy⟩:=ah4.1 hu
  exact h1 y u hy
 .have:(l.length+l2.length)*1<=(l.length+l2.length)*bytes:=ahK _ hb0
  simp only[maxLen];omega
 .intro v' w' hown hg _
  exact h v' w' (aP.append (l2:=l2) hown rfl rfl rfl) hg (oM hS hg hbase)
section
variable {F:Fence} {n:Nat} {P:Program} {ops:Array Oper} {Q:Exit->Act->World->Prop} {S:World->Prop}
def BZ(ops:Array Oper)(listed:Array Bool)(js:List Nat)(sz:Nat):Bool:=
 nR ops&&Region.noSelect ops &&
 (js.all λj=>sQ ops js j&&(match b_ ops j with|some d=>decide (d<sz)|none=>false)) &&
 (js.all λi=>js.all λj=>i==j || b_ ops i !=b_ ops j) &&
 (subs js).all λs=> !(s.all λj=>(deps ops js j).all s.contains) || if s.length==js.length then true
  else(Region.ready .any ops (mark listed s) !=[])&&(Region.ready .any ops (mark listed s)).all λi=>js.contains i && !s.contains i&&(deps ops js i).all s.contains
theorem aJ.ZL{l:List Oper}(js:List Nat)(c:Nat)(PP:Nat->Value->World->Prop)(al:Nat->Bool){k:Nat}{listed:Array Bool}{a:Act}{w:World}
    (hc:BZ l.toArray listed js a.tmps.size=true) (hk:js.length+c<=k) (hF:∀f,F.fn f) (hS:S w)
    (hmono:∀j∈js,∀v w w',PP j v w->Below w.heap.size w w'->PP j v w')
    (Fg:∀j∈js,al j=true->∀v w,PP j v w->∃B,v=.pointer (some ⟨B,0,none⟩)/\B<w.heap.size)
    (hstep:∀j∈js,∀vs w,S w->(∀i∈deps l.toArray js j,PP i (vs i) w)->∀K:Act->World->Prop,(∀v w',S w'->Below w.heap.size w w'->PP j v w'->(al j=true->v=.pointer (some ⟨w.heap.size,0,none⟩))->K ((gu l.toArray vs a (deps l.toArray js j)).put (b_ l.toArray j) v) w')->iH F n P l.toArray j K (gu l.toArray vs a (deps l.toArray js j)) w)
    (htail:∀vs w,S w->(∀j∈js,PP j (vs j) w)->(∀i∈js,∀j∈js,al i=true->al j=true->i≠j->vs i≠vs j)->∀d,aJ F n P l.toArray Q S (d+c) (mark listed js) (gu l.toArray vs a js) w):
    aJ F n P l.toArray Q S k listed a w:=by
 simp only[BZ,agy]at hc
 obtain⟨⟨⟨⟨hnd,hns⟩,hl⟩,hdd⟩,hsub⟩:=hc
 have Ql:∀j∈js,sQ l.toArray js j=true:=λj hj=>by
  have:=agS.1 hl j hj;simp only[agy]at this;exact this.1
 have hdst:∀j∈js,∃d,b_ l.toArray j=some d/\d<a.tmps.size:=λj hj=>by
  have:=agS.1 hl j hj;simp only[agy]at this
  have h2:=this.2
  cases hd:b_ l.toArray j with
  |none=>rw[hd]at h2;cases h2
  |some d=>rw[hd]at h2;exact⟨d,rfl,by simpa using h2⟩
 have hne:∀i∈js,∀j∈js,i≠j->b_ l.toArray i≠b_ l.toArray j:=λi hi j hj hij=>by
  have:=agS.1 (agS.1 hdd i hi) j hj
  simpa[hij]using this
 suffices H:∀(k:Nat) (p:Nat->Bool) (vs:Nat->Value) (b:Act) (w:World),FJ l.toArray js PP al a p vs b w->S w->(js.length-(js.filter p).length)+c<=k->aJ F n P l.toArray Q S k (mark listed (js.filter p)) b w by
  have hf:js.filter (λ_=>false)=[]:=ajV.2 (λ_ _ h=>by cases h)
  have h0:=H k (λ_=>false) (λ_=>undef) a w ⟨rfl,rfl,λ_ _=>rfl,λ_ _ h=>(by cases h),λ_ _ h=>(by cases h),λ_ _ _ _ h=>(by cases h),λ_ _ h=>(by cases h)⟩ hS (by rw[hf];simpa using hk)
  rw[hf]at h0
  exact h0
 have hfin:∀(k:Nat) (p:Nat->Bool) (vs:Nat->Value) (b:Act) (w:World),FJ l.toArray js PP al a p vs b w->S w->c<=k->(js.filter p).length=js.length->aJ F n P l.toArray Q S k (mark listed (js.filter p)) b w:=by
  intro k p vs b w hJ hS hk hall
  have hp:∀j∈js,p j=true:=λj hj=>aks.1 hall j hj
  have hb:b=gu l.toArray vs a js:=by
   apply Md
   .intro t
    by_cases ht:∃j∈js,b_ l.toArray j=some t
    .obtain⟨j,hj,hd⟩:=ht
     obtain⟨d,hd2,hlt⟩:=hdst j hj
     have e:d=t:=by rw[hd]at hd2;exact(agQ hd2).symm
     subst e
     rw[hJ.own j hj (hp j hj) d hd,oP vs js a (λi hi e=>by
      by_cases h:i=j
      .exact h
      .exact absurd (e.trans hd.symm) (hne i hi j hj h)) hj hd hlt]
    .rw[hJ.other t (λj hj _ e=>ht ⟨j,hj,e⟩),mE vs js a (λj hj e=>ht ⟨j,hj,e⟩)]
   .rw[hJ.defers,ow]
  subst hb
  have hfl:js.filter p=js:=akK.2 hp
  rw[hfl]
  obtain⟨d,rfl⟩:∃d,k=d+c:=⟨k-c,by omega⟩
  exact htail vs w hS (λj hj=>hJ.hP j hj (hp j hj)) (λi hi j hj h1 h2 h3=>hJ.dist i hi j hj (hp i hi) (hp j hj) h1 h2 h3) d
 intro k
 induction k with
 |zero=>
  intro p vs b w hJ hS hk
  exact hfin 0 p vs b w hJ hS (by omega) (Nat.le_antisymm (aiX _ _) (by omega))
 |succ k ih=>
  intro p vs b w hJ hS hk
  by_cases hall:(js.filter p).length=js.length
  .exact hfin (k+1) p vs b w hJ hS (by omega) hall
  have hc:=agS.1 hsub _ (nT p js)
  rw[hJ.closed,ajJ,aix]at hc
  rw[af4 (by simpa using hall)]at hc
  simp only[agy,bne_iff_ne,ne_eq]at hc
  refine⟨λe=>absurd e hc.1,λi hi=>?_⟩
  have hci:=agS.1 hc.2 i hi
  simp only[agy]at hci
  have hij:i∈js:=by simpa using hci.1.1
  have pV:p i=false:=by
   have h:=hci.1.2
   cases hpi:p i with
   |false=>rfl
   |true=>simp[ahB,hij,hpi]at h
  have hdp:∀j∈deps l.toArray js i,p j=true:=λj hj=>by
   have h:=agS.1 hci.2 j hj
   simp only[ajX,ahB]at h
   exact h.2
  have hdj:∀j∈deps l.toArray js i,j∈js:=λj hj=>(ahB.1 hj).1
  obtain⟨d,hd,hds⟩:=hdst i hij
  let aj:=gu l.toArray vs a (deps l.toArray js i)
  have Qm:aj.tmps.size=a.tmps.size:=lC vs _ a
  have hK:=hstep i hij vs w hS (λj hj=>hJ.hP j (hdj j hj) (hdp j hj)) (λx w''=>∃v,x.tmps[d]?=some v/\x.defers=aj.defers/\(S w''/\Below w.heap.size w w''/\PP i v w''/\(al i=true->v=.pointer (some ⟨w.heap.size,0,none⟩))))
   (λv w' h1 h2 h3 h4=>⟨v,by rw[hd];exact iG _ _ (by rw[lC];exact hds),by rw[put_defers],h1,h2,h3,h4⟩)
  obtain⟨o,ho,hif⟩:=hK
  have hod:o.dst=some d:=by have:=hd;unfold b_ at this;rw[ho]at this;exact this
  have hag:∀t∈o.looksAt l.toArray,b.tmps[t]?=aj.tmps[t]?:=λt ht=>by
   have hlk:=Ql i hij
   unfold sQ at hlk
   rw[ho]at hlk
   have h:=agS.1 hlk t ht
   by_cases hx:∃j∈js,b_ l.toArray j=some t
   .obtain⟨j,hj,hdt⟩:=hx
    have h2:=agS.1 h j hj
    have hjd:j∈deps l.toArray js i:=by simpa[hdt]using h2
    obtain⟨d',hd',hlt⟩:=hdst j hj
    have e:d'=t:=by rw[hdt]at hd';exact(agQ hd').symm
    subst e
    rw[hJ.own j hj (hdp j hjd) _ hdt]
    exact(oP vs _ a (λx hx e=>by
     by_cases h:x=j
     .exact h
     .exact absurd (e.trans hdt.symm) (hne x (hdj x hx) j hj h)) hjd hdt hlt).symm
   .rw[hJ.other t (λj hj _ e=>hx ⟨j,hj,e⟩)]
    exact(mE vs _ a (λj hj e=>hx ⟨j,hdj j hj,e⟩)).symm
  have hwant:Region.wanted o (yielded l.toArray b.tmps)=Region.wanted o (yielded l.toArray aj.tmps):=by
   unfold Region.wanted
   cases hg:o.guard with
   |none=>rfl
   |some gw=>
    obtain⟨g,want⟩:=gw
    have hy:yielded l.toArray b.tmps g=yielded l.toArray aj.tmps g:=by
     unfold yielded
     cases ht:(l.toArray[g]?).bind (·.dst)with
     |none=>rfl
     |some t=>
      have:=hag t (by simp only[Oper.looksAt,hg,ht];simp)
      simp only[Option.bind_some,this]
    simp only[hy]
  have Qn:execOp b.eval o=execOp aj.eval o:=by
   refine execOp_congr o (λcs b'=>aj1 hns _ _ cs b' ho) (λx hx=>?_)
   cases x with
   |tmp t=>
    have:=hag t (ahd _ (List.mem_filterMap.2 ⟨.tmp t,by simpa using hx,rfl⟩))
    show b.tmps.getD t undef=aj.tmps.getD t undef
    rw[ahZ,ahZ,this]
   |_=>rfl
  have hnext:∀(v:Value) (w'':World),(S w''/\Below w.heap.size w w''/\PP i v w''/\(al i=true->v=.pointer (some ⟨w.heap.size,0,none⟩)))->
      (S w''/\aJ F n P l.toArray Q S k ((mark listed (js.filter p)).setIfInBounds i true) (b.put (some d) v) w'')\/
      (bar l.toArray (mark listed (js.filter p)) i=true/\wpAnyIn F n P .any l.toArray Q k ((mark listed (js.filter p)).setIfInBounds i true) (b.put (some d) v) w''):=by
   intro v w'' ⟨h1,h2,h3,h4⟩
   left
   refine⟨h1,?_⟩
   rw[D9 listed js p i hij]
   refine ih (λx=>p x || x==i) (λx=>if x=i then v else vs x) _ w'' ?_ h1 ?_
   .refine⟨by rw[put_defers,hJ.defers],by rw[wG,hJ.size],?_,?_,?_,?_,?_⟩
    .intro t ht
     rw[mO _ _ _ (λe=>ht i hij (by simp) (hd.trans e)),hJ.other t (λj hj Ki=>ht j hj (by simp[Ki]))]
    .intro j hj Ki t hdt
     by_cases e:j=i
     .subst e
      have e2:d=t:=by rw[hd]at hdt;exact agQ hdt
      subst e2
      rw[iG _ _ (by rw[hJ.size];exact hds),af5 rfl]
     .have Bc:p j=true:=by simpa[e]using Ki
      rw[mO _ _ _ (λe2=>hne j hj i hij e (hdt.trans (e2.symm.trans hd.symm))),hJ.own j hj Bc t hdt,af4 e]
    .intro j hj Ki
     by_cases e:j=i
     .subst e;rw[af5 rfl];exact h3
     .have Bc:p j=true:=by simpa[e]using Ki
      rw[af4 e];exact hmono j hj _ _ _ (hJ.hP j hj Bc) h2
    .intro x hx y hy hpx hpy hax Ze hxy
     by_cases ex:x=i
     .have ey:¬y=i:=λe=>hxy (ex.trans e.symm)
      have Zf:p y=true:=by simpa[ey]using hpy
      subst ex
      rw[af5 rfl,af4 ey,h4 hax]
      obtain⟨B,hB,hlt⟩:=Fg y hy Ze _ _ (hJ.hP y hy Zf)
      rw[hB]
      intro e;injection e with e;injection e with e;injection e with e;omega
     .by_cases ey:y=i
      .have Zg:p x=true:=by simpa[ex]using hpx
       subst ey
       rw[af4 ex,af5 rfl,h4 Ze]
       obtain⟨B,hB,hlt⟩:=Fg x hx hax _ _ (hJ.hP x hx Zg)
       rw[hB]
       intro e;injection e with e;injection e with e;injection e with e;omega
      .rw[af4 ex,af4 ey]
       exact hJ.dist x hx y hy (by simpa[ex]using hpx) (by simpa[ey]using hpy) hax Ze hxy
    .intro j hj Ki x hx
     by_cases e:j=i
     .subst e;simp[hdp x hx]
     .have Bc:p j=true:=by simpa[e]using Ki
      simp[hJ.down j hj Bc x hx]
   .have:=rz (p:=p) hij pV
    have:=aiX p js
    omega
  unfold wpOpIn
  rw[ho]
  show if Region.wanted o (yielded l.toArray b.tmps)=true then _ else _
  rw[hwant]
  split
  .rename_i hw
   rw[af5 hw]at hif
   refine⟨λf _=>hF f,?_⟩
   rw[aip _ _ _ (gQ hnd _ _ ho),Qn]
   exact D_ hod (by rw[Qm];exact hds) hnext hif
  .rename_i hw
   rw[af4 hw]at hif
   refine⟨λf _=>hF f,?_⟩
   obtain⟨v,hv,-,hx⟩:=hif
   rw[hod]at hv⊢
   rw[iG _ _ (by rw[Qm];exact hds)]at hv
   rw[agQ hv]
   exact hnext _ _ hx
theorem aJ.Vi{l:List Oper}(js:List Nat)(c:Nat)(dl:Nat->List Nat)(ds:Nat->Tmp)(PP:Nat->Value->World->Prop)(al:Nat->Bool){k:Nat}{listed:Array Bool}{a:Act}{w:World}
    (hc:BZ l.toArray listed js a.tmps.size=true) (hdl:(js.all λj=>deps l.toArray js j==dl j&&b_ l.toArray j==some (ds j))=true) (hk:js.length+c<=k) (hF:∀f,F.fn f) (hS:S w)
    (hmono:∀j∈js,∀v w w',PP j v w->Below w.heap.size w w'->PP j v w')
    (Fg:∀j∈js,al j=true->∀v w,PP j v w->∃B,v=.pointer (some ⟨B,0,none⟩)/\B<w.heap.size)
    (hstep:∀j∈js,∀vs w,S w->(∀i∈dl j,PP i (vs i) w)->∀K:Act->World->Prop,(∀v w',S w'->Below w.heap.size w w'->PP j v w'->(al j=true->v=.pointer (some ⟨w.heap.size,0,none⟩))->K ((mP ds vs a (dl j)).put (some (ds j)) v) w')->iH F n P l.toArray j K (mP ds vs a (dl j)) w)
    (htail:∀vs w,S w->(∀j∈js,PP j (vs j) w)->(∀i∈js,∀j∈js,al i=true->al j=true->i≠j->vs i≠vs j)->∀d,aJ F n P l.toArray Q S (d+c) (mark listed js) (mP ds vs a js) w):
    aJ F n P l.toArray Q S k listed a w:=by
 have h1:∀j∈js,deps l.toArray js j=dl j:=λj hj=>by
  have:=agS.1 hdl j hj;simp only[agy,ahf]at this;exact this.1
 have h2:∀j∈js,b_ l.toArray j=some (ds j):=λj hj=>by
  have:=agS.1 hdl j hj;simp only[agy,ahf]at this;exact this.2
 have h3:∀j∈js,∀i∈deps l.toArray js j,b_ l.toArray i=some (ds i):=λj _ i hi=>h2 i (ahB.1 hi).1
 refine aJ.ZL js c PP al hc hk hF hS hmono Fg ?_ ?_
 .intro j hj vs w hS hP K hK
  rw[mQ vs _ a (h3 j hj),h1 j hj]
  refine hstep j hj vs w hS (by rw[<-h1 j hj];exact hP) K ?_
  intro v w' a1 a2 a3 a4
  have:=hK v w' a1 a2 a3 a4
  rwa [mQ vs _ a (h3 j hj),h1 j hj,h2 j hj]at this
 .intro vs w hS hP hD
  rw[mQ vs _ a h2]
  exact htail vs w hS hP hD
end
variable{ts:List TypeId}
structure bS(ts:List TypeId)(A B:World):Prop where
 os:B.os=A.os
 tape:B.tape=A.tape
 output:B.output=A.output
 size:A.heap.size<=B.heap.size
 block:∀(k:Nat) (o:Obj),A.heap[k]?=some o->(∀cs t fz,o=.cells cs t fz->t∉ts)->B.heap[k]?=some o
theorem bS.of{A B:World}(h:Below A.heap.size A B):bS ts A B:=⟨h.os,h.tape,h.output,h.size,λk o e _=>by rw[h.block k (aga.1 e).1];exact e⟩
theorem bS.refl(ts:List TypeId)(A:World):bS ts A A:=.of (af6 _ _)
theorem bS.trans{ts:List TypeId}{A B C:World}(h:bS ts A B)(k:bS ts B C):bS ts A C:=
 ⟨k.os.trans h.os,k.tape.trans h.tape,k.output.trans h.output,af9 h.size k.size,λi o e hn=>k.block i o (h.block i o e hn) hn⟩
theorem bS.cells{ts:List TypeId}{A B:World}(h:bS ts A B){k:Nat}{cs:Array Value}{t:TypeId}{fz:Nat×Nat}(e:A.heap[k]?=some (.cells cs t fz))(ht:t∉ts):B.heap[k]?=some (.cells cs t fz):=h.block k _ e (λcs' t' ZN e'=>by cases e';exact ht)
theorem bS.set{A:World}{a:Addr}{cs:Array Value}{t:TypeId}{fz:Nat×Nat}(e:A.heap[a.block]?=some (.cells cs t fz))(ht:t∈ts)(v:Value):bS ts A (A.setCell a v):=by
 refine⟨rfl,rfl,rfl,by simp[World.setCell],λk o ho hn=>?_⟩
 rw[agU _ _ _ k (λe'=>?_)]
 .exact ho
 .subst e'
  rw[e]at ho;cases ho
  exact hn _ _ _ rfl ht
theorem bS.own{α:Type}{B₀:Nat}{w0 w w':World}{e:TypeId}{size:Nat}{enc:α->List Value}{v:Value}{l:List α}(hS:aP B₀ w0 e size enc v l)(h0:Below w0.heap.size w0 w)(hg:w.grownBy w' v.ownBlock)(he:e∈ts):bS ts w0 w':=by
 refine⟨hg.os.trans h0.os,hg.tape.trans h0.tape,hg.output.trans h0.output,af9 h0.size hg.size,λk o ho hn=>?_⟩
 have hk:=(aga.1 ho).1
 rw[hg.block k (ahm hk h0.size) ?_,h0.block k hk]
 .exact ho
 .intro e'
  rcases hS.2 with⟨rfl,_⟩|⟨g,cap,cur,rfl,_,hgg,_⟩
  .cases e'
  .obtain rfl:k=g:=by simpa[Value.ownBlock]using e'
   rw[hgg]at ho;cases ho
   exact hn _ _ _ rfl he
end
end Go.Proofs.YtgbhohfabhilgaaGreatDoor
