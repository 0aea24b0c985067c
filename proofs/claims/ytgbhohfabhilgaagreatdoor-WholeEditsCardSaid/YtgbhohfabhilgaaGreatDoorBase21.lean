import Derived.Test.YtgbhohfabhilgaaGreatDoorBase20
set_option maxRecDepth 100000
set_option maxHeartbeats 8000000
set_option linter.unusedVariables false
set_option linter.unusedSimpArgs false
namespace Go.Proofs.YtgbhohfabhilgaaGreatDoor
section
open Go.RowKit Go.Lib
theorem eT(b:Nat):∀(vs:List Value) (o:Nat) (w:World),w.grownBy (w.setCells b o vs) (some b)
 | [],_,w=>⟨rfl,rfl,rfl,af7 _,λ_ _ _=>rfl⟩
 |v::r,o,w=>by
  have h:=eT b r (o+1) (w.setCell ⟨b,o,none⟩ v)
  rw[World.setCells]
  exact⟨h.os,h.tape,h.output,af9 (by simp[World.setCell]) h.size,λi hi hn=>(h.block i (by simpa[World.setCell]using hi) hn).trans (agU _ _ _ i (λe=>hn (by rw[e])))⟩
theorem jq(b:Nat):∀(vs:List Value) (o:Nat) (w:World) {cur:Array Value} {e:TypeId},w.heap[b]?=some (.cells cur e (0,0))->o+vs.length<=cur.size->∃cur',(w.setCells b o vs).heap[b]?=some (.cells cur' e (0,0))/\cur'.toList=cur.toList.take o++vs++cur.toList.drop (o+vs.length)/\cur'.size=cur.size
 | [],o,w,cur,e,h,_=>⟨cur,h,by simp,rfl⟩
 |v::r,o,w,cur,e,h,hl=>by
  rw[agc]at hl
  obtain⟨cur',h1,h2,h3⟩:=jq b r (o+1) (w.setCell ⟨b,o,none⟩ v) (aC (i:=o) v h) (by simp;omega)
  refine⟨cur',h1,?_,by rw[h3];simp⟩
  have ho:o<cur.toList.length:=by rw[ah2];omega
  have hlt:(cur.toList.take o).length=o:=by rw[agB];omega
  rw[h2,ajh,List.set_eq_take_append_cons_drop,af5 ho]
  have e1:(cur.toList.take o++v::cur.toList.drop (o+1)).take (o+1)=cur.toList.take o++[v]:=by
   rw[aiL,hlt,agI (by omega),show o+1-o=1 by omega];rfl
  have e2:(cur.toList.take o++v::cur.toList.drop (o+1)).drop (o+1+r.length)=cur.toList.drop (o+(v::r).length):=by
   rw[ajD,hlt,ag9 (by omega),agH,show o+1+r.length-o=r.length+1 by omega,agr,ahn,agc];congr 1;omega
  rw[e1,e2];simp
theorem tZ{P:Program}(w:World)(dT sT ty elem:TypeId)(k b o dLen dCap:Nat)(a:Addr)(sLen sCap:Nat)(cs:List Value)
    (hu:P.underlying dT=some (.slice elem)) (hs:(P.info? elem).map (·.size)=some k) (hn:cs.length=Nat.min sLen dLen*k)
    (hsrc:∀j v,cs[j]?=some v->w.cell? (a.add j)=some v) (hc:∀j,j<cs.length->(w.cell? ⟨b,o+j,none⟩).isSome=true) (hf:∀j,j<cs.length->w.frozen? ⟨b,o+j,none⟩=false) (h1:∀v∈cs,v.oneCell'=true):
    (Builtin.copy_ #[dT,sT] ty #[.slice (some ⟨b,o,none⟩) dLen dCap,.slice (some a) sLen sCap]).run P w=.ok (goInt (Nat.min sLen dLen)) (w.setCells b o cs):=by
 have hl:=run_loadCells_list (P:=P) w a cs hsrc;have hst:=run_storeCells_cells (P:=P) b o cs 0 w (by simpa using hc) (by simpa using hf) h1;cases hq:P.info? elem with
 |none=>simp[hq]at hs
 |some i=>
  have hi:i.size=k:=by simpa[hq]using hs
  rw[hn]at hl;simp[Builtin.copy_,ahs hu,Builtin.lenOf,Builtin.firstCells,sizeOf,typeInfo,hq,hi,hl,hst]
theorem zO{P:Program}{w w':World}{ops:Array Oper}{rest:List Oper}{o:Oper}{a:Act}{Q:Exit->Act->World->Prop}{t:TypeId}{v v1 v2:Value}(hgd:o.guard=none)(s x:Operand)(ho:o.op=.call { callee:=.builtin .copy,args:=#[s,x],argTypes:=#[t,t] })
    (h1:a.eval s=v1) (h2:a.eval x=v2) (hrun:(Builtin.copy_ #[t,t] o.type #[v1,v2]).run P w=.ok v w') (hK:wpList P ops Q rest (a.put o.dst v) w'):wpList P ops Q (o::rest) a w:=
 wpList_plain hgd λ_ hK'=>by
  unfold Oper.wp execOp
  simp only[ho,resolve,invoke,builtin,Sem.run_bind,Sem.run_pure,Result.andThen_ok,List.map_toArray,ag8,List.map_nil,h1,h2,hrun]
  exact hK' _ _ hK
namespace M
attribute [local go_sem] Oper.semAt_some
theorem m_:Elem Tryz.prog 249 254 4 32:=gP Tryz.underlying249 (z:=.agg #[.int .i64 0,.int .i64 0,.int .u64 0,.int .i64 0]) (by kernel_rfl) rfl (by decide) (by decide)
def uz(_:World):Prop:=True
def vD{α:Type}(lo:Nat)(enc:α->List Value)(W:World)(l:List α)(e:Ending)(w':World):Prop:=∃v',e=.returned v'/\aP lo w' 254 4 enc v' l/\bS [254] W w'/\Below lo W w'
section
variable {α:Type} {enc:α->List Value}
variable{b c lo n vb:Nat}{W:World}
theorem VX(he:∀a,(enc a).length=4)(h1:∀a,∀u∈enc a,u.oneCell'=true)(hlo:lo<=W.heap.size){v:Value}(hs:aP lo W 254 4 enc v []){y:α}(hy:W.heap[vb]?=some (.cells (enc y).toArray 254 (0,0))):
    Calls Tryz.prog 209 #[v,.int .i64 0,.slice (some ⟨vb,0,none⟩) 1 1] W (vD lo enc W [y]):=by
 have hv:aP 0 W 254 4 enc (.slice (some ⟨vb,0,none⟩) 1 1) [y]:=⟨by simp[he],.inr ⟨vb,1,_,rfl,agb _,hy,af7 _,by unfold maxLen;omega,by simp[he],by simp[agI (aiq (he y))]⟩⟩;have HV:=ak hv;have HS:=ak hs;have HE:=ak he;have H1:=ak h1;have eG:=ak hlo;have hsh:∃a cap,v=.slice a 0 cap:=by obtain⟨a,c,e⟩:=hs.len;exact⟨a,c,e⟩
 obtain⟨a,cap,rfl⟩:=hsh;go_enter Tryz.func209,Tryz.ntmps209;go_wp2_with (first
  | (at_builtin;refine mo m_ HE.o H1.o rfl _ _ rfl rfl HS.o rfl rfl HV.o (by simp) eG.o ?_))
 all_goals
  intro v' w' hs' hg hb;have HR:aA (aP lo w' 254 4 enc v' [y]/\bS [254] W w'/\Below lo W w'):=ak ⟨hs',bS.own HS.o (af6 _ _) hg (agl.2 rfl),hb⟩;go_wp2_with fail
  go_ret;exact⟨v',rfl,HR.o⟩
theorem Ct:(Tryz.prog.info? 254).map (·.size)=some 4:=by kernel_rfl
theorem Pb(he:∀a,(enc a).length=4)(h1:∀a,∀u∈enc a,u.oneCell'=true)(hlo:lo<=W.heap.size){l:List α}(hn:l.length=n)(hs:aP lo W 254 4 enc (.slice (some ⟨b,0,none⟩) n c) l)(h0:0<n)(hroom:n+1<=c)(hn2:n<=1000000){y:α}(hy:W.heap[vb]?=some (.cells (enc y).toArray 254 (0,0)))(hvb:vb≠b):
    Calls Tryz.prog 209 #[.slice (some ⟨b,0,none⟩) n c,.int .i64 0,.slice (some ⟨vb,0,none⟩) 1 1] W (vD lo enc W (y::l)):=by
 have HF:∀f,Fence.wide.fn f:=λ_=>trivial;obtain⟨hb,cur,jN⟩:=hs.blk (b:=b) rfl;obtain⟨hc,hcs,htk⟩:c<=maxLen/\cur.size=c*4/\cur.toList.take (n*4)=l.flatMap enc:=by
  rcases hs.2 with⟨hv,_⟩|⟨g',cap',cur',hv,hg,hgb,h1,h2,h3,h4⟩
  .cases hv
  cases hv;rw[jN]at hgb;cases hgb;rw[hn]at h4;exact⟨h2,h3,h4⟩
 obtain⟨Fl,SH⟩:=ay (l.flatMap enc);have Gb:Fl.length=n*4:=by rw[<-SH,bf he,hn]
 have hF1:∀u∈Fl,u.oneCell'=true:=by
  intro u hu;rw[<-SH]at hu;obtain⟨a,-,ha⟩:=ah4.1 hu;exact h1 a u ha
 have hov:∀lb cb,(callFunc 222 #[.slice (some ⟨vb,0,none⟩) 1 1,.slice (some ⟨b,4,none⟩) lb cb]).run Tryz.prog W=.ok (.value (.bool false)) W:=λlb cb=>by
  rw[run_callFunc_extern (fn:=Tryz.f222) (by kernel_rfl) (by kernel_rfl) (by kernel_rfl) (by kernel_rfl) (e:=Extern.SlicesOverlaps.overlaps #[249,249] #[4]) (by kernel_rfl),
   Lib.run_overlaps_apart W 249 4 254 Tryz.underlying249 4 (λw=>by
    obtain⟨i,hi,hz⟩:=ahx.1 Ct;simp[sizeOf,typeInfo,hi,hz]) ⟨vb,0,none⟩ ⟨b,4,none⟩ 1 1 lb cb hvb 254 254 4 (c*4) (by simp[World.shape?,hy,he]) (by simp[World.shape?,jN,hcs]) (by omega) (by simp[World.frozen?,hy]) (by simp[World.frozen?,hy])]
  rfl
 have hcp1:∀ty dc sc,(Builtin.copy_ #[249,249] ty #[.slice (some ⟨b,4,none⟩) n dc,.slice (some ⟨b,0,none⟩) (n+1) sc]).run Tryz.prog W.drew=.ok (goInt n) (W.drew.setCells b 4 Fl):=λty dc sc=>by
  have hmin:Nat.min (n+1) n=n:=by simp[ajL]
  have:=tZ (P:=Tryz.prog) W.drew 249 249 ty 254 4 b 4 n dc ⟨b,0,none⟩ (n+1) sc Fl Tryz.underlying249 Ct (by rw[hmin,Gb]) (λj u hj=>by
   rw[ai9,ahi];show World.cell? W _=_;have hlt:=(agA.1 hj).1;rw[<-SH,<-htk,ahT,af5 (by omega)]at hj;simp only[World.cell?,jN];simpa using hj) (λj hj=>by
   show(World.cell? W _).isSome=true;simp only[World.cell?,jN];rw[ah9 (by omega)];rfl) (λj hj=>by show World.frozen? W _=false;simp[World.frozen?,jN]) hF1
  rw[hmin]at this;exact this
 obtain⟨W1,hW1⟩:=ay (W.drew.setCells b 4 Fl);obtain⟨cur1,hc1,hl1,hz1⟩:=jq b Fl 4 W.drew (cur:=cur) (e:=254) jN (by omega);rw[hW1]at hcp1 hc1;have hg1:=eT b Fl 4 W.drew;rw[hW1]at hg1;have hy1:W1.heap[vb]?=some (.cells (enc y).toArray 254 (0,0)):=aI hg1 hy hvb;have hcp2:∀ty dc,(Builtin.copy_ #[249,249] ty #[.slice (some ⟨b,0,none⟩) (n+1) dc,.slice (some ⟨vb,0,none⟩) 1 1]).run Tryz.prog W1=.ok (goInt 1) (W1.setCells b 0 (enc y)):=λty dc=>by
  have hmin:Nat.min 1 (n+1)=1:=by simp only[ajL];split<;>omega
  have:=tZ (P:=Tryz.prog) W1 249 249 ty 254 4 b 0 (n+1) dc ⟨vb,0,none⟩ 1 1 (enc y) Tryz.underlying249 Ct (by rw[hmin,he]) (λj u hj=>by
   rw[ai9,ahi];simp only[World.cell?,hy1];simpa using hj) (λj hj=>by
   simp only[World.cell?,hc1];rw[he]at hj;rw[ah9 (by omega)];rfl) (λj hj=>by simp[World.frozen?,hc1]) (h1 y)
  rw[hmin]at this;exact this
 obtain⟨W2,hW2⟩:=ay (W1.setCells b 0 (enc y));obtain⟨aaA,hc2,hl2,hz2⟩:=jq b (enc y) 0 W1 hc1 (by rw[he];omega);have hg2:=eT b (enc y) 0 W1;rw[hW2]at hcp2 hc2 hg2;have HR:aA (vD lo enc W (y::l) (.returned (.slice (some ⟨b,0,none⟩) (n+1) c)) W2):=ak (by
  have hd:=(af6 W.heap.size W).drew;have hg0:W.grownBy W.drew (some b):=⟨hd.os,hd.tape,hd.output,hd.size,λk hk _=>hd.block k hk⟩;have hg:W.grownBy W2 (some b):=aM (aM hg0 hg1) hg2;refine⟨_,rfl,⟨by rw[bf he],.inr ⟨b,c,aaA,by rw[agc,hn],hb,hc2,by rw[agc,hn];exact hroom,hc,by rw[hz2,hz1,hcs],?_⟩⟩,jJ hg jN,bL hg hb hlo⟩;rw[hl2,he,ah5,agH,hl1,agc,hn,agW,SH];have e1:(cur.toList.take 4).length=4:=by rw[agB,ah2];omega
  rw[ahj (by rw[af8,e1];omega),ahj (by rw[e1];exact af7 _),ag9 (by rw[e1];exact af7 _),agH,<-agf];rw[ahP (by rw[af8,he,Gb];omega),agI (by rw[af8,he,Gb];omega)])
 have hz1':¬((1:Int)=0):=by omega
 have hz2':¬((0:Int)=(n:Int)):=by omega
 have hc63:c<=9223372036854775807:=by unfold maxLen at hc;omega
 have hb0:¬(c=0):=by omega
 have hb1:¬(c=1):=by omega
 go_enter Tryz.func209,Tryz.ntmps209;go_wp2_with (simp only[hov])
 have hwr:IntKind.i64.wrap 1=1:=by rw[agd];rfl
 have hn1:(1:Int)<=(n:Int)+1:=by omega
 have hn0:(0:Int)<=(n:Int)+1:=by omega
 refine aU uz ?_;have T0:uz W.drew:=trivial;refine bJ 0 1 2 3 4 5 ?_;refine tk2 6 7 ?_;have hrun:=hcp1 3 (c-1) c;refine aT 8 λK hK=>?_;simp[execOp,resolve,invoke,builtin,hrun,Result.andThen,Act.eval,Oper.uponIn];refine hK _ _ trivial ?_;refine aO ?_;go_wp2_with (first
  | (at_builtin;refine zO rfl _ _ rfl rfl rfl (hcp2 _ _) ?_))
 go_ret;exact HR.o
theorem SI(he:∀a,(enc a).length=4)(h1:∀a,∀u∈enc a,u.oneCell'=true)(hlo:lo<=W.heap.size){l:List α}(hn:l.length=n)(hs:aP lo W 254 4 enc (.slice (some ⟨b,0,none⟩) n c) l)(h0:0<n)(hroom:c<n+1)(hn2:n<=1000000){y:α}(hy:W.heap[vb]?=some (.cells (enc y).toArray 254 (0,0)))(hvb:vb≠b):
    Calls Tryz.prog 209 #[.slice (some ⟨b,0,none⟩) n c,.int .i64 0,.slice (some ⟨vb,0,none⟩) 1 1] W (vD lo enc W (y::l)):=by
 have HF:∀f,Fence.wide.fn f:=λ_=>trivial;obtain⟨hb,cur,jN⟩:=hs.blk (b:=b) rfl;obtain⟨hnc,hcs,htk⟩:n<=c/\cur.size=c*4/\cur.toList.take (n*4)=l.flatMap enc:=by
  rcases hs.2 with⟨hv,_⟩|⟨g',cap',cur',hv,hg,hgb,h1,h2,h3,h4⟩
  .cases hv
  cases hv;rw[jN]at hgb;cases hgb;rw[hn]at h4 h1;exact⟨h1,h3,h4⟩
 have hbw:b<W.heap.size:=(aga.1 jN).1;have hvw:vb<W.heap.size:=(aga.1 hy).1;obtain⟨Fl,SH⟩:=ay (l.flatMap enc);have Gb:Fl.length=n*4:=by rw[<-SH,bf he,hn]
 have hF1:∀u∈Fl,u.oneCell'=true:=by
  intro u hu;rw[<-SH]at hu;obtain⟨a,-,ha⟩:=ah4.1 hu;exact h1 a u ha
 obtain⟨-,i0,z,hi0,hz0,hzs,hby,hzc,-,-⟩:=m_;obtain⟨G,hG⟩:=ay (grownCap W (n+1) c 254);have hG1:n+1<=G:=by rw[<-hG];exact akq W _ _ _
 have hG2:G<=maxLen:=by rw[<-hG];exact aj4 W (n+1) c _ (by unfold maxLen;omega)
 obtain⟨ROW,hROW⟩:=ay ((([]:List Value).toArray++Builtin.zeroCells z.cells (n+1)++Builtin.zeroCells z.cells (G-(n+1))));have hRz:ROW.size=G*4:=by
  rw[<-hROW];simp only[Array.size_append,ajI,hzc,hzs];simp only[ajA,ahX];have:n+1+(G-(n+1))=G:=by omega
  rw[ahi,<-aha,this]
 have hap:∀ty,(Builtin.append_ #[249,3] ty #[.slice (some ⟨b,0,none⟩) 0 c,.int .i64 ((n:Int)+1)]).run Tryz.prog W=.ok (.slice (some ⟨W.heap.size,0,none⟩) (n+1) G) (W.drew.alloc (.cells ROW 254)):=λty=>by
  have hold:(Builtin.firstCells i0.size 0 (.slice (some ⟨b,0,none⟩) 0 c)).run Tryz.prog W.drew=.ok ([]:List Value).toArray W.drew:=by
   rw[hzs];exact akO W.drew 4 0 ⟨b,0,none⟩ 0 c [] (by simp) (λj v hj=>by simp at hj)
  have h:=ajP W 249 3 ty 254 i0 z .i64 .i64 Tryz.underlying249 Tryz.underlying3 hi0 hz0 (some ⟨b,0,none⟩) 0 c [] hold (n+1) (by omega) (by rw[hzs];omega) (by omega) (by omega) (by rw[hby];omega) (by rw[hby,ahi];exact aki hroom (by omega));rw[ahi,hG,hROW]at h;exact h
 obtain⟨W1,hW1⟩:=ay (W.drew.alloc (.cells ROW 254));rw[hW1]at hap;have hc1:W1.heap[W.heap.size]?=some (.cells ROW 254 (0,0)):=by rw[<-hW1];exact aD W.drew _
 have hB1:Below W.heap.size W W1:=by rw[<-hW1];exact(af6 _ _).drew.alloc (af7 _) _
 have hy1:W1.heap[vb]?=some (.cells (enc y).toArray 254 (0,0)):=au hB1 hy;have hcp1:∀ty dc,(Builtin.copy_ #[249,249] ty #[.slice (some ⟨W.heap.size,0,none⟩) (n+1) dc,.slice (some ⟨vb,0,none⟩) 1 1]).run Tryz.prog W1=.ok (goInt 1) (W1.setCells W.heap.size 0 (enc y)):=λty dc=>by
  have hmin:Nat.min 1 (n+1)=1:=by simp only[ajL];split<;>omega
  have:=tZ (P:=Tryz.prog) W1 249 249 ty 254 4 W.heap.size 0 (n+1) dc ⟨vb,0,none⟩ 1 1 (enc y) Tryz.underlying249 Ct (by rw[hmin,he]) (λj u hj=>by
   rw[ai9,ahi];simp only[World.cell?,hy1];simpa using hj) (λj hj=>by
   simp only[World.cell?,hc1];rw[he]at hj;rw[ah9 (by omega)];rfl) (λj hj=>by simp[World.frozen?,hc1]) (h1 y)
  rw[hmin]at this;exact this
 obtain⟨W2,hW2⟩:=ay (W1.setCells W.heap.size 0 (enc y));obtain⟨aaA,hc2,hl2,hz2⟩:=jq W.heap.size (enc y) 0 W1 hc1 (by rw[he];omega);have hg2:=eT W.heap.size (enc y) 0 W1;rw[hW2]at hcp1 hc2 hg2;have hb2:W2.heap[b]?=some (.cells cur 254 (0,0)):=aI hg2 (au hB1 jN) (by omega);have hcp2:∀ty dc sc,(Builtin.copy_ #[249,249] ty #[.slice (some ⟨W.heap.size,4,none⟩) n dc,.slice (some ⟨b,0,none⟩) n sc]).run Tryz.prog W2.drew=.ok (goInt n) (W2.drew.setCells W.heap.size 4 Fl):=λty dc sc=>by
  have hmin:Nat.min n n=n:=by simp[ajL]
  have:=tZ (P:=Tryz.prog) W2.drew 249 249 ty 254 4 W.heap.size 4 n dc ⟨b,0,none⟩ n sc Fl Tryz.underlying249 Ct (by rw[hmin,Gb]) (λj u hj=>by
   rw[ai9,ahi];show World.cell? W2 _=_;have hlt:=(agA.1 hj).1;rw[<-SH,<-htk,ahT,af5 (by omega)]at hj;simp only[World.cell?,hb2];simpa using hj) (λj hj=>by
   show(World.cell? W2 _).isSome=true;simp only[World.cell?,hc2];rw[ah9 (by omega)];rfl) (λj hj=>by show World.frozen? W2 _=false;simp[World.frozen?,hc2]) hF1
  rw[hmin]at this;exact this
 obtain⟨W3,hW3⟩:=ay (W2.drew.setCells W.heap.size 4 Fl);obtain⟨cur3,hc3,hl3,hz3⟩:=jq W.heap.size Fl 4 W2.drew (cur:=aaA) (e:=254) hc2 (by omega);have hg3:=eT W.heap.size Fl 4 W2.drew;rw[hW3]at hcp2 hc3 hg3;have HR:aA (vD lo enc W (y::l) (.returned (.slice (some ⟨W.heap.size,0,none⟩) (n+1) G)) W3):=ak (by
  have hd:=(af6 W2.heap.size W2).drew;have hg0:W2.grownBy W2.drew (some W.heap.size):=⟨hd.os,hd.tape,hd.output,hd.size,λk hk _=>hd.block k hk⟩;have hbel:Below W.heap.size W W3:=hB1.grown (aM (aM hg2 hg0) hg3) hB1.size (λk e=>by cases e;exact af7 _);refine⟨_,rfl,⟨by rw[bf he],.inr ⟨W.heap.size,G,cur3,by rw[agc,hn],hlo,hc3,by rw[agc,hn];exact hG1,hG2,by rw[hz3,hz2,hRz],?_⟩⟩,bS.of hbel,hbel.mono hlo⟩;rw[hl3,hl2,he,ah5,agH,agc,hn,agW,SH];have e1:((enc y++ROW.toList.drop (0+4)).take 4)=enc y:=by rw[ahP (by rw[he];exact af7 _),agI (by rw[he];exact af7 _)]
  rw[e1,ahP (by rw[af8,he,Gb];omega),agI (by rw[af8,he,Gb];omega)])
 have hz1':¬((1:Int)=0):=by omega
 have hz2':¬((0:Int)=(n:Int)):=by omega
 have hz3':(n:Int)+1>(c:Int):=by omega
 have hG63:G<=9223372036854775807:=by unfold maxLen at hG2;omega
 have hG0:¬(G=0):=by omega
 have hG1':¬(G=1):=by omega
 have hc0:¬(c=0):=by omega
 go_enter Tryz.func209,Tryz.ntmps209;go_wp2_with (first
  | (at_builtin;refine Lib.wpList_append_run _ rfl _ _ _ _ rfl _ _ rfl rfl _ _ (hap _) ?_)
  | (at_builtin;refine zO rfl _ _ rfl rfl rfl (hcp1 _ _) ?_))
 have hwr:IntKind.i64.wrap 1=1:=by rw[agd];rfl
 have hn1:(1:Int)<=(n:Int)+1:=by omega
 have hn0:(0:Int)<=(n:Int)+1:=by omega
 have aao:(0:Int)<=(n:Int):=by omega
 refine aU uz ?_;have T0:uz W2.drew:=trivial;refine bJ 0 1 2 3 4 5 ?_;refine tk2 6 7 ?_;have hrun:=hcp2 3 (G-1) c;refine aT 8 λK hK=>?_;simp[execOp,resolve,invoke,builtin,hrun,Result.andThen,Act.eval,Oper.uponIn];refine hK _ _ trivial ?_;refine aO ?_;go_wp2_with fail
 go_ret;exact HR.o
theorem AU(he:∀a,(enc a).length=4)(h1:∀a,∀u∈enc a,u.oneCell'=true)(hlo:lo<=W.heap.size){v:Value}{l:List α}(hs:aP lo W 254 4 enc v l)(hl:l.length<=1000000){y:α}(hy:W.heap[vb]?=some (.cells (enc y).toArray 254 (0,0)))(hvb:v.ownBlock≠some vb):
    Calls Tryz.prog 209 #[v,.int .i64 0,.slice (some ⟨vb,0,none⟩) 1 1] W (vD lo enc W (y::l)):=by
 rcases agP l.length with h0|h0
 .have:l=[]:=ahE.1 h0;subst this;exact VX he h1 hlo hs hy
 rcases hs.shape with⟨-,rfl⟩|⟨b,c,rfl,hc,hm⟩
 .simp at h0
 have hne:vb≠b:=λe=>hvb (by rw[e];rfl);by_cases hr:l.length+1<=c
 .exact Pb he h1 hlo rfl hs h0 hr hl hy hne
 exact SI he h1 hlo rfl hs h0 (by omega) hl hy hne
end
end M
end
section
open Go.RowKit Go.Lib
namespace M
attribute [local go_sem] Oper.semAt_some
variable{B g p q:Nat}{r:Ru}{A C W w:World}
theorem iQ(hp:iW W p B g):Calls Tryz.prog 16 #[ku p] W λe w'=>e=.returned (.pointer (some ⟨B,0,none⟩))/\w'=W:=by
 obtain⟨p0,p1⟩:=hp.cells
 clear hp
 go_enter Tryz.func16,Tryz.ntmps16
 go_wp2_with fail
 refine af_ (v:=.pointer (some ⟨B,0,none⟩)) (by simp[results,Tryz.results16,go_sem]) rfl ⟨rfl,rfl⟩
theorem kT(hp:iW W p B g):Calls Tryz.prog 186 #[ku p] W λe w'=>e=.returned (.pointer (some ⟨g,0,none⟩))/\w'=W:=by
 obtain⟨p0,p1⟩:=hp.cells
 clear hp
 go_enter Tryz.func186,Tryz.ntmps186
 go_wp2_with fail
 refine af_ (v:=.pointer (some ⟨g,0,none⟩)) (by simp[results,Tryz.results186,go_sem]) rfl ⟨rfl,rfl⟩
def Co(W:World)(g:Nat)(r:Ru):Prop:=W.heap[g]?=some (.cells #[.int .i64 r.kind,.int .u8 r.letter,.int .i64 r.left,.int .i64 r.right,.int .i64 r.times] 50 (0,0))
theorem Co.cells(h:Co W g r):W.cell? ⟨g,0,none⟩=some (.int .i64 r.kind)/\W.cell? ⟨g,4,none⟩=some (.int .i64 r.times):=by
 unfold Co at h
 simp[World.cell?,h]
def dK:Sy->Nat
 | .pw _ k=>k
 |_=>2
theorem zN{y:Sy}{n:Nat}(h:n<aQ y):dK y=(aZ y).length:=by
 cases y with
 |lt c=>exact absurd h (aiw _)
 |pr l r=>rfl
 |pw x k=>show k=(List.replicate k x).length;rw[ahF]
theorem EG(E:List En)(y:Sy):Calls Tryz.prog 185 #[qN (yP E y)] W λe w'=>e=.returned (vI (dK y))/\Below W.heap.size W w':=by
 obtain⟨⟨kd,lt,l,r,tm⟩,hr⟩:∃r,yP E y=r:=⟨_,rfl⟩
 rw[hr]
 obtain⟨W1,hW1⟩:=ay (W.alloc (.cells #[.int .i64 kd,.int .u8 lt,.int .i64 l,.int .i64 r,.int .i64 tm] 50))
 have k1:Co W1 W.heap.size ⟨kd,lt,l,r,tm⟩:=by rw[<-hW1];exact aD _ _
 have b1:Below W.heap.size W W1:=by rw[<-hW1];exact(af6 _ _).alloc (af7 _) _
 obtain⟨c0,c4⟩:=k1.cells
 have B1:=ak b1
 by_cases h3:kd=3
 .have hw:dK y=tm:=by
   cases y with
   |lt b=>injection hr with h1;omega
   |pr a b=>injection hr with h1;omega
   |pw x k=>injection hr
  rw[hw]
  clear hw hr k1 b1
  subst h3
  replace hW1:W.alloc (.cells #[.int .i64 3,.int .u8 lt,.int .i64 l,.int .i64 r,.int .i64 tm] 50)=W1:=hW1
  replace c0:W1.cell? ⟨W.heap.size,0,none⟩=some (.int .i64 3):=c0
  show Calls _ _ #[.agg #[.int .i64 3,.int .u8 lt,.int .i64 l,.int .i64 r,.int .i64 tm]] W _
  go_enter Tryz.func185,Tryz.ntmps185
  go_wp2_with fail
  refine af_ (v:=.int .i64 tm) (by simp[results,Tryz.results185,go_sem]) rfl ⟨rfl,B1.o⟩
 .have hw:dK y=2:=by
   cases y with
   |lt b=>rfl
   |pr a b=>rfl
   |pw x k=>injection hr with h1;omega
  rw[hw]
  clear hw hr k1 b1
  have l3:¬(kd:Int)=3:=by omega
  go_enter Tryz.func185,Tryz.ntmps185
  go_wp2_with fail
  refine af_ (v:=.int .i64 2) (by simp[results,Tryz.results185,go_sem]) rfl ⟨rfl,B1.o⟩
theorem Sz(W:World)(i kd lt l r tm lv h:Nat):∃W1,W.alloc (.cells #[.int .i64 i,.int .i64 kd,.int .u8 lt,.int .i64 l,.int .i64 r,.int .i64 tm,.int .i64 lv,.int .i64 h] 289)=W1/\Below W.heap.size W W1/\
    W1.cell? ⟨W.heap.size,1,none⟩=some (.int .i64 kd)/\W1.cell? ⟨W.heap.size,3,none⟩=some (.int .i64 l)/\W1.cell? ⟨W.heap.size,4,none⟩=some (.int .i64 r)/\W1.cell? ⟨W.heap.size,7,none⟩=some (.int .i64 h):=by
 have k:=aD W (.cells #[.int .i64 i,.int .i64 kd,.int .u8 lt,.int .i64 l,.int .i64 r,.int .i64 tm,.int .i64 lv,.int .i64 h] 289)
 exact⟨_,rfl,(af6 _ _).alloc (af7 _) _,by simp only[World.cell?,k];rfl,by simp only[World.cell?,k];rfl,by simp only[World.cell?,k];rfl,by simp only[World.cell?,k];rfl⟩
theorem EH(E:List En){y:Sy}{h:Nat}(b:Bool)(h1:1<=h)(h2:h<=(aZ y).length):Calls Tryz.prog 177 #[frV E y h,.bool b] W λe w'=>e=.returned (vI (num E (AA b y h)))/\Below W.heap.size W w':=by
 cases y with
 |lt c=>exact absurd (af9 h1 h2) (aiw _)
 |pr a c=>
  have h2':h<=2:=h2
  show Calls _ _ #[.agg #[.int .i64 (num E (.pr a c):Nat),.int .i64 2,.int .u8 0,.int .i64 (num E a:Nat),.int .i64 (num E c:Nat),.int .i64 0,.int .i64 (aQ (.pr a c):Nat),.int .i64 (h:Nat)],.bool b] W _
  obtain⟨i,hi⟩:=ay (num E (.pr a c))
  obtain⟨lv,hlv⟩:=ay (aQ (.pr a c))
  rw[hi,hlv]
  obtain⟨W1,hW1,b1,c1,c3,c4,c7⟩:=Sz W i 2 0 (num E a) (num E c) 0 lv h
  replace c1:W1.cell? ⟨W.heap.size,1,none⟩=some (.int .i64 2):=c1
  have hW1':W.alloc (.cells #[.int .i64 i,.int .i64 2,.int .u8 0,.int .i64 (num E a:Nat),.int .i64 (num E c:Nat),.int .i64 0,.int .i64 lv,.int .i64 h] 289)=W1:=hW1
  clear hW1
  have B1:=ak b1
  clear b1 hi hlv h2
  have hh:h=1\/h=2:=by omega
  obtain⟨na,hna⟩:=ay (num E a)
  obtain⟨nc,hnc⟩:=ay (num E c)
  have HN:=ak (And.intro hna hnc)
  rw[hna,hnc]at hW1'
  rw[hna]at c3⊢
  rw[hnc]at c4⊢
  clear hna hnc
  rcases hh with rfl|rfl<;>cases b
  .replace c7:W1.cell? ⟨W.heap.size,7,none⟩=some (.int .i64 1):=c7
   replace hW1':W.alloc (.cells #[.int .i64 i,.int .i64 2,.int .u8 0,.int .i64 na,.int .i64 nc,.int .i64 0,.int .i64 lv,.int .i64 1] 289)=W1:=hW1'
   go_enter Tryz.func177,Tryz.ntmps177
   go_wp2_with fail
   exact af_ (v:=.int .i64 na) (by simp[results,Tryz.results177,go_sem]) rfl ⟨by rw[<-HN.o.1];rfl,B1.o⟩
  .replace c7:W1.cell? ⟨W.heap.size,7,none⟩=some (.int .i64 1):=c7
   replace hW1':W.alloc (.cells #[.int .i64 i,.int .i64 2,.int .u8 0,.int .i64 na,.int .i64 nc,.int .i64 0,.int .i64 lv,.int .i64 1] 289)=W1:=hW1'
   go_enter Tryz.func177,Tryz.ntmps177
   go_wp2_with fail
   exact af_ (v:=.int .i64 nc) (by simp[results,Tryz.results177,go_sem]) rfl ⟨by rw[<-HN.o.2];rfl,B1.o⟩
  .replace c7:W1.cell? ⟨W.heap.size,7,none⟩=some (.int .i64 2):=c7
   replace hW1':W.alloc (.cells #[.int .i64 i,.int .i64 2,.int .u8 0,.int .i64 na,.int .i64 nc,.int .i64 0,.int .i64 lv,.int .i64 2] 289)=W1:=hW1'
   go_enter Tryz.func177,Tryz.ntmps177
   go_wp2_with fail
   exact af_ (v:=.int .i64 nc) (by simp[results,Tryz.results177,go_sem]) rfl ⟨by rw[<-HN.o.2];rfl,B1.o⟩
  .replace c7:W1.cell? ⟨W.heap.size,7,none⟩=some (.int .i64 2):=c7
   replace hW1':W.alloc (.cells #[.int .i64 i,.int .i64 2,.int .u8 0,.int .i64 na,.int .i64 nc,.int .i64 0,.int .i64 lv,.int .i64 2] 289)=W1:=hW1'
   go_enter Tryz.func177,Tryz.ntmps177
   go_wp2_with fail
   exact af_ (v:=.int .i64 na) (by simp[results,Tryz.results177,go_sem]) rfl ⟨by rw[<-HN.o.1];rfl,B1.o⟩
 |pw x k=>
  show Calls _ _ #[.agg #[.int .i64 (num E (.pw x k):Nat),.int .i64 3,.int .u8 0,.int .i64 (num E x:Nat),.int .i64 0,.int .i64 (k:Nat),.int .i64 (aQ (.pw x k):Nat),.int .i64 (h:Nat)],.bool b] W _
  obtain⟨i,hi⟩:=ay (num E (.pw x k))
  obtain⟨lv,hlv⟩:=ay (aQ (.pw x k))
  rw[hi,hlv]
  obtain⟨W1,hW1,b1,c1,c3,c4,c7⟩:=Sz W i 3 0 (num E x) 0 k lv h
  replace c1:W1.cell? ⟨W.heap.size,1,none⟩=some (.int .i64 3):=c1
  have hW1':W.alloc (.cells #[.int .i64 i,.int .i64 3,.int .u8 0,.int .i64 (num E x:Nat),.int .i64 0,.int .i64 k,.int .i64 lv,.int .i64 h] 289)=W1:=hW1
  have B1:=ak b1
  clear hW1 b1 hi hlv h2 c4
  show Calls _ _ _ W λe w'=>e=.returned (vI (num E x))/\_
  generalize num E x=na at hW1' c3⊢
  go_enter Tryz.func177,Tryz.ntmps177
  go_wp2_with fail
  exact af_ (v:=.int .i64 na) (by simp[results,Tryz.results177,go_sem]) rfl ⟨rfl,B1.o⟩
theorem Co.all(h:Co W g r):W.cell? ⟨g,0,none⟩=some (.int .i64 r.kind)/\W.cell? ⟨g,1,none⟩=some (.int .u8 r.letter)/\W.cell? ⟨g,2,none⟩=some (.int .i64 r.left)/\W.cell? ⟨g,3,none⟩=some (.int .i64 r.right)/\W.cell? ⟨g,4,none⟩=some (.int .i64 r.times)/\∀i,W.frozen? ⟨g,i,none⟩=false:=by
 unfold Co at h
 simp[World.cell?,World.frozen?,h]
theorem Co.set{r0:Ru}(h:Co W g r0)(r:Ru):Co (((((W.setCell ⟨g,0,none⟩ (.int .i64 r.kind)).setCell ⟨g,1,none⟩ (.int .u8 r.letter)).setCell ⟨g,2,none⟩ (.int .i64 r.left)).setCell ⟨g,3,none⟩ (.int .i64 r.right)).setCell ⟨g,4,none⟩ (.int .i64 r.times)) g r:=by
 unfold Co at h⊢
 exact aC _ (aC _ (aC _ (aC _ (aC _ h))))
structure F8 where
 i:Nat
 kd:Nat
 lt:Nat
 l:Nat
 r:Nat
 tm:Nat
 lv:Nat
 h:Nat
def uy(W:World)(g:Nat)(f:F8):Prop:=W.heap[g]?=some (.cells #[.int .i64 f.i,.int .i64 f.kd,.int .u8 f.lt,.int .i64 f.l,.int .i64 f.r,.int .i64 f.tm,.int .i64 f.lv,.int .i64 f.h] 289 (0,0))
theorem uy.all{f:F8}(q:uy W g f):W.cell? ⟨g,0,none⟩=some (.int .i64 f.i)/\W.cell? ⟨g,1,none⟩=some (.int .i64 f.kd)/\W.cell? ⟨g,2,none⟩=some (.int .u8 f.lt)/\W.cell? ⟨g,3,none⟩=some (.int .i64 f.l)/\W.cell? ⟨g,4,none⟩=some (.int .i64 f.r)/\
    W.cell? ⟨g,5,none⟩=some (.int .i64 f.tm)/\W.cell? ⟨g,6,none⟩=some (.int .i64 f.lv)/\W.cell? ⟨g,7,none⟩=some (.int .i64 f.h)/\∀i,W.frozen? ⟨g,i,none⟩=false:=by
 unfold uy at q
 simp[World.cell?,World.frozen?,q]
abbrev yY(W:World)(g:Nat)(f:F8):World:=(((((((W.setCell ⟨g,0,none⟩ (.int .i64 f.i)).setCell ⟨g,1,none⟩ (.int .i64 f.kd)).setCell ⟨g,2,none⟩ (.int .u8 f.lt)).setCell ⟨g,3,none⟩ (.int .i64 f.l)).setCell ⟨g,4,none⟩ (.int .i64 f.r)).setCell ⟨g,5,none⟩ (.int .i64 f.tm)).setCell ⟨g,6,none⟩ (.int .i64 f.lv)).setCell ⟨g,7,none⟩ (.int .i64 f.h)
theorem uy.set{f0:F8}(h:uy W g f0)(f:F8):uy (yY W g f) g f:=by
 have q:=aC (i:=7) (.int .i64 f.h) (aC (i:=6) (.int .i64 f.lv) (aC (i:=5) (.int .i64 f.tm) (aC (i:=4) (.int .i64 f.r) (aC (i:=3) (.int .i64 f.l) (aC (i:=2) (.int .u8 f.lt) (aC (i:=1) (.int .i64 f.kd) (aC (i:=0) (.int .i64 f.i) h)))))))
 simp only[agx,agu,agv]at q
 exact q
theorem mZ(W:World)(g:Nat)(f:F8):W.grownBy (yY W g f) (some g):=
 aM (aK _ ⟨g,0,none⟩ _) (aM (aK _ ⟨g,1,none⟩ _) (aM (aK _ ⟨g,2,none⟩ _) (aM (aK _ ⟨g,3,none⟩ _) (aM (aK _ ⟨g,4,none⟩ _) (aM (aK _ ⟨g,5,none⟩ _) (aM (aK _ ⟨g,6,none⟩ _) (aK _ ⟨g,7,none⟩ _)))))))
abbrev frF(E:List En)(y:Sy)(h:Nat):F8:=⟨num E y,(yP E y).kind,(yP E y).letter,(yP E y).left,(yP E y).right,(yP E y).times,aQ y,h⟩
theorem al3(h:Below A.heap.size A w):∃q w',w.alloc (.cells #[.int .i64 0,.int .u8 0,.int .i64 0,.int .i64 0,.int .i64 0] 50)=w'/\w.heap.size=q/\Below A.heap.size A w'/\Co w' q ⟨0,0,0,0,0⟩/\A.heap.size<=q:=
 ⟨_,_,rfl,rfl,h.alloc h.size _,aD _ _,h.size⟩
theorem st3(h:Below A.heap.size A w)(R:Co w q ⟨0,0,0,0,0⟩)(l:A.heap.size<=q)(r:Ru):∃w',((((w.setCell ⟨q,0,none⟩ (.int .i64 r.kind)).setCell ⟨q,1,none⟩ (.int .u8 r.letter)).setCell ⟨q,2,none⟩ (.int .i64 r.left)).setCell ⟨q,3,none⟩ (.int .i64 r.right)).setCell ⟨q,4,none⟩ (.int .i64 r.times)=w'/\Below A.heap.size A w'/\Co w' q r:=
 ⟨_,rfl,((((h.setCell (p:=⟨q,0,none⟩) l _).setCell (p:=⟨q,1,none⟩) l _).setCell (p:=⟨q,2,none⟩) l _).setCell (p:=⟨q,3,none⟩) l _).setCell (p:=⟨q,4,none⟩) l _,R.set r⟩
theorem iW.below(h:iW A p B g)(hb:Below A.heap.size A C):iW C p B g:=au hb h
theorem Co.below(h:Co A q r)(hb:Below A.heap.size A C):Co C q r:=au hb h
theorem uy.below{f:F8}(h:uy A q f)(hb:Below A.heap.size A C):uy C q f:=au hb h
theorem Co.kp{X:Nat->Prop}(h:Co A q r)(hk:Kp B X A C)(hX:¬X q):Co C q r:=hk.cells _ (by decide) _ hX _ _ h
theorem uy.kp{X:Nat->Prop}{f:F8}(h:uy A q f)(hk:Kp B X A C)(hX:¬X q):uy C q f:=hk.cells _ (by decide) _ hX _ _ h
theorem Jd{n0 most:Nat}{F:List Sy}{E:List En}(h:gV n0 B most g F E W){T:TypeId}{lo sb o pa:Nat}{b:Bool}{p:gI}{k:Nat}{cs:Array Value}{v:Value}{x:Sy}(hT:T∉Du)(hp:iW W pa B g)(hr:iq W E T lo sb o pa b p (num E x) k cs v)(hx:x∈syms E)(hok:jF x):
    Calls Tryz.prog 175 #[.pointer (some ⟨sb,o,none⟩)] W λe w'=>e=.returned (frV E x (dK x))/\Gw n0 B most g F (λ_=>False) E E W w':=by
 have HF:∀f,Fence.wide.fn f:=λ_=>trivial
 have HP:=ak h;have fV:=ak hp;have HR:=ak hr;have HX:=ak (And.intro hx hok)
 have gJ:=ak h.lt
 obtain⟨W1,hW1⟩:=ay (W.alloc (.cells #[.int .i64 0,.int .i64 0,.int .u8 0,.int .i64 0,.int .i64 0,.int .i64 0,.int .i64 0,.int .i64 0] 289))
 have k1:uy W1 W.heap.size ⟨0,0,0,0,0,0,0,0⟩:=by rw[<-hW1];exact aD _ _
 have Na:Below W.heap.size W W1:=by rw[<-hW1];exact(af6 _ _).alloc (af7 _) _
 have K1:=ak k1;have DR:=ak Na
 have e0:∀w,Below W1.heap.size W1 w->w.cell? ⟨sb,o,none⟩=some (ku pa):=λw hw=>(HR.o.below (Below.after DR.o hw)).cells.1
 have e3:∀w,Below W1.heap.size W1 w->w.cell? ⟨sb,o+3,none⟩=some (vI (num E x)):=λw hw=>(HR.o.below (Below.after DR.o hw)).cells.2.2.2.1
 obtain⟨i,hi⟩:=ay (num E x)
 rw[hi]at e3
 have HI:=ak hi
 obtain⟨x1,x2,x3⟩:=aS hx
 rw[hi]at x1 x2 x3
 obtain⟨r,hr⟩:=ay (yP E x)
 have mW:(aF E i).ru=r:=by rw[ZJ h.wf.wf h.nd x1 x2,x3,hr]
 have pX:=ak (And.intro x1 (And.intro x2 mW));have HRR:=ak hr
 have HW:aA (∀w,Calls Tryz.prog 185 #[qN r] w λe w'=>e=.returned (vI (dK x))/\Below w.heap.size w w'):=ak λw=>by rw[<-hr];exact EG E x
 have I9:=ak hT
 clear h hp hr hx hok k1 Na hi x1 x2 x3 mW hT
 go_enter Tryz.func175,Tryz.ntmps175
 go_wp2_with fail
 clear hW1
 refine aU (Below W1.heap.size W1) ?_
 have S0:Below W1.heap.size W1 W1.drew:=(af6 _ _).drew
 obtain⟨wd,hwd⟩:=ay (W1.drew)
 rw[hwd]at S0⊢
 refine bJ 0 1 2 3 5 6 ?_
 refine tk2 7 8 ?_
 refine aJ.two (i:=4) (j:=13) (by kernel_rfl) (by kernel_rfl) rfl rfl HF (by rfl) (by rfl) (λK hK=>?_) (λK hK=>?_)
 case' _=>
  go_simp
  try with_reducible refine⟨rfl,?_⟩
  refine agq.2 ((iQ (fV.o.below (Below.after DR.o S0))).mono ?_)
  rintro e wn ⟨rfl,rfl⟩
  refine hK _ _ S0 ?_
  clear hK K
  refine aJ.two (i:=9) (j:=13) (by kernel_rfl) (by kernel_rfl) rfl rfl HF (by rfl) (by rfl) (λK hK=>?_) (λK hK=>?_)
  case' _=>
   go_simp
   try with_reducible refine⟨rfl,?_⟩
   refine agq.2 ((iK (HP.o.below (Below.after DR.o S0)).st pX.o.1 pX.o.2.1 (by have:=HP.o.room;omega)).mono ?_)
   rintro e wn ⟨rfl,bn⟩
   replace S0:=Below.after S0 bn
   try replace R3:=R3.below bn
   rw[pX.o.2.2]
   refine hK _ _ S0 ?_
   clear hK K bn
   refine tk3 10 11 12 ?_
   refine aT 13 λK hK=>?_
   go_simp
   obtain⟨b3,w3,hw3,hb3,S3,R3,l3⟩:=al3 S0
   rw[hw3,hb3]
   refine hK _ _ S3 ?_
   clear S0 hK K hw3 hb3
   have S0:=S3
   clear S3
  rotate_left
  case' _=>
   go_simp
   obtain⟨b3,w3,hw3,hb3,S3,R3,l3⟩:=al3 S0
   rw[hw3,hb3]
   refine hK _ _ S3 ?_
   clear S0 hK K hw3 hb3
   have S0:=S3
   clear S3
   refine aT 9 λK hK=>?_
   go_simp
   try with_reducible refine⟨rfl,?_⟩
   refine agq.2 ((iK (HP.o.below (Below.after DR.o S0)).st pX.o.1 pX.o.2.1 (by have:=HP.o.room;omega)).mono ?_)
   rintro e wn ⟨rfl,bn⟩
   replace S0:=Below.after S0 bn
   try replace R3:=R3.below bn
   rw[pX.o.2.2]
   refine hK _ _ S0 ?_
   clear hK K bn
   refine tk3 10 11 12 ?_
 rotate_left 2
 case' _=>
  go_simp
  obtain⟨b3,w3,hw3,hb3,S3,R3,l3⟩:=al3 S0
  rw[hw3,hb3]
  refine hK _ _ S3 ?_
  clear S0 hK K hw3 hb3
  have S0:=S3
  clear S3
  refine aT 4 λK hK=>?_
  go_simp
  try with_reducible refine⟨rfl,?_⟩
  refine agq.2 ((iQ (fV.o.below (Below.after DR.o S0))).mono ?_)
  rintro e wn ⟨rfl,rfl⟩
  refine hK _ _ S0 ?_
  clear hK K
  refine aT 9 λK hK=>?_
  go_simp
  try with_reducible refine⟨rfl,?_⟩
  refine agq.2 ((iK (HP.o.below (Below.after DR.o S0)).st pX.o.1 pX.o.2.1 (by have:=HP.o.room;omega)).mono ?_)
  rintro e wn ⟨rfl,bn⟩
  replace S0:=Below.after S0 bn
  try replace R3:=R3.below bn
  rw[pX.o.2.2]
  refine hK _ _ S0 ?_
  clear hK K bn
  refine tk3 10 11 12 ?_
 all_goals
  refine aT 14 λK hK=>?_
  go_simp
  obtain⟨y0,y1,y2,y3,y4,y5⟩:=R3.all
  have f0:=y5 0;have f1:=y5 1;have f2:=y5 2;have f3:=y5 3;have f4:=y5 4
  obtain⟨w5,eH,S5,R5⟩:=st3 S0 R3 l3 r
  go_simp
  refine hK _ _ S5 ?_
  clear y5 R3 S0 eH y0 y1 y2 y3 y4 f0 f1 f2 f3 f4 hK K
  refine tk1 15 ?_
  refine aO ?_
  clear e0 e3
  have nL:=ak R5
  have xY:aA (Gw n0 B most g F (λ_=>False) E E W w5):=ak (Gw.of HP.o (Below.after DR.o S5))
  have Je:aA (iW w5 pa B g):=ak (fV.o.below (Below.after DR.o S5))
  have xG:aA (iq w5 E T lo sb o pa b p (num E x) k cs v):=ak (HR.o.below (Below.after DR.o S5))
  have uJ:aA (uy w5 W.heap.size ⟨0,0,0,0,0,0,0,0⟩):=ak (K1.o.below S5)
  have oG:=ak (show W.heap.size<W1.heap.size/\W1.heap.size<=b3 from⟨(aga.1 K1.o).1,l3⟩)
  have zI:aA (∀w,Gw n0 B most g F (λ_=>False) E E w5 w->Calls Tryz.prog 20 #[.pointer (some ⟨g,0,none⟩),.int .i64 i] w λr w'=>r=.returned (.tuple #[vI (aQ x),.nilIface])/\Gw n0 B most g F (λ_=>False) E E w w'):=ak λw hw=>by
   have:=xA hw.st HX.o.1 HX.o.2
   rw[HI.o]at this
   exact this
  clear R5 S5 l3
  go_wp2_with fail
  refine aU (λw=>Gw n0 B most g F (λ_=>False) E E w5 w) ?_
  obtain⟨we,bU⟩:=ay (w5.drew)
  have S0:Gw n0 B most g F (λ_=>False) E E w5 we:=by rw[<-bU];exact Gw.of xY.o.st (af6 _ _).drew
  rw[bU]
  clear bU
  have e0:∀w,Gw n0 B most g F (λ_=>False) E E w5 w->w.cell? ⟨sb,o,none⟩=some (ku pa):=λw hw=>(xG.o.gw hw HP.o.wf.wf I9.o (λq=>q) (λ_ _ q=>q)).cells.1
  have e3:∀w,Gw n0 B most g F (λ_=>False) E E w5 w->w.cell? ⟨sb,o+3,none⟩=some (vI i):=λw hw=>by
   have:=(xG.o.gw hw HP.o.wf.wf I9.o (λq=>q) (λ_ _ q=>q)).cells.2.2.2.1
   rw[HI.o]at this
   exact this
  refine bJ 0 1 2 3 5 6 ?_
  refine tk2 7 8 ?_
  refine aT 4 λK hK=>?_
  go_simp
  try with_reducible refine⟨rfl,?_⟩
  refine agq.2 ((kT (Je.o.kp S0.kp (λq=>q))).mono ?_)
  rintro e wn ⟨rfl,rfl⟩
  refine hK _ _ S0 ?_
  clear hK K
  refine aT 9 λK hK=>?_
  go_simp
  try with_reducible refine⟨rfl,?_⟩
  refine agq.2 ((zI.o _ S0).mono ?_)
  rintro e w6 ⟨rfl,bn⟩
  replace S0:=S0.trans bn
  refine hK _ _ S0 ?_
  clear hK K bn
  refine zD 10 11 12 13 14 ?_
  refine aO ?_
  have G8:aA (Gw n0 B most g F (λ_=>False) E E W w6):=ak (xY.o.trans S0)
  have zY:aA (Co w6 b3 r):=ak (nL.o.kp S0.kp (λq=>q))
  have Sj:aA (uy w6 W.heap.size ⟨0,0,0,0,0,0,0,0⟩):=ak (uJ.o.kp S0.kp (λq=>q))
  have SA:aA (iq w6 E T lo sb o pa b p (num E x) k cs v):=ak (xG.o.gw S0 HP.o.wf.wf I9.o (λq=>q) (λ_ _ q=>q))
  clear S0 e0 e3 zI nL xG uJ Je
  go_wp2_with fail
  refine aU (Below w6.heap.size w6) ?_
  obtain⟨we,bU⟩:=ay (w6.drew)
  have S0:Below w6.heap.size w6 we:=by rw[<-bU];exact(af6 _ _).drew
  rw[bU]
  clear bU
  have e3:∀w,Below w6.heap.size w6 w->w.cell? ⟨sb,o+3,none⟩=some (vI i):=λw hw=>by
   have:=(SA.o.below hw).cells.2.2.2.1
   rw[HI.o]at this
   exact this
  have g0:∀w,Below w6.heap.size w6 w->w.cell? ⟨b3,0,none⟩=some (.int .i64 r.kind):=λw hw=>(zY.o.below hw).all.1
  have g1:∀w,Below w6.heap.size w6 w->w.cell? ⟨b3,1,none⟩=some (.int .u8 r.letter):=λw hw=>(zY.o.below hw).all.2.1
  have g2:∀w,Below w6.heap.size w6 w->w.cell? ⟨b3,2,none⟩=some (.int .i64 r.left):=λw hw=>(zY.o.below hw).all.2.2.1
  have g3:∀w,Below w6.heap.size w6 w->w.cell? ⟨b3,3,none⟩=some (.int .i64 r.right):=λw hw=>(zY.o.below hw).all.2.2.2.1
  have g4:∀w,Below w6.heap.size w6 w->w.cell? ⟨b3,4,none⟩=some (.int .i64 r.times):=λw hw=>(zY.o.below hw).all.2.2.2.2.1
  refine bJ 0 1 2 3 4 5 ?_
  refine tk1 6 ?_
  refine aT 7 λK hK=>?_
  go_simp
  try with_reducible refine⟨rfl,?_⟩
  refine agq.2 ((HW.o _).mono ?_)
  rintro e w7 ⟨rfl,bn⟩
  replace S0:=Below.after S0 bn
  refine hK _ _ S0 ?_
  clear hK K bn
  refine tk1 8 ?_
  refine aJ.cK 9 (by kernel_rfl) ?_
  simp only[agr,agj]
  clear e3 g0 g1 g2 g3 g4
  have xH:=Sj.o.below S0
  obtain⟨y0,y1,y2,y3,y4,y5,y6,y7,y8⟩:=xH.all
  have f0:=y8 0;have f1:=y8 1;have f2:=y8 2;have f3:=y8 3;have f4:=y8 4;have f5:=y8 5;have f6:=y8 6;have f7:=y8 7
  obtain⟨lx,hlx⟩:=ay (aQ x)
  obtain⟨wx,hwx⟩:=ay (dK x)
  obtain⟨w8,hw8⟩:∃w',yY w7 W.heap.size ⟨i,r.kind,r.letter,r.left,r.right,r.times,lx,wx⟩=w':=⟨_,rfl⟩
  have k8:uy w8 W.heap.size ⟨i,r.kind,r.letter,r.left,r.right,r.times,lx,wx⟩:=by rw[<-hw8];exact xH.set _
  have g8:w7.grownBy w8 (some W.heap.size):=by rw[<-hw8];exact mZ _ _ _
  have mJ:aA (Gw n0 B most g F (λ_=>False) E E W w8):=ak (((G8.o.trans (Gw.of G8.o.st S0)).free.trans (Gw.put (X:=λq=>W.heap.size<=q) (G8.o.st.below S0) g8 xH (by decide) gJ.o (af7 _))).mono λq hq h=>by omega)
  have HK8:=ak k8
  have HE:aA (frV E x (dK x)=.agg #[.int .i64 i,.int .i64 r.kind,.int .u8 r.letter,.int .i64 r.left,.int .i64 r.right,.int .i64 r.times,.int .i64 lx,.int .i64 wx]):=ak (by rw[<-hlx,<-hwx,<-HI.o,<-HRR.o])
  rw[hlx,hwx]
  simp only[yY]at hw8
  clear S0 xH y8 k8 g8 hlx hwx
  gi_wp2_with fail
  clear hw8 y0 y1 y2 y3 y4 y5 y6 y7 f0 f1 f2 f3 f4 f5 f6 f7
  go_wp2_with fail
  obtain⟨x0,x1,x2,x3,x4,x5,x6,x7,-⟩:=HK8.o.all
  refine af_ (v:=.agg #[.int .i64 i,.int .i64 r.kind,.int .u8 r.letter,.int .i64 r.left,.int .i64 r.right,.int .i64 r.times,.int .i64 lx,.int .i64 wx]) (by simp[results,Tryz.results175,go_sem,x0,x1,x2,x3,x4,x5,x6,x7]) rfl ⟨by rw[HE.o],mJ.o⟩
end M
end
end Go.Proofs.YtgbhohfabhilgaaGreatDoor
