import Derived.Test.YtgbhohfabhilgaaGreatDoorBase33
import Derived.Test.YtgbhohfabhilgaaGreatDoorRows
set_option maxRecDepth 100000
set_option maxHeartbeats 8000000
set_option linter.unusedVariables false
set_option linter.unusedSimpArgs false
namespace Go.Proofs.YtgbhohfabhilgaaGreatDoor
section
open Go.RowKit Go.Lib
namespace M
variable{A C:World}
def Kd(A C:World):Prop:=∀t:TypeId,t∉Du->t≠155->∀(k:Nat) (cs:Array Value) (fz:Nat×Nat),A.heap[k]?=some (.cells cs t fz)->C.heap[k]?=some (.cells cs t fz)
theorem Kd.trans{D:World}(h:Kd A C)(k:Kd C D):Kd A D:=λt a b i cs fz e=>k t a b i cs fz (h t a b i cs fz e)
theorem Kd.kt{B:Nat}(h:Kt B A C):Kd A C:=λt a _ k cs fz e=>h.cells t (λq=>a (by rw[q];decide)) (λq=>a (by rw[q];decide)) k cs fz e
theorem Kd.km{B:Nat}(h:Km B (λq=>A.heap.size<=q) A C):Kd A C:=λt a _ k cs fz e=>h.cells t a k (λq=>by have:=(aga.1 e).1;omega) cs fz e
theorem Kd.of{A C:World}(h:Below A.heap.size A C):Kd A C:=Kd.kt (B:=0) (Kt.of h)
theorem Kd.Am{b0:Nat}{v:Value}{L:List bH}(hk:Kd A C)(h:mg b0 A v L):mg b0 C v L:=aP.keep h (λk cs fz e=>hk _ (by decide) (by decide) k cs fz e)
structure mM(n0 B g pa mb kb k:Nat)(E E':List En)(W w':World):Prop where
 dk:jO n0 w' B g pa mb kb E'
 ext:Ext E E'
 few:E'.length<=E.length+k
 Dx:Below n0 W w'
 kd:Kd W w'
section
variable {n0 B g pa mb kb:Nat} {E:List En} {W:World}
theorem mM.trans{k1 k2:Nat}{E2 E3:List En}{w2 w3:World}(h:mM n0 B g pa mb kb k1 E E2 W w2)(k:mM n0 B g pa mb kb k2 E2 E3 w2 w3):mM n0 B g pa mb kb (k1+k2) E E3 W w3:=
 ⟨k.dk,h.ext.trans k.ext,by have:=h.few;have:=k.few;omega,h.Dx.trans k.Dx,h.kd.trans k.kd⟩
theorem mM.of{w:World}(h:jO n0 W B g pa mb kb E)(hb:Below W.heap.size W w):mM n0 B g pa mb kb 0 E E W w:=⟨h.below hb,Ext.refl _,af7 _,hb.mono h.st.lt,.of hb⟩
theorem mM.mono{k1 k2:Nat}{E2:List En}{w2:World}(h:mM n0 B g pa mb kb k1 E E2 W w2)(hk:k1<=k2):mM n0 B g pa mb kb k2 E E2 W w2:=⟨h.dk,h.ext,af9 h.few (by omega),h.Dx,h.kd⟩
theorem Zb:GZ 13 900:=⟨by decide,by decide⟩
theorem GR:bZ 13=1080:=rfl
theorem pU(h:jO n0 W B g pa mb kb E){i:Nat}{t:List Nat}(hb:fT E i t){b0:Nat}{v:Value}{L:List bH}(hC:mg b0 W v L)(hT:zZ E L)(hL:L.length<=80)(hf:bC t.length (-1) L=true)(ht:t.length<=600)(hr:t.length+(cO E t 0 L).length<=720\/t.length+dN E L<=900){k:Nat}(hk:vN 13 L.length<=k)(hE:E.length+k<=1048575):
    Calls Tryz.prog 25 #[.pointer (some ⟨B,0,none⟩),.int .i64 i,v] W λe w'=>∃E' j,e=.returned (.tuple #[vI j,.nilIface])/\mM n0 B g pa mb kb k E E' W w'/\fT E' j (cO E t 0 L):=by
 have hpl:=pO (E:=E) (t:=t) L (-1) 0 hf (by omega) (agb _)
 have hdl:=yF (len:=(t.length:Int)) (by omega) hf
 have hr':t.length+dN E L<=900:=by
  rcases hr with q|q
  .omega
  .exact q
 have hlg:=A8 (E:=E) (t:=t) (by unfold dX;omega) hf (by unfold dX;omega)
 refine(Py Zb h.st h.wf hb hC hT (by omega) (by omega) (by omega) (by omega)).mono ?_
 rintro e w' (⟨q,-⟩|⟨-,E',j,rfl,s',f',x',n',b',bb,kk⟩)
 .rw[hlg]at q;exact absurd rfl q
 .exact⟨E',j,rfl,⟨h.kt' s' f' x' kk bb,x',by omega,bb,.kt kk⟩,b'⟩
theorem WZ{most:Nat}{F:List Sy}(h:gV n0 B most g F E W):E.length<=F.length:=by
 have h1:=Nf (BU h.wf.wf h.nd) h.sub
 rwa [bN]at h1
theorem Uj(h:Wf E):∀y∈syms E,(aV y).length<=1152921504606846976:=λy hy=>by
 obtain⟨i,h0,hi,rfl⟩:=FD hy
 rw[MK h i h0 hi]
 exact(h.get i h0 hi).2.1
end
end M
end
section
open Go.ChangeShapes Go.WideShapes Go.ChangeAt Go.RowKit Go.OpenShut Go.ChangeMaps Go.Deep
namespace M
variable{hd:Bool}{base:Nat}{H:Type}{W:World}
theorem PW:Tryz.prog.cellsOf 146=3:=by kernel_rfl
theorem JR:∃f0 f1 f2:Field,Tryz.prog.underlying 146=some (.struct #[f0,f1,f2])/\(f0.type=3/\f0.offset=0)/\(f1.type=3/\f1.offset=1)/\(f2.type=9/\f2.offset=2):=⟨_,_,_,Tryz.underlying146,⟨rfl,rfl⟩,⟨rfl,rfl⟩,⟨rfl,rfl⟩⟩
theorem cells3{l:List Value}(h:l.length=3):∃a b c,l=[a,b,c]:=by
 match l,h with
 | [a,b,c],_=>exact⟨a,b,c,rfl⟩
theorem add_succ'(b:Addr)(j:Nat):b.add (j+1)=⟨b.block,b.off+(j+1),none⟩:=by unfold Addr.add;simp
theorem add_zero'(b:Addr):b.add 0=b:=by unfold Addr.add;simp
theorem PX{enc:TypeId×Value->H}{sp:Nat->Bool}{n:Nat}{cs:List Value}{x:DataW H×List MemPlace}(h:DataW.trod enc Tryz.prog W base sp hd n 146 cs=some x)(hl:cs.length=3):
    ∃s:zx,cs=[.int .i64 s.pos,.int .i64 s.n,.string s.text]:=by
 obtain⟨f0,f1,f2,hs,⟨t0,o0⟩,⟨t1,o1⟩,⟨t2,o2⟩⟩:=JR
 obtain⟨a,b,c,rfl⟩:=cells3 hl
 obtain⟨xs,m,-,-,-,hx,hf⟩:=DataW.trod_struct hs h
 have hx2:xs.length=3:=hx
 have h0:=hf 0 f0 rfl;have h1:=hf 1 f1 rfl;have h2:=hf 2 f2 rfl
 have eS:Tryz.prog.cellsOf 9=1:=by kernel_rfl
 have eI:Tryz.prog.cellsOf 3=1:=by kernel_rfl
 rw[t0,o0,eI]at h0;rw[t1,o1,eI]at h1;rw[t2,o2,eS]at h2
 simp only[agj,agr,aiH,ah5]at h0 h1 h2
 rw[agt (by omega)]at h0 h1 h2
 obtain⟨y0,g0,-,-⟩:=DataW.trod_int Tryz.underlying3 h0
 obtain⟨y1,g1,-,-⟩:=DataW.trod_int Tryz.underlying3 h1
 obtain⟨y2,g2,-,-⟩:=DataW.trod_string Tryz.underlying9 h2
 simp only[ajG,aht]at g0 g1 g2
 subst g0 g1 g2
 exact⟨⟨y0,y1,y2⟩,rfl⟩
instance:Inhabited zx:=⟨⟨0,0,⟨#[]⟩⟩⟩
theorem Ma{a:Addr}{v:Value}(h:W.cell? a=some v):a.block<W.heap.size:=by
 unfold World.cell? at h
 cases hh:W.heap[a.block]? with
 |none=>rw[hh]at h;cases h
 |some o=>exact(aga.1 hh).1
theorem Mc{enc:TypeId×Value->H}{sp:Nat->Bool}{fuel:Nat}{c0:Value}{x:DataW H×List MemPlace}(hf:DataW.trod enc Tryz.prog W base sp hd fuel 55 [c0]=some x):
    ∃S,qK W c0 S/\∀(a:Addr) n c,c0=.slice (some a) n c->0<n->a.block<W.heap.size:=by
 rcases open_slice Tryz.underlying55 hf with⟨e,-⟩|⟨a,len,cap,m,n,D,Pl,e,-,hl,hm,hmm,-,hi⟩
 .simp only[ajG,aht]at e
  subst e
  exact⟨[],⟨none,0,rfl,by simp,by unfold maxLen;omega,λi h=>by cases h⟩,λa n c h=>by cases h⟩
 .simp only[ajG,aht]at e
  subst e
  have hlm:len<=m:=by rw[hmm];split<;>omega
  have hall:∀i,i<len->∃x:zx,JL W (a.add (i*3)) x:=by
   intro i hil
   obtain⟨cs,hc,ht⟩:=hi i (by omega)
   rw[PW]at hc
   obtain⟨-,hcl,hat⟩:=World.cells?_some hc
   obtain⟨x,rfl⟩:=PX ht hcl
   have q0:=hat 0 (by omega);have q1:=hat 1 (by omega);have q2:=hat 2 (by omega)
   rw[add_succ']at q1 q2
   rw[add_zero']at q0
   exact⟨x,q0,q1,q2⟩
  have hbl:0<len->a.block<W.heap.size:=λh0=>by
   obtain⟨x,q,-⟩:=hall 0 h0
   have:=Ma q
   rwa [add_block]at this
  obtain⟨f,hf⟩:=choose_lt hall
  refine⟨(List.range len).map f,⟨some a,cap,by simp,by simpa using hl,hm,λi hil=>?_⟩,λb n c h h0=>?_⟩
  .have hil':i<len:=by simpa using hil
   refine⟨a,rfl,hbl (by omega),?_⟩
   simp only[aiK,aj3]
   exact hf i hil'
  .simp only[agn,agG]at h
   obtain⟨h1,h2,-⟩:=h
   rw[<-h1]
   exact hbl (by omega)
theorem Dn{enc:TypeId×Value->H}{sp:Nat->Bool}{v:Value}{d:DataW H}{p:List MemPlace}(hv:∃a0 len cap,v=.slice a0 len cap)(h:DataW.Trod enc Tryz.prog W base sp hd 55 v d p):
    ∃S,qK W v S/\∀(a:Addr) n c,v=.slice (some a) n c->0<n->a.block<W.heap.size:=by
 obtain⟨a0,len,cap,rfl⟩:=hv
 obtain⟨fuel,hf⟩:=h
 exact Mc hf
end M
end
section
open Go.RowKit Go.Lib
namespace M
attribute [local go_sem] Oper.semAt_some
variable{B gd mb:Nat}{W:World}
def DkC(W:World)(gd B mb:Nat):Prop:=W.heap[gd]?=some (.cells #[.pointer (some ⟨B,0,none⟩),.pointer (some ⟨mb,0,none⟩)] 57 (0,0))
theorem DkC.cells(h:DkC W gd B mb):W.cell? ⟨gd,0,none⟩=some (.pointer (some ⟨B,0,none⟩))/\W.cell? ⟨gd,1,none⟩=some (.pointer (some ⟨mb,0,none⟩)):=by
 unfold DkC at h;simp[World.cell?,h]
theorem DkC.kd{A C:World}(h:DkC A gd B mb)(hk:Kd A C):DkC C gd B mb:=hk _ (by decide) (by decide) _ _ _ h
theorem NT(h:W.heap[gd]?=some (.cells #[.pointer none,.pointer none] 57 (0,0))):(W.cell? ⟨gd,0,none⟩=some (.pointer none)/\W.cell? ⟨gd,1,none⟩=some (.pointer none))/\W.frozen? ⟨gd,0,none⟩=false/\W.frozen? ⟨gd,1,none⟩=false:=by
 simp[World.cell?,World.frozen?,h]
theorem Zc(w:World)(B mb:Nat):∃wz w2,w.alloc (.cells #[.pointer none,.pointer none] 57)=wz/\(wz.setCell ⟨w.heap.size,0,none⟩ (.pointer (some ⟨B,0,none⟩))).setCell ⟨w.heap.size,1,none⟩ (.pointer (some ⟨mb,0,none⟩))=w2/\DkC w2 w.heap.size B mb/\Below w.heap.size w w2/\
    (wz.cell? ⟨w.heap.size,0,none⟩=some (.pointer none)/\wz.cell? ⟨w.heap.size,1,none⟩=some (.pointer none))/\(wz.frozen? ⟨w.heap.size,0,none⟩=false/\wz.frozen? ⟨w.heap.size,1,none⟩=false):=by
 have k0:(w.alloc (.cells #[.pointer none,.pointer none] 57)).heap[w.heap.size]?=some (.cells #[.pointer none,.pointer none] 57 (0,0)):=aD _ _;have b0:Below w.heap.size w (w.alloc (.cells #[.pointer none,.pointer none] 57)):=(af6 _ _).alloc (af7 _) _;exact⟨_,_,rfl,rfl,aC _ (aC _ k0),(b0.setCell (p:=⟨w.heap.size,0,none⟩) (af7 _) _).setCell (p:=⟨w.heap.size,1,none⟩) (af7 _) _,(NT k0).1,(NT k0).2⟩
theorem JQ(ht:Tab W)(hg0:0<W.heap.size):Calls Tryz.prog 21 #[] W λe w'=>e=.returned (.bool true)/\Below W.heap.size W w':=by
 have HO:=ak (Fa ht hg0);go_enter Tryz.func21,Tryz.ntmps21;go_wp2_with fail
 refine HO.o.mono ?_;rintro e w1 ⟨B,g,pa,mb,kb,rfl,d1,b1⟩;obtain⟨wz,w2,hz,hs,k2,b2,⟨q0,q1⟩,r0,r1⟩:=Zc w1 B mb;obtain⟨gd,hgd⟩:=ay (w1.heap.size);rw[hgd]at hs k2 q0 q1 r0 r1;have vS:aA (∀w,Kd w2 w->w.cell? ⟨gd,0,none⟩=some (.pointer (some ⟨B,0,none⟩))/\w.cell? ⟨gd,1,none⟩=some (.pointer (some ⟨mb,0,none⟩))):=ak λw hw=>(k2.kd hw).cells;have d2:=d1.below b2;have HB2:aA (Below W.heap.size W w2):=ak (Below.after b1 b2);have M_:=ak (L8 d2 ⟨#[97,98,99]⟩ (by decide) (by decide));obtain⟨c0,c1⟩:=vS.o w2 (.of (af6 _ _));go_wp2_with fail
 refine M_.o.mono ?_;rintro e w3 ⟨E3,i3,rfl,d3,x3,n3,b3,z3,bb3,k3⟩;have qH:aA (Kd w2 w3):=ak (.kt k3);have HB3:=ak b3;obtain⟨c0,c1⟩:=vS.o w3 qH.o;obtain⟨w4,hw4⟩:=ay (w3.alloc (.cells #[.int .i64 1,.int .i64 1,.string ⟨#[120]⟩] 146));have h4:w4.heap[w3.heap.size]?=some (.cells #[.int .i64 1,.int .i64 1,.string ⟨#[120]⟩] 146 (0,0)):=by rw[<-hw4];exact aD _ _
 have b4:Below w3.heap.size w3 w4:=by rw[<-hw4];exact(af6 _ _).alloc (af7 _) _
 have hrow:qK w4 (.slice (some ⟨w3.heap.size,0,none⟩) 1 1) [⟨1,1,⟨#[120]⟩⟩]:=⟨some ⟨w3.heap.size,0,none⟩,1,rfl,af7 _,by unfold maxLen;decide,λi hi=>by
  obtain rfl:i=0:=by simpa using hi
  refine⟨_,rfl,(aga.1 h4).1,?_⟩;refine⟨?_,?_,?_⟩<;>simp[World.cell?,Addr.add,h4]⟩
 have d4:=d3.below b4;have HP:=ak (zB d4 ⟨#[97,98,99]⟩ (by decide) hrow (λa n c h _=> .inr (by
  simp only[agn,agG]at h;rw[<-h.1];exact⟨_,_,h4⟩)) (by
  have:E3.length<=0+2*3:=n3;omega))
 have WY:aA (E3.length<=6):=ak n3;have uF:aA (Kd w2 w4):=ak (qH.o.trans (.of b4));have cB:aA (Below W.heap.size W w4):=ak ((HB2.o.trans bb3).trans (b4.mono d3.st.lt));go_wp2_with fail
 refine HP.o.mono ?_;rintro e w5 ⟨E5,L,v5,m,rfl,d5,x5,n5,c5,mt5,zR,MQ,k5⟩;have abu:yg (⟨#[97,98,99]⟩:ByteArray).size [⟨1,1,⟨#[120]⟩⟩] 0 0=[(1,1,⟨#[120]⟩)]:=rfl;rw[abu]at zR;obtain rfl:m=⟨#[97,120,99]⟩:=NQ (zR.trans rfl);have hsm:=mt5.small (by unfold dX;decide);rw[abu]at mt5;have hpat:cO E5 [97,98,99] 0 L=[97,120,99]:=mt5.pat.trans rfl;have hLl:L.length=1:=mt5.len;have hb5:fT E5 i3 [97,98,99]:=HB3.o.ext x5;have HN5:aA (E5.length<=486):=ak (by have:=WY.o;omega);have HA:=ak (pU d5 hb5 c5 mt5.2.1 (by omega) hsm.form (by decide) (.inl (by rw[hpat];decide)) (k:=vN 13 1) (by rw[hLl];exact af7 _) (by
  have:=HN5.o;have e:vN 13 1=3360:=rfl;omega))
 rw[hpat]at HA;have uJ:aA (Kd w2 w5):=ak (uF.o.trans (.kt k5));have mG:aA (Below W.heap.size W w5):=ak (cB.o.trans MQ);obtain⟨c0,c1⟩:=vS.o w5 uJ.o;obtain⟨va,vn,vc,rfl⟩:∃va vn vc,v5=.slice va vn vc:=by
  obtain⟨a,b,c⟩:=c5.len;exact⟨a,_,b,c⟩
 go_wp2_with fail
 refine HA.o.mono ?_;rintro e w6 ⟨E6,j6,rfl,s6,b6⟩;have HTX:=ak (JK s6.dk b6.le (by rw[b6.txt];decide) (by
  have:=s6.few;have:=HN5.o;have e:vN 13 1=3360:=rfl;omega))
 rw[b6.txt]at HTX;have Sj:aA (Kd w2 w6):=ak (uJ.o.trans s6.kd);have zH:aA (Below W.heap.size W w6):=ak (mG.o.trans s6.Dx);have hstr:GN [97,120,99]=⟨#[97,120,99]⟩:=rfl;rw[hstr]at HTX;obtain⟨c0,c1⟩:=vS.o w6 Sj.o;have iI:aA (W.heap.size<=w6.heap.size):=ak s6.dk.st.lt;go_wp2_with fail
 refine HTX.o.mono ?_;rintro e w7 ⟨rfl,b7⟩;have Vu:aA (Below W.heap.size W w7):=ak (zH.o.trans (b7.mono iI.o));go_wp2_with fail
 exact af_ (v:=.bool true) (by simp[results,Tryz.results21,go_sem]) rfl ⟨rfl,Vu.o⟩
end M
end
section
open Go.ChangeShapes Go.WideShapes Go.RowKit
namespace M
def JU:List (String×DataW Unit):=[("math/bits.deBruijn64tab",Rows.laid_math_bits_deBruijn64tab)]
theorem gT:Tryz.prog.globalNamed "math/bits.deBruijn64tab" =some 0:=by kernel_rfl
theorem abv:(Tryz.prog.globals[0]?).map (·.type)=some 339:=by kernel_rfl
theorem Xh:Tryz.prog.cellsOf 5=1:=by kernel_rfl
theorem abw:Tryz.prog.cellsOf 339=64:=by kernel_rfl
theorem JV{W:World}(h:laidMetH Tryz.prog JU W):Tab W:=by
 have h':laidMet Tryz.prog (("math/bits.deBruijn64tab",Lib.tabData .u8 (Lib.deBruijn64tab.map λn:Nat=>(n:Int)))::[]) W:=h;have ht:=Lib.tabIs_of_head gT abv Tryz.underlying339 Tryz.underlying5 Xh abw h';intro j hj;have:=ht.cell gT j (by rw[agM];exact hj);rw[this];have hl:j<Lib.deBruijn64tab.length:=hj;rw[ah8,ah8,ahg,agt hl];rfl
noncomputable def Fb(os:Os):World:=
 let w0:=World.holding Tryz.prog os ⟨#[],#[],[]⟩
 { w0 with heap:=w0.heap.modify 0 fun
     | .cells _ t frozen=> .cells (Lib.deBruijn64tab.map λn:Nat=>Value.int .u8 (n:Int)).toArray t frozen
     |o=>o }
theorem D7(os:Os)(args:Array Value):laidMetH Tryz.prog JU ((Fb os).forCall (λ_ _=>0) ⟨#[],args,[]⟩).memory:=
 laidMetH_of_parts (laidMet_of_run' 8 (by kernel_rfl) (by kernel_rfl)) (by kernel_rfl)
end M
end
end Go.Proofs.YtgbhohfabhilgaaGreatDoor
