import Derived.Test.YtgbhohfabhilgaaGreatDoorMrg02
set_option maxRecDepth 100000
set_option maxHeartbeats 8000000
set_option linter.unusedVariables false
set_option linter.unusedSimpArgs false
namespace Go.Proofs.YtgbhohfabhilgaaGreatDoor
open Go.RowKit Go.Lib
namespace M
attribute [local go_sem] Oper.semAt_some
section
variable {n0 B g pa mb kb K:Nat} {E E1:List En} {W:World} {t:List Nat} {X:List (Nat×Grp)} {V:List (Nat×Nat)}
variable{p q:List bH}{bl bp bq i j m zg:Nat}{gv vp vq:Value}
theorem fin_at{xn:Nat}{g9:Option Addr}{c5:Nat}{wr:World}(hp:Pts bl wr (.slice g9 xn c5) (X.map (·.1)))(hf:abZ E t E1 wr X V)(hj:j<X.length)(hjv:j<V.length):∃g6 vl vr,g9=some ⟨g6,0,none⟩/\wr.cell? ⟨g6,j,none⟩=some (.pointer (some ⟨X[j].1,0,none⟩))/\GpC wr X[j].1 vl vr X[j].2 V[j].1 V[j].2 (cfl E t X[j].2)/\∃a c,vl=.slice a X[j].2.l.length c:=by
 obtain⟨g6,c6,hv6,z0⟩:=abN hp (i:=j) (by rw[agM];exact hj)
 rw[aiK]at z0
 simp only[agn]at hv6
 obtain⟨vl,vr,k1,hvl,-,-⟩:=hf.2 j hj hjv
 exact⟨g6,vl,vr,hv6.1,z0,k1,hvl⟩
def ClP(n0 B g pa mb kb K:Nat)(E:List En)(W:World)(t:List Nat)(p q:List bH)(e:Ending)(w':World):Prop:=
 ∃E',e=.returned (.tuple #[.bool (decide (aaq E t (aae p q)=[])),.nilIface])/\mM n0 B g pa mb kb K E E' W w'
theorem afm(hD:jO n0 W B g pa mb kb E)(hb:fT E i t)(hp:aaN E W bp vp t p)(hq:aaN E W bq vq t q)(ht:t.length<=120)(hE:E.length+74500<=1048575):
    Calls Tryz.prog 31 #[.pointer (some ⟨mb,0,none⟩),.int .i64 i,vp,vq] W (ClP n0 B g pa mb kb 74500 E W t p q):=by
 have HF:∀f,Fence.wide.fn f:=λ_=>trivial
 have HM:=ak (abP hD hb hp hq ht hE)
 clear hD hb hp hq ht hE
 go_enter Tryz.func31,Tryz.ntmps31
 go_wp2_with fail
 refine HM.o.mono ?_
 rintro e w1 ⟨E1,gv,X,V,rfl,hdk,abo,hXd,hfin,aa6,alk⟩
 obtain⟨g5,c5,hgv⟩:=abo.len
 obtain⟨xn,hxn⟩:=ay (X.length)
 rw[agM,hxn]at hgv
 subst hgv
 have HXN:=ak (And.intro hxn (And.intro hXd (And.intro aa6 (And.intro hdk (And.intro abo hfin)))))
 clear hdk abo hXd hfin aa6 alk hxn HM
 go_wp2_with fail
 go_loop [27] (λjv=>∃j:Nat,jv=.int .i64 (j:Nat)/\j<=xn/\aaq E t ((X.take j).map (·.2))=[]) (λjv=>xn-(intOf jv).toNat)
 case atStart=>exact⟨0,rfl,agb _,rfl⟩
 case round=>
  obtain⟨j,rfl,hj,hc⟩:=hrel
  by_cases hlt:j<xn
  rotate_left
  .obtain rfl:j=xn:=by omega
   have HR:aA (ClP n0 B g pa mb kb 74500 E W t p q (.returned (.tuple #[.bool true,.nilIface])) w1):=ak
    ⟨E1,by rw[<-HXN.o.2.1];rw[agI (by rw[HXN.o.1];exact af7 _)]at hc;rw[agw hc],HXN.o.2.2.2.1⟩
   clear hc
   go_wp2_with fail
   exact af_ (v:=.tuple #[.bool true,.nilIface]) (by simp[results,Tryz.results31,go_sem]) rfl HR.o
  have hjx:j<X.length:=by rw[HXN.o.1];exact hlt
  have hjv:j<V.length:=by rw[<-HXN.o.2.2.2.2.2.1];exact hjx
  obtain⟨g6,vl,vr,rfl,z0,k1,-⟩:=fin_at HXN.o.2.2.2.2.1 HXN.o.2.2.2.2.2 hjx hjv
  have hsn:=aal hjx
  have hmem:X[j].2∈X.map (·.2):=agz.2 ⟨_,ag0 hjx,rfl⟩
  generalize X[j]=x at *
  generalize V[j]=v at *
  have hwj:IntKind.i64.wrap ((j:Int)+1)=((j+1:Nat):Int):=by rw[agd];have:=HXN.o.2.2.1;have:=HXN.o.1;omega
  have hlt1:(j:Int)<(xn:Int):=by omega
  have ady:(0:Int)<=(j:Int):=by omega
  obtain⟨-,-,-,-,-,-,x6,-⟩:=k1.cells
  have HH:=ak (And.intro hc (And.intro hsn (And.intro hmem hlt)))
  clear hc hsn hmem k1 hjx hjv hlt hj
  cases hcf:cfl E t x.2 with
  |true=>
   rw[hcf]at x6
   have HR:aA (ClP n0 B g pa mb kb 74500 E W t p q (.returned (.tuple #[.bool false,.nilIface])) w1):=ak
    ⟨E1,by
     rw[<-HXN.o.2.1,agD (λe=>by
      have:x.2∈aaq E t (X.map (·.2)):=ahB.2 ⟨HH.o.2.2.1,hcf⟩
      rw[e]at this;simp at this)],HXN.o.2.2.2.1⟩
   clear hcf
   go_wp2_with fail
   exact af_ (v:=.tuple #[.bool false,.nilIface]) (by simp[results,Tryz.results31,go_sem]) rfl HR.o
  |false=>
   rw[hcf]at x6
   have HC:aA (aaq E t ((X.take (j+1)).map (·.2))=[]):=ak (by rw[HH.o.2.1,aa2,HH.o.1,hcf];rfl)
   clear hcf
   go_wp2_with fail
   go_round
   case rel=>exact⟨j+1,rfl,HH.o.2.2.2,HC.o⟩
   case measure=>have:=HH.o.2.2.2;simp[intOf];omega
theorem adA{mc:Nat}(hp:Pts bl W gv (X.map (·.1)))(hf:abZ E t E1 W X V)(hz:∀w,Below W.heap.size W w->∀i,i<m->w.cell? ⟨zg,i,none⟩=some (.int .i64 0))(hm:(aaq E t (X.map (·.2))).length=m)(hx:X.length<=1000):
    Calls Tryz.prog 80 #[.pointer (some ⟨B,0,none⟩),gv,.slice (some ⟨zg,0,none⟩) m mc] W λe w'=>e=.returned .nilIface/\Below W.heap.size W w':=by
 have HF:∀f,Fence.wide.fn f:=λ_=>trivial
 obtain⟨g5,c5,hgv⟩:=hp.len
 obtain⟨xn,hxn⟩:=ay (X.length)
 rw[agM,hxn]at hgv
 subst hgv
 have alm:m<=1000:=by rw[<-hm];exact af9 (aiX _ _) (by rw[agM];exact hx)
 have HX:=ak (And.intro hxn (And.intro hx (And.intro hp (And.intro hf (And.intro hm alm)))))
 have HZ:=ak hz
 clear hp hf hz hm hx hxn alm
 go_enter Tryz.func80,Tryz.ntmps80
 go_wp2_with fail
 go_loopw [7,21] (λcv jv wr=>∃(j:Nat) (Cs:List Nat),jv=.int .i64 (j:Nat)/\j<=xn/\Pts W.heap.size wr cv Cs/\Cs.length=(aaq E t ((X.take j).map (·.2))).length/\Below W.heap.size W wr) (λ_ jv _=>xn-(intOf jv).toNat)
 case atStart=>exact⟨0,[],rfl,agb _,aP.nil _ _ _ _ _,rfl,af6 _ _⟩
 case round=>
  obtain⟨j,Cs,rfl,hj,hC,hl,hB⟩:=hrel
  obtain⟨ca,cc,hcv⟩:=hC.len
  obtain⟨cn,hcn⟩:=ay (Cs.length)
  rw[hcn]at hcv
  subst hcv
  by_cases hlt:j<xn
  rotate_left
  .obtain rfl:j=xn:=by omega
   rw[agI (by rw[HX.o.1];exact af7 _),HX.o.2.2.2.2.1,hcn]at hl
   subst hl
   have HS:=ak (And.intro hC (And.intro hcn hB))
   clear hC hcn hB
   go_wp2_with fail
   go_loop [42] (λjv=>∃j:Nat,jv=.int .i64 (j:Nat)/\j<=cn) (λjv=>cn-(intOf jv).toNat)
   case atStart=>exact⟨0,rfl,agb _⟩
   case round=>
    obtain⟨k,rfl,hk⟩:=hrel
    by_cases hlt:k<cn
    .have z0:=HZ.o wr HS.o.2.2 k hlt
     have hlt1:(k:Int)<(cn:Int):=by omega
     have ady:(0:Int)<=(k:Int):=by omega
     have hwj:IntKind.i64.wrap ((k:Int)+1)=((k+1:Nat):Int):=by rw[agd];have:=HX.o.2.2.2.2.2;omega
     have HL:=ak hlt
     clear hlt hk
     go_wp2_with fail
     go_round
     case rel=>exact⟨k+1,rfl,HL.o⟩
     case measure=>have:=HL.o;simp[intOf];omega
    .obtain rfl:k=cn:=by omega
     go_wp2_with fail
     go_loop [56] (λjv=>∃j:Nat,jv=.int .i64 (j:Nat)/\j<=k) (λjv=>k-(intOf jv).toNat)
     case atStart=>exact⟨0,rfl,agb _⟩
     case round=>
      obtain⟨i,rfl,hi⟩:=hrel
      by_cases hlt:i<k
      .have z0:=HZ.o wr HS.o.2.2 i hlt
       obtain⟨g6,c6,hv6,y0⟩:=abN HS.o.1 (i:=i) (by rw[HS.o.2.1];exact hlt)
       simp only[agn]at hv6
       obtain⟨rfl,-,rfl⟩:=hv6
       have hlt1:(i:Int)<(k:Int):=by omega
       have ady:(0:Int)<=(i:Int):=by omega
       have hwj:IntKind.i64.wrap ((i:Int)+1)=((i+1:Nat):Int):=by rw[agd];have:=HX.o.2.2.2.2.2;omega
       have HL:=ak hlt
       clear hi
       go_wp2_with fail
       go_round
       case rel=>exact⟨i+1,rfl,HL.o⟩
       case measure=>have:=HL.o;simp[intOf];omega
      .obtain rfl:i=k:=by omega
       go_wp2_with fail
       go_ret
       exact⟨rfl,HS.o.2.2⟩
  have hjx:j<X.length:=by rw[HX.o.1];exact hlt
  have hjv:j<V.length:=by rw[<-HX.o.2.2.2.1.1];exact hjx
  have hf2:abZ E t E1 wr X V:=HX.o.2.2.2.1.keep (Ext.refl _) (X:=λ_=>False) (.of (.of hB)) (λ_ _ q=>q)
  obtain⟨g6,vl,vr,rfl,z0,k1,-⟩:=fin_at (HX.o.2.2.1.below hB) hf2 hjx hjv
  have hsn:=aal hjx
  generalize X[j]=x at *
  generalize V[j]=v at *
  have hwj:IntKind.i64.wrap ((j:Int)+1)=((j+1:Nat):Int):=by rw[agd];have:=HX.o.2.1;have:=HX.o.1;omega
  have hlt1:(j:Int)<(xn:Int):=by omega
  have ady:(0:Int)<=(j:Int):=by omega
  obtain⟨-,-,-,-,-,-,x6,-⟩:=k1.cells
  have HH:=ak (And.intro hC (And.intro hl (And.intro hB (And.intro hsn (And.intro hlt hcn)))))
  have hcb:cn<=1000:=by rw[<-hcn,hl];exact af9 (aiX _ _) (by rw[agM,agB];have:=HX.o.2.1;omega)
  have hbs:=hB.size
  clear hC hl hB hsn k1 hf2 hjx hjv hlt hj hcn
  cases hcf:cfl E t x.2 with
  |true=>
   rw[hcf]at x6
   have HCF:=ak hcf
   clear hcf
   go_wp2_with (first
    | (at_builtin;refine bP (v:=.slice ca cn cc) ala abY rfl _ _ rfl rfl HH.o.1 x.1 rfl rfl ?c1 ?c2 hbs ?_))
   case c1=>simp[acJ,Value.oneCell']
   case c2=>rw[HH.o.2.2.2.2.2];omega
   intro v5 w5 hS5 hg5 hb5
   have HN:aA (Pts W.heap.size w5 v5 (Cs++[x.1])/\(Cs++[x.1]).length=(aaq E t ((X.take (j+1)).map (·.2))).length/\Below W.heap.size W w5):=ak ⟨hS5,by rw[HH.o.2.2.2.1,aa2,HCF.o,af8,af8,HH.o.2.1];rfl,HH.o.2.2.1.trans hb5⟩
   clear hS5 hg5 hb5
   go_wp2_with fail
   go_roundw
   case rel=>exact⟨j+1,_,rfl,HH.o.2.2.2.2.1,HN.o⟩
   case measure=>have:=HH.o.2.2.2.2.1;simp[intOf];omega
  |false=>
   rw[hcf]at x6
   have HC:aA (Cs.length=(aaq E t ((X.take (j+1)).map (·.2))).length):=ak (by rw[HH.o.2.2.2.1,aa2,hcf,HH.o.2.1];simp)
   clear hcf
   go_wp2_with fail
   go_roundw
   case rel=>exact⟨j+1,Cs,rfl,HH.o.2.2.2.2.1,HH.o.1,HC.o,HH.o.2.2.1⟩
   case measure=>have:=HH.o.2.2.2.2.1;simp[intOf];omega
theorem alQ(zg k n:Nat):(∀w,(Instr.slice 23 (.slice (some ⟨zg,k,none⟩) (n+1) (n+1)) (some (.int .i64 1)) none none).run Tryz.prog w=.ok (.slice (if n=0 then some ⟨zg,k,none⟩else some ⟨zg,k+1,none⟩) n n) w):=λw=>by
 have hs:∀w,(sizeOf (Tryz.prog.elem 23)).run Tryz.prog w=.ok 1 w:=λw=>by kernel_rfl
 have:=run_slice_l (P:=Tryz.prog) w 23 (some ⟨zg,k,none⟩) (n+1) (n+1) (by kernel_rfl) .i64 1 (by omega) (by omega)
 rw[this,hs]
 by_cases h0:n=0
 .subst h0;simp[Result.andThen,sliced]
 .have h1:¬n+1=1:=by omega
  simp[Result.andThen,sliced,h0,Addr.add]
structure RsI(n0 B g pa mb kb K:Nat)(E E1:List En)(W:World)(t:List Nat)(X:List (Nat×Grp))(V:List (Nat×Nat))(gv:Value)(j:Nat)(Mg:List bH)(vm:Value)(w:World):Prop where
 oDk:mM n0 B g pa mb kb K E E1 W w
 oMg:mg W.heap.size w vm Mg
 oKm:Mg.map (aas E1)=(aax E t ((X.take j).map (·.2))).map (aaW E t)
 oTm:zZ E1 Mg
 abJ:abZ E t E1 w X V
 ade:Pts W.heap.size w gv (X.map (·.1))
 oNm:Mg.length<=j
theorem RsI.below{gv:Value}{j:Nat}{Mg:List bH}{vm:Value}{w w2:World}(h:RsI n0 B g pa mb kb K E E1 W t X V gv j Mg vm w)(hb:Below w.heap.size w w2):RsI n0 B g pa mb kb K E E1 W t X V gv j Mg vm w2:=
 ⟨(h.oDk.trans (.of h.oDk.dk hb)).mono (by omega),h.oMg.below hb,h.oKm,h.oTm,h.abJ.keep (Ext.refl _) (X:=λ_=>False) (.of (.of hb)) (λ_ _ q=>q),h.ade.below hb,h.oNm⟩
theorem RsI.more{Mg:List bH}{vm:Value}{w w2:World}{v2:Value}(h:RsI n0 B g pa mb kb K E E1 W t X V gv j Mg vm w)(hj:j<X.length){v:Nat×Nat}(hf:adb E t E1 w X[j] v)(hc:cfl E t X[j].2=false)(hS:mg W.heap.size w2 v2 (Mg++[⟨X[j].2.pos,X[j].2.en-X[j].2.pos,if X[j].2.l=[]then v.2 else v.1⟩])){cs:Array Value}(hg:(w.alloc (.cells cs 107)).grownBy w2 vm.ownBlock)(hb:Below W.heap.size w w2)(hlo:n0<=W.heap.size):
    RsI n0 B g pa mb kb K E E1 W t X V gv (j+1) (Mg++[⟨X[j].2.pos,X[j].2.en-X[j].2.pos,if X[j].2.l=[]then v.2 else v.1⟩]) v2 w2:=by
 have uo:=alj hf
 have hK:Kd W w2:=λt' a b k cs' fz e=>Kx.app hg t' a b k (λq=>by have:=(aP.blk h.oMg q).1;have:=(aga.1 e).1;omega) cs' fz (h.oDk.kd t' a b k cs' fz e)
 refine⟨⟨h.oDk.dk.app h.oMg hg (by decide) hlo,h.oDk.ext,h.oDk.few,h.oDk.Dx.trans (hb.mono hlo),hK⟩,hS,?_,?_,⟨h.abJ.1,λi h1 h2=>?_⟩,aP.ap2 h.ade h.oMg hg (by decide),by have:=h.oNm;rw[af8];simp;omega⟩
 .rw[aal hj,abT,af4 (c:=cfl E t X[j].2=true) (by rw[hc];simp),ag2,ag2,h.oKm]
  congr 1
  show[aas E1 _]=[aaW E t _]
  unfold aas aaW
  rw[uo.txt]
 .intro c hc
  rcases ags.1 hc with q|q
  .exact h.oTm c q
  .simp only[agl]at q;subst q;exact⟨uo.le,uo.even⟩
 .obtain⟨vl,vr,k1,k2⟩:=h.abJ.2 i h1 h2
  exact⟨vl,vr,aah k1 h.oMg hg (by decide),k2⟩
def RvP(n0 B g pa mb kb K:Nat)(E:List En)(W:World)(t:List Nat)(p q:List bH)(e:Ending)(w':World):Prop:=
 ∃E' vm Mg,e=.returned (.tuple #[vm,.nilIface])/\mM n0 B g pa mb kb K E E' W w'/\mg W.heap.size w' vm Mg/\Mg.map (aas E')=(aax E t (aae p q)).map (aaW E t)/\zZ E' Mg
theorem aln(E:List En)(t:List Nat)(X:List (Nat×Grp))(j:Nat):(aaq E t ((X.take j).map (·.2))).length<=(aaq E t (X.map (·.2))).length:=by
 unfold aaq
 exact List.Sublist.length_le (List.Sublist.filter _ (List.Sublist.map _ (List.take_sublist _ _)))
theorem adi(hD:jO n0 W B g pa mb kb E)(hb:fT E i t)(hp:aaN E W bp vp t p)(hq:aaN E W bq vq t q)(ht:t.length<=120)(hE:E.length+74500<=1048575)(hz:∀w,Kd W w->∀i,i<m->w.cell? ⟨zg,i,none⟩=some (.int .i64 0))(hm:(aaq E t (aae p q)).length=m):
    Calls Tryz.prog 33 #[.pointer (some ⟨mb,0,none⟩),.int .i64 i,vp,vq,.slice (some ⟨zg,0,none⟩) m m] W (RvP n0 B g pa mb kb 74500 E W t p q):=by
 have HF:∀f,Fence.wide.fn f:=λ_=>trivial
 have HM:=ak (abP hD hb hp hq ht hE)
 have eG:=ak hD.st.lt
 have HZ:=ak hz
 have SN:aA (∀y∈aae p q,0<=y.pos/\y.pos<=y.en/\y.en<=120):=ak λy hy=>by
  have h:=aaR (abM hp.form hq.form) y hy
  exact⟨h.lo,h.le,by have:=h.hi;omega⟩
 have tJ:=ak hm
 clear hD hb hp hq ht hE hz hm
 go_enter Tryz.func33,Tryz.ntmps33
 go_wp2_with fail
 refine HM.o.mono ?_
 rintro e w1 ⟨E1,gv,X,V,rfl,hdk,abo,hXd,hfin,aa6,alk⟩
 obtain⟨g5,c5,hgv⟩:=abo.len
 obtain⟨xn,hxn⟩:=ay (X.length)
 rw[agM,hxn]at hgv
 subst hgv
 have HP:=ak (aaZ hdk.dk)
 have HS:=ak (abt hdk.dk)
 have HCH:aA (Calls Tryz.prog 80 #[.pointer (some ⟨B,0,none⟩),.slice g5 xn c5,.slice (some ⟨zg,0,none⟩) m m] w1 λe w'=>e=.returned .nilIface/\Below w1.heap.size w1 w'):=ak
  (adA abo hfin (λw hw=>HZ.o w (hdk.kd.trans (.of hw))) (by rw[hXd];exact tJ.o) aa6)
 have HI0:aA (∀w,Below w1.heap.size w1 w->RsI n0 B g pa mb kb 74500 E E1 W t X V (.slice g5 xn c5) 0 [] (.slice none 0 0) w):=ak λw hw=>
  RsI.below ⟨hdk,aP.nil _ _ _ _ _,rfl,λc hc=>by simp at hc,hfin,abo,af7 _⟩ hw
 have HXN:=ak (And.intro hxn (And.intro hXd aa6))
 clear hdk abo hXd hfin aa6 alk hxn HM
 go_wp2_with fail
 refine HP.o.mono ?_;rintro e w' ⟨rfl,hw⟩;rw[hw];clear hw w'
 go_wp2_with fail
 refine HS.o.mono ?_;rintro e w' ⟨rfl,hw⟩;rw[hw];clear hw w'
 go_wp2_with fail
 refine HCH.o.mono ?_
 rintro e w2 ⟨rfl,b2⟩
 have HI1:=ak (HI0.o w2 b2)
 clear b2
 go_wp2_with fail
 go_loopw [4,16,44] (λzv vm jv wr=>∃j Mg k az,jv=.int .i64 (j:Nat)/\j<=xn/\RsI n0 B g pa mb kb 74500 E E1 W t X V (.slice g5 xn c5) j Mg vm wr/\k=(aaq E t ((X.take j).map (·.2))).length/\zv=.slice az (m-k) (m-k)/\(k<m->az=some ⟨zg,k,none⟩)) (λ_ _ jv _=>xn-(intOf jv).toNat)
 case atStart=>exact⟨0,[],0,_,rfl,agb _,HI1.o,rfl,rfl,λ_=>rfl⟩
 case round=>
  clear HI0 HI1
  obtain⟨j,Mg,k,az,rfl,hj,hI,hk,rfl,haz⟩:=hrel
  obtain⟨am,cm,hvm⟩:=hI.oMg.len
  obtain⟨nm,hnm⟩:=ay (Mg.length)
  rw[hnm]at hvm
  subst hvm
  by_cases hlt:j<xn
  rotate_left
  .obtain rfl:j=xn:=by omega
   have HR:aA (RvP n0 B g pa mb kb 74500 E W t p q (.returned (.tuple #[.slice am nm cm,.nilIface])) wr):=ak
    ⟨E1,_,Mg,rfl,hI.oDk,hI.oMg,by rw[hI.oKm,agI (by rw[HXN.o.1];exact af7 _),HXN.o.2.1],hI.oTm⟩
   clear hI
   go_wp2_with fail
   exact af_ (v:=.tuple #[.slice am nm cm,.nilIface]) (by simp[results,Tryz.results33,go_sem]) rfl HR.o
  have hjx:j<X.length:=by rw[HXN.o.1];exact hlt
  have hjv:j<V.length:=by rw[<-hI.abJ.1];exact hjx
  obtain⟨g6,vl,vr,rfl,z0,k1,hvl⟩:=fin_at hI.ade hI.abJ hjx hjv
  have HMO:aA (∀{w w2:World} {v2:Value} {cs:Array Value},RsI n0 B g pa mb kb 74500 E E1 W t X V (.slice (some ⟨g6,0,none⟩) xn c5) j Mg (.slice am nm cm) w->cfl E t X[j].2=false->mg W.heap.size w2 v2 (Mg++[⟨X[j].2.pos,X[j].2.en-X[j].2.pos,if X[j].2.l=[]then V[j].2 else V[j].1⟩])->(w.alloc (.cells cs 107)).grownBy w2 (Value.slice am nm cm).ownBlock->Below W.heap.size w w2->RsI n0 B g pa mb kb 74500 E E1 W t X V (.slice (some ⟨g6,0,none⟩) xn c5) (j+1) (Mg++[⟨X[j].2.pos,X[j].2.en-X[j].2.pos,if X[j].2.l=[]then V[j].2 else V[j].1⟩]) v2 w2):=ak λh hc hS hg hb=>h.more hjx (h.abJ.2 j hjx hjv) hc hS hg hb eG.o
  have hsn:=aal hjx
  have htk:=aln E t X (j+1)
  have hkm:=abT E t ((X.take j).map (·.2)) X[j].2
  have hgo:=SN.o X[j].2 (by rw[<-HXN.o.2.1];exact agz.2 ⟨_,ag0 hjx,rfl⟩)
  generalize X[j]=x at *
  generalize V[j]=v at *
  rw[hsn,aa2,af8,<-hk,HXN.o.2.1,tJ.o]at htk
  have hws:IntKind.i64.wrap (x.2.en-x.2.pos)=x.2.en-x.2.pos:=by rw[agd];omega
  have hwj:IntKind.i64.wrap ((j:Int)+1)=((j+1:Nat):Int):=by rw[agd];have:=HXN.o.2.2;have:=HXN.o.1;omega
  have hlt1:(j:Int)<(xn:Int):=by omega
  have ady:(0:Int)<=(j:Int):=by omega
  obtain⟨-,-,-,-,-,-,x6,-⟩:=k1.cells
  have HTX:=ak (acQ k1 hvl)
  have hlo:W.heap.size<=wr.heap.size:=hI.oDk.Dx.size
  have HI:=ak hI;have OO:=ak hlo
  generalize hid:(if x.2.l=[]then v.2 else v.1)=id at *
  cases hcf:cfl E t x.2 with
  |true=>
   rw[hcf]at x6 htk
   have hkl:k<m:=by simp at htk;omega
   obtain rfl:=haz hkl
   obtain⟨n,hn⟩:∃n,m-k=n+1:=⟨m-k-1,by omega⟩
   rw[hn]
   have hsl:=alQ zg k n
   have c0:=HZ.o wr hI.oDk.kd k hkl
   have HN:aA (RsI n0 B g pa mb kb 74500 E E1 W t X V (.slice (some ⟨g6,0,none⟩) xn c5) (j+1) Mg (.slice am nm cm) wr/\k+1=(aaq E t ((X.take (j+1)).map (·.2))).length):=ak
    ⟨⟨hI.oDk,hI.oMg,by rw[hsn,hkm,hcf,af5 rfl,agi];exact hI.oKm,hI.oTm,hI.abJ,hI.ade,by have:=hI.oNm;omega⟩,by rw[hsn,aa2,hcf,af5 rfl,af8,<-hk];rfl⟩
   obtain⟨az,alR⟩:∃a:Option Addr,(if n=0 then some ⟨zg,k,none⟩else some ⟨zg,k+1,none⟩)=a:=⟨_,rfl⟩
   rw[alR]at hsl
   have HAZ:aA (j<xn/\m-(k+1)=n/\(k+1<m->az=some ⟨zg,k+1,none⟩)):=ak ⟨hlt,by omega,λh=>by rw[<-alR,af4 (by omega)]⟩
   clear hI hk haz hnm hlt hjx hjv k1 hvl hsn htk hkm hgo hcf hkl alR hj hid
   go_wp2_with fail
   refine HTX.o.mono ?_;rintro e w' ⟨rfl,hw⟩;rw[hw];clear hw w'
   go_wp2_with fail
   go_roundw
   case rel=>exact⟨j+1,Mg,k+1,az,rfl,HAZ.o.1,HN.o.1,HN.o.2,by rw[HAZ.o.2.1],HAZ.o.2.2⟩
   case measure=>have:=HAZ.o.1;simp[intOf];omega
  |false=>
   rw[hcf]at x6 k1
   have HKK:aA (k=(aaq E t ((X.take (j+1)).map (·.2))).length):=ak (by rw[hsn,aa2,hcf,af8,<-hk];rfl)
   have HAZ:=ak (And.intro hlt haz);have HK:=ak k1;have HCF:=ak hcf
   clear hI hk haz hnm hlt hjx hjv k1 hvl hsn htk hkm hgo hcf hj
   go_wp2_with fail
   refine HTX.o.mono ?_;rintro e w' ⟨rfl,hw⟩;rw[hw];clear hw w'
   go_wp2_with fail
   clear z0 x6
   refine aU (λw=>GpC w x.1 vl vr x.2 v.1 v.2 false) ?_
   have S0:GpC wr.drew x.1 vl vr x.2 v.1 v.2 false:=au (af6 _ _).drew HK.o
   have HIQ:=ak (HI.o.below (af6 _ _).drew)
   have HKQ:=ak S0
   have I5:aA (Below wr.heap.size wr wr.drew):=ak (af6 _ _).drew
   generalize wr.drew=wq at *
   have m2:∀w,GpC w x.1 vl vr x.2 v.1 v.2 false->w.cell? ⟨x.1,2,none⟩=some (.int .i64 x.2.pos):=λw hw=>hw.cells.2.2.1
   have m3:∀w,GpC w x.1 vl vr x.2 v.1 v.2 false->w.cell? ⟨x.1,3,none⟩=some (.int .i64 x.2.en):=λw hw=>hw.cells.2.2.2.1
   refine bJ 0 1 2 3 4 5 ?_
   refine bJ 6 7 8 9 10 11 ?_
   refine tk4 12 13 14 15 ?_
   refine aT 16 λK hK=>?_
   go_simp
   have qI:GpC (wq.alloc (.cells #[.int .i64 x.2.pos,.int .i64 (x.2.en-x.2.pos),.int .i64 id] 107)) x.1 vl vr x.2 v.1 v.2 false:=au ((af6 _ _).alloc (af7 _) _) HKQ.o
   refine hK _ _ qI ?_
   clear hK K qI
   obtain⟨v2,w6,hrun,hS2,hgr,hb6,-⟩:=eB vg iV 62 HIQ.o.oMg ⟨x.2.pos,x.2.en-x.2.pos,id⟩ 1 (cs:=#[.int .i64 x.2.pos,.int .i64 (x.2.en-x.2.pos),.int .i64 id]) rfl (by simp[w_,Value.oneCell']) (by have:=HIQ.o.oNm;have:=HXN.o.2.2;have:=HXN.o.1;have:=HAZ.o.1;omega) (by have:=OO.o;have:=I5.o.size;omega)
   obtain⟨a6,n6,cap6,rfl⟩:∃a m c,v2=.slice a m c:=by obtain⟨a,c,h⟩:=hS2.len;exact⟨_,_,_,h⟩
   have S6:GpC w6 x.1 vl vr x.2 v.1 v.2 false:=aah HKQ.o HIQ.o.oMg hgr (by decide)
   have kH:=ak (HMO.o HIQ.o HCF.o hS2 hgr hb6)
   clear hS2 hgr hb6
   refine aT 17 λK hK=>?_
   simp[execOp,resolve,invoke,builtin,hrun,Result.andThen,Act.eval,Oper.uponIn]
   refine hK _ _ S6 ?_
   clear hK K hrun
   refine tk1 18 ?_
   refine aO ?_
   clear m2 m3 S0 S6
   go_wp2_with fail
   go_roundw
   case rel=>exact⟨j+1,_,k,az,rfl,HAZ.o.1,kH.o,HKK.o,rfl,HAZ.o.2⟩
   case measure=>have:=HAZ.o.1;simp[intOf];omega
end
end M
end Go.Proofs.YtgbhohfabhilgaaGreatDoor
namespace Go.Proofs.YtgbhohfabhilgaaGreatDoor
open Go.RowKit Go.Lib
namespace M
attribute [local go_sem] Oper.semAt_some
def SaP(n0 B g pa mb kb k:Nat)(E:List En)(W:World)(e:Ending)(w':World):Prop:=∃E',e=.returned (.bool true)/\mM n0 B g pa mb kb k E E' W w'
theorem alS{E:List En}{L M:List bH}(h:L.map (aas E)=M.map (aas E)){j:Nat}(h1:j<L.length)(h2:j<M.length):L[j].pos=M[j].pos/\L[j].n=M[j].n/\txt E L[j].id=txt E M[j].id:=by
 have e:(L.map (aas E))[j]'(by simpa using h1)=(M.map (aas E))[j]'(by simpa using h2):=by simp only[h]
 rw[aiK,aiK]at e
 unfold aas at e
 injection e with e1 e2
 injection e2 with e2 e3
 exact⟨e1,e2,e3⟩
theorem acS{n0 B g pa mb kb b1 b2 k:Nat}{E:List En}{W:World}{v1 v2:Value}{L M:List bH}(hD:jO n0 W B g pa mb kb E)(h1:mg b1 W v1 L)(h2:mg b2 W v2 M)(hT1:zZ E L)(hT2:zZ E M)(hk:L.map (aas E)=M.map (aas E))(hl:L.length<=1000)(ht:∀c∈L,(txt E c.id).length<=600)(hkk:52*dN E L=k)(hE:E.length+k<=1048575):
    Calls Tryz.prog 32 #[dkV B mb,v1,v2] W (SaP n0 B g pa mb kb k E W):=by
 have HF:∀f,Fence.wide.fn f:=λ_=>trivial
 obtain⟨a1,c1,hv1⟩:=h1.len
 obtain⟨a2,c2,hv2⟩:=h2.len
 have hlm:L.length=M.length:=by simpa using agC List.length hk
 obtain⟨n,hn⟩:=ay (L.length)
 rw[hn]at hv1
 rw[<-hlm,hn]at hv2
 subst hv1 hv2
 obtain⟨W1,hW1⟩:=ay (W.alloc (.cells #[.pointer (some ⟨B,0,none⟩),.pointer (some ⟨mb,0,none⟩)] 57))
 have k1:W1.heap[W.heap.size]?=some (.cells #[.pointer (some ⟨B,0,none⟩),.pointer (some ⟨mb,0,none⟩)] 57 (0,0)):=by rw[<-hW1];exact aD _ _
 have b1:Below W.heap.size W W1:=by rw[<-hW1];exact(af6 _ _).alloc (af7 _) _
 obtain⟨gd,hgd⟩:=ay (W.heap.size)
 rw[hgd]at k1
 have vS:aA (∀w,Kd W1 w->w.cell? ⟨gd,1,none⟩=some (.pointer (some ⟨mb,0,none⟩))):=ak λw hw=>by
  have:=hw _ (by decide) (by decide) _ _ _ k1
  simp[World.cell?,this]
 have HI0:aA (mM n0 B g pa mb kb (52*dN E (L.take 0)) E E W W1):=ak ((mM.of hD b1).mono (agb _))
 have HX:=ak (And.intro h1 (And.intro h2 (And.intro hT1 (And.intro hT2 (And.intro hk (And.intro hl (And.intro ht (And.intro hkk (And.intro hE (And.intro hn (And.intro hlm (Kd.of b1))))))))))))
 clear hD h1 h2 hT1 hT2 hk hl ht hkk hE hn hlm k1 b1
 go_enter Tryz.func32,Tryz.ntmps32
 go_wp2_with fail
 try rw[hgd]
 clear hW1 hgd
 go_loopw [7] (λjv wr=>∃(j:Nat) (E1:List En),jv=.int .i64 (j:Nat)/\j<=n/\mM n0 B g pa mb kb (52*dN E (L.take j)) E E1 W wr/\Kd W1 wr) (λjv _=>n-(intOf jv).toNat)
 case atStart=>exact⟨0,E,rfl,agb _,HI0.o,Kd.of (af6 _ _)⟩
 case round=>
  clear HI0
  obtain⟨j,E1,rfl,hj,hI,hkd⟩:=hrel
  by_cases hlt:j<n
  rotate_left
  .obtain rfl:j=n:=by omega
   have HR:aA (SaP n0 B g pa mb kb k E W (.returned (.bool true)) wr):=ak
    ⟨E1,rfl,by have h:=HX.o.2.2.2.2.2.2.2.1;rw[agI (by rw[HX.o.2.2.2.2.2.2.2.2.2.1];exact af7 _),h]at hI;exact hI⟩
   clear hI hkd
   go_wp2_with fail
   exact af_ (v:=.bool true) (by simp[results,Tryz.results32,go_sem]) rfl HR.o
  obtain⟨h1,h2,hT1,hT2,hk,hl,ht,hkk,hE,hn,hlm,hkw⟩:=HX.o
  have hj1:j<L.length:=by omega
  have hj2:j<M.length:=by omega
  obtain⟨g1,d1,hv1,-,-,hc1⟩:=mg.at (hI.kd.Am h1) hj1
  obtain⟨g2,d2,hv2,-,-,hc2⟩:=mg.at (hI.kd.Am h2) hj2
  simp only[agn]at hv1 hv2
  obtain⟨rfl,-,rfl⟩:=hv1
  obtain⟨rfl,-,rfl⟩:=hv2
  obtain⟨e1,e2,e3⟩:=alS hk hj1 hj2
  have hb1:=(hT1.Ig (ag0 hj1)).ext hI.ext
  have hb2:=(hT2.Ig (ag0 hj2)).ext hI.ext
  have htl:=ht _ (ag0 hj1)
  have hins:dN E (L.take (j+1))=dN E (L.take j)+(txt E L[j].id).length:=by rw[kI hj1,Ei]
  have hle:=wQ E L (j+1)
  have UA:aA (∀w,Kd W w->(w.cell? ⟨g1,j*3,none⟩=some (.int .i64 L[j].pos)/\w.cell? ⟨g1,j*3+1,none⟩=some (.int .i64 L[j].n)/\w.cell? ⟨g1,j*3+2,none⟩=some (.int .i64 L[j].id))/\w.cell? ⟨g2,j*3,none⟩=some (.int .i64 M[j].pos)/\w.cell? ⟨g2,j*3+1,none⟩=some (.int .i64 M[j].n)/\w.cell? ⟨g2,j*3+2,none⟩=some (.int .i64 M[j].id)):=ak λw hw=>by
   obtain⟨g3,d3,hv1,-,-,hc3⟩:=mg.at (hw.Am h1) hj1
   obtain⟨g4,d4,hv2,-,-,hc4⟩:=mg.at (hw.Am h2) hj2
   simp only[agn]at hv1 hv2
   obtain⟨hv1,-,-⟩:=hv1
   obtain⟨hv2,-,-⟩:=hv2
   cases hv1;cases hv2
   exact⟨hc3 w (af6 _ _) j hj1,hc4 w (af6 _ _) j hj2⟩
  clear hc1 hc2
  generalize L[j]=x at *
  generalize M[j]=y at *
  rw[<-e1,<-e2]at UA
  have hwj:IntKind.i64.wrap ((j:Int)+1)=((j+1:Nat):Int):=by rw[agd];omega
  have hlt1:(j:Int)<(n:Int):=by omega
  have ady:(0:Int)<=(j:Int):=by omega
  rw[<-e3]at hb2
  have hfw:=hI.few
  have uh:aA (∀w,Below wr.heap.size wr w->Calls Tryz.prog 27 #[.pointer (some ⟨mb,0,none⟩),vI x.id,vI y.id] w λe w'=>∃E',e=.returned (.tuple #[.bool (decide (txt E x.id=txt E x.id)),.nilIface])/\mM n0 B g pa mb kb (26*((txt E x.id).length+(txt E x.id).length)) E1 E' w w'):=ak λw hw=>
   abH (hI.dk.below hw) hb1 hb2 htl htl (af7 _) (by omega)
  have HH:=ak (And.intro hI (And.intro hkd (And.intro hlt hins)))
  clear hI hkd hlt hj h1 h2 hT1 hT2 hk hl ht hkk hE hn hlm hkw hj1 hj2 e1 e2 e3 hb1 hb2 htl hins hle hfw
  go_wp2_with fail
  have m0:∀w,Below wr.heap.size wr w->w.cell? ⟨gd,1,none⟩=some (.pointer (some ⟨mb,0,none⟩)):=λw hw=>vS.o w (HH.o.2.1.trans (.of hw))
  have m1:∀w,Below wr.heap.size wr w->w.cell? ⟨g1,j*3+2,none⟩=some (.int .i64 x.id):=λw hw=>(UA.o w (HH.o.1.kd.trans (.of hw))).1.2.2
  have m2:∀w,Below wr.heap.size wr w->w.cell? ⟨g2,j*3+2,none⟩=some (.int .i64 y.id):=λw hw=>(UA.o w (HH.o.1.kd.trans (.of hw))).2.2.2
  refine aU (Below wr.heap.size wr) ?_
  have S0:Below wr.heap.size wr wr.drew:=(af6 _ _).drew
  generalize wr.drew=wq at *
  have hSM:=uh.o wq S0
  refine bJ 0 1 2 3 4 5 ?_
  refine bJ 6 7 8 9 10 11 ?_
  refine aJ.wall (i:=12) (by kernel_rfl) rfl HF (by rfl) (λK hK=>?_)
  go_simp
  try with_reducible refine⟨rfl,?_⟩
  refine agq.2 (hSM.mono ?_)
  rintro e w5 ⟨E5,rfl,h5⟩
  have H5:=ak h5
  have T0:uz w5:=trivial
  refine hK uz _ _ ?_
  clear hK K h5
  refine zD 13 14 15 16 17 ?_
  refine aO ?_
  have HN:aA (∀w,Below w5.heap.size w5 w->mM n0 B g pa mb kb (52*dN E (L.take (j+1))) E E5 W w/\Kd W1 w):=ak λw hw=>
   ⟨(((HH.o.1.trans (.of HH.o.1.dk S0)).trans H5.o).trans (.of H5.o.dk hw)).mono (by rw[HH.o.2.2.2];omega),(HH.o.2.1.trans (.of S0)).trans (H5.o.kd.trans (.of hw))⟩
  clear m0 m1 m2 S0 hSM
  go_wp2_with fail
  have m1:∀w,Below w5.heap.size w5 w->w.cell? ⟨g1,j*3,none⟩=some (.int .i64 x.pos):=λw hw=>(UA.o w (HN.o w hw).1.kd).1.1
  have m2:∀w,Below w5.heap.size w5 w->w.cell? ⟨g2,j*3,none⟩=some (.int .i64 x.pos):=λw hw=>(UA.o w (HN.o w hw).1.kd).2.1
  have m3:∀w,Below w5.heap.size w5 w->w.cell? ⟨g1,j*3+1,none⟩=some (.int .i64 x.n):=λw hw=>(UA.o w (HN.o w hw).1.kd).1.2.1
  have m4:∀w,Below w5.heap.size w5 w->w.cell? ⟨g2,j*3+1,none⟩=some (.int .i64 x.n):=λw hw=>(UA.o w (HN.o w hw).1.kd).2.2.1
  refine aU (Below w5.heap.size w5) ?_
  have S0:Below w5.heap.size w5 w5.drew:=(af6 _ _).drew
  have J4:=ak (HN.o _ S0)
  generalize w5.drew=w6 at *
  refine bJ 0 1 2 3 4 5 ?_
  refine bJ 6 7 8 9 10 11 ?_
  refine bJ 12 13 14 15 16 17 ?_
  refine bJ 18 19 20 21 22 23 ?_
  refine bJ 24 25 26 27 28 29 ?_
  refine tk2 30 31 ?_
  refine aO ?_
  clear m1 m2 m3 m4 S0
  go_wp2_with fail
  go_roundw
  case rel=>exact⟨j+1,E5,rfl,HH.o.2.2.1,J4.o⟩
  case measure=>have:=HH.o.2.2.1;simp[intOf];omega
end M
end Go.Proofs.YtgbhohfabhilgaaGreatDoor
namespace Go.Proofs.YtgbhohfabhilgaaGreatDoor
open Go.RowKit Go.Lib
namespace M
variable{E E2:List En}{t:List Nat}{L p q:List bH}{b bp bq j:Nat}{v vp vq:Value}{W w:World}
theorem aaN.Uk{s:ByteArray}{S:List zx}(hc:mg b W v L)(hm:E9 E L (yg s.size S 0 0))(hs:s.size<=120):aaN E W b v (jE s) L:=by
 have h:=hm.small (by unfold dX;omega)
 exact⟨hc,h.zV,h.Za,by rw[aG];exact h.form,h.ins⟩
theorem alo(h:zZ E L)(hx:Ext E E2):zZ E2 L:=λc hc=>⟨af9 (h c hc).1 hx.le,by rw[hx.ent (h c hc).1];exact(h c hc).2⟩
theorem afX{E E2:List En}(hx:Ext E E2):∀{L:List bH},(∀c∈L,c.id<=E.length)->dN E2 L=dN E L
 | [],_=>rfl
 |c::L,h=>by
  show(txt E2 c.id).length+dN E2 L=(txt E c.id).length+dN E L
  rw[hx.txt (h c (by simp)),afX hx (L:=L) (λd hd=>h d (by simp[hd]))]
theorem aaN.ext(h:aaN E W b v t L)(hx:Ext E E2)(hk:Kd W w):aaN E2 w b v t L:=
 ⟨hk.Am h.Am,alo h.zV hx,h.len,h.form,by rw[afX hx (λc hc=>(h.zV c hc).1)];exact h.ins⟩
theorem aaN.nil(E:List En)(W:World)(t:List Nat):aaN E W W.heap.size (.slice none 0 0) t []:=⟨aP.nil _ _ _ _ _,λc hc=>by simp at hc,by simp,rfl,by simp[dN]⟩
structure MrL(E:List En)(W:World)(b:Nat)(v:Value)(L:List bH)(K:List (Int×Int×List Nat)):Prop where
 lie:mg b W v L
 kno:zZ E L
 key:L.map (aas E)=K
theorem af0(hx:Ext E E2)(h:zZ E L):L.map (aas E2)=L.map (aas E):=aiG λc hc=>by unfold aas;rw[hx.txt (h c hc).1]
theorem MrL.ext{K:List (Int×Int×List Nat)}(h:MrL E W b v L K)(hx:Ext E E2)(hk:Kd W w):MrL E2 w b v L K:=⟨hk.Am h.lie,alo h.kno hx,by rw[af0 hx h.kno];exact h.key⟩
structure CfL(E:List En)(W:World)(b:Nat)(v:Value)(L:List Cfx)(K:List (Int×Int×List Nat×List Nat)):Prop where
 lie:Cfs b W v L
 kno:CfB E L
 key:L.map (afj E)=K
theorem CfL.ext{E E2:List En}{W w:World}{b:Nat}{v:Value}{L:List Cfx}{K:List (Int×Int×List Nat×List Nat)}(h:CfL E W b v L K)(hx:Ext E E2)(hk:Kd W w):CfL E2 w b v L K:=by
 refine⟨aP.keep h.lie (λk cs fz e=>hk _ (by decide) (by decide) k cs fz e),λc hc=>?_,?_⟩
 .have:=h.kno c hc
  rw[hx.txt this.1.le,hx.txt this.2.le]
  exact⟨this.1.ext hx,this.2.ext hx⟩
 .rw[<-h.key]
  exact aiG λc hc=>by unfold afj;rw[hx.txt (h.kno c hc).1.le,hx.txt (h.kno c hc).2.le]
theorem CfL.at{L:List Cfx}{K:List (Int×Int×List Nat×List Nat)}(h:CfL E W b v L K)(hj:j<L.length)(hk:j<K.length):∃g cap,v=.slice (some ⟨g,0,none⟩) L.length cap/\(W.cell? ⟨g,j*4,none⟩=some (.int .i64 K[j].1)/\W.cell? ⟨g,j*4+1,none⟩=some (.int .i64 K[j].2.1)/\W.cell? ⟨g,j*4+2,none⟩=some (.int .i64 L[j].l)/\W.cell? ⟨g,j*4+3,none⟩=some (.int .i64 L[j].r))/\fT E L[j].l K[j].2.2.1/\fT E L[j].r K[j].2.2.2:=by
 have hkj:K[j]=afj E L[j]:=by simp only[<-h.key,aiK]
 rcases h.lie.shape with⟨-,rfl⟩|⟨g,cap,rfl,h1,h2⟩
 .simp at hj
 .have c:=λ(i:Nat) (hi:i<4)=>aP.cell acR h.lie hj (j:=i) hi
  have hkn:=h.kno _ (ag0 hj)
  rw[hkj]
  exact⟨g,cap,rfl,⟨c 0 (by omega),c 1 (by omega),c 2 (by omega),c 3 (by omega)⟩,hkn.1,hkn.2⟩
theorem alV(hx:Ext E E2){G:List Grp}(h:KnG E G):aax E2 t G=aax E t G/\aaq E2 t G=aaq E t G/\(aax E2 t G).map (aaW E2 t)=(aax E t G).map (aaW E t)/\(aaq E2 t G).map (abQ E2 t)=(aaq E t G).map (abQ E t):=by
 have h1:aax E2 t G=aax E t G:=List.filter_congr λg hg=>by rw[(ac0 hx (h g hg)).2]
 have h2:aaq E2 t G=aaq E t G:=List.filter_congr λg hg=>(ac0 hx (h g hg)).2
 refine⟨h1,h2,?_,?_⟩
 .rw[h1]
  exact aiG λg hg=>by unfold aaW;rw[(ac0 hx (h g (ahB.1 hg).1)).1]
 .rw[h2]
  exact aiG λg hg=>by
   have:=h g (ahB.1 hg).1
   unfold abQ;rw[abz hx this.1,abz hx this.2]
theorem aaN.kng(hp:aaN E W bp vp t p)(hq:aaN E W bq vq t q):KnG E (aae p q):=alz (λc hc=>(hp.zV c hc).1) (λc hc=>(hq.zV c hc).1)
theorem akV(hp:bC t.length (-1) p=true)(hq:bC t.length (-1) q=true):(aax E t (aae q p)).map (aaW E t)=(aax E t (aae p q)).map (aaW E t)/\(aaq E t (aae q p)).map (abQ E t)=((aaq E t (aae p q)).map (abQ E t)).map (λk=>(k.1,k.2.1,k.2.2.2,k.2.2.1)):=by
 rw[ak4 hp hq]
 refine⟨ak6 λg hg=>(aaR (abM hp hq) g hg).ne,?_⟩
 rw[(ab2 E t _).2,aiO,aiO]
 rfl
theorem afs(hp:bC t.length (-1) p=true):(aax E t (aae p [])).map (aaW E t)=p.map (aas E)/\aaq E t (aae p [])=[]:=by
 obtain⟨h1,h2,h3⟩:=acI (E:=E) (t:=t) hp
 rw[akR hp,h1,h2,h3]
 exact⟨rfl,rfl⟩
theorem ab0:∀{G:List Grp},(∀g∈G,g.l≠[]\/g.r≠[])->G.length<=(G.map (λg=>g.l.length+g.r.length)).sum
 | [],_=>af7 _
 |g::G,h=>by
  have h1:=ab0 (G:=G) (λx hx=>h x (by simp[hx]))
  have h2:0<g.l.length+g.r.length:=by
   rcases h g (by simp)with q|q
   .have:=List.length_pos_iff.2 q;omega
   .have:=List.length_pos_iff.2 q;omega
  simp only[ag8,List.sum_cons,agc]
  omega
theorem acD(hwf:iE E)(hp:aaN E W bp vp t p)(hq:aaN E W bq vq t q)(ht:t.length<=120)(hL:L.map (aas E)=(aax E t (aae p q)).map (aaW E t)):bC t.length (-1) L=true/\dN E L<=601/\(cO E t 0 L).length<=600/\L.length<=24/\∀c∈L,(txt E c.id).length<=600:=by
 have kM:(t.length:Int)<=dX:=by unfold dX;omega
 have hok:=abM hp.form hq.form
 have hok2:ChG t.length (-1) (aax E t (aae p q)):=acp _ hok
 have hne:∀g∈aax E t (aae p q),g.en=g.pos->mrT E t g≠[]:=λg hg h0=>by
  have hg1:=(ahB.1 hg).1
  obtain⟨d1,d2,-⟩:=abS hg1
  refine alA (aaR hok g hg1) (λc hc hi ht=>?_) h0
  have hb:fT E c.id (txt E c.id):=by
   rcases ags.1 hc with q|q
   .exact hp.zV.Ig (d1 c q)
   .exact hq.zV.Ig (d2 c q)
  exact hi ((hb.zero hwf).2 ht)
 obtain⟨f1,f2,f3⟩:=ado (E:=E) kM hok2 hL (λc _ h=>by rw[h];exact cZ _) hne
 have i1:=acr E (λg=> !cfl E t g) (aae p q)
 have i2:=aco E p q
 have i3:=acj hok2 (by omega)
 have i4:=hp.ins;have i5:=hq.ins
 have i6:abK E (aax E t (aae p q))<=abK E (aae p q):=i1
 have hpl:=pO (E:=E) (t:=t) L (-1) 0 f1 (by omega) (agb _)
 refine⟨f1,by omega,by omega,?_,λc hc=>?_⟩
 .have h1:L.length=(aax E t (aae p q)).length:=by simpa using agC List.length hL
  have h2:(aax E t (aae p q)).length<=(aae p q).length:=aiX _ _
  have h3:=ab0 (G:=aae p q) (λg hg=>(aaR hok g hg).ne)
  rw[acY]at h3
  have:=hp.len;have:=hq.len
  omega
 .have hm:aas E c∈(aax E t (aae p q)).map (aaW E t):=by rw[<-hL];exact agz.2 ⟨c,hc,rfl⟩
  obtain⟨g,hg,e⟩:=agz.1 hm
  have hg1:=(ahB.1 hg).1
  unfold aaW aas at e
  injection e with e1 e2
  injection e2 with e2 e3
  obtain⟨-,-,-,-,d5⟩:=abS hg1
  have o:=aaR hok g hg1
  have h1:=afI (E:=E) kM o
  have h2:=(d5 E).1;have h3:=(d5 E).2
  have h4:=o.lo;have h5:=o.hi
  rw[<-e3]
  omega
theorem acT{E:List En}{c:bH}:∀{L:List bH},c∈L->(txt E c.id).length<=dN E L
 |a::L,h=>by
  show _<=(txt E a.id).length+dN E L
  rcases agm.1 h with rfl|h
  .omega
  .have:=acT (E:=E) h;omega
theorem adC{E:List En}:∀{L M:List bH},L.map (aas E)=M.map (aas E)->dN E L=dN E M
 | [],[],_=>rfl
 | [],_::_,h=>by simp at h
 |_::_,[],h=>by simp at h
 |a::L,b::M,h=>by
  rw[ag8,ag8]at h
  injection h with h1 h2
  unfold aas at h1
  injection h1 with _ e2
  injection e2 with _ e3
  show(txt E a.id).length+dN E L=(txt E b.id).length+dN E M
  rw[e3,adC h2]
def abA:List (Int×Int×List Nat×List Nat)->Nat
 | []=>0
 |k::K=>k.2.2.1.length+k.2.2.2.length+abA K
theorem ab1:∀(K:List (Int×Int×List Nat×List Nat)) (j:Nat),abA (K.take j)<=abA K
 | [],j=>by simp
 |k::K,0=>agb _
 |k::K,j+1=>by have:=ab1 K j;show _+abA (K.take j)<=_+abA K;omega
theorem adD:∀A B:List (Int×Int×List Nat×List Nat),abA (A++B)=abA A+abA B
 | [],B=>by show abA B=0+abA B;omega
 |a::A,B=>by show _+abA (A++B)=_+abA A+abA B;rw[adD A B];omega
theorem akW{K:List (Int×Int×List Nat×List Nat)}(hj:j<K.length):abA (K.take (j+1))=abA (K.take j)+(K[j].2.2.1.length+K[j].2.2.2.length):=by
 rw[kI hj,adD];rfl
theorem adF(E:List En)(t:List Nat):∀G:List Grp,abA (G.map (abQ E t))=ab_ E t G
 | []=>rfl
 |g::G=>by show _+abA (G.map (abQ E t))=_;rw[adF E t G];rfl
theorem ab9(E:List En)(t:List Nat)(f:Grp->Bool):∀G:List Grp,ab_ E t (G.filter f)<=ab_ E t G
 | []=>af7 _
 |g::G=>by
  have:=ab9 E t f G
  rw[aiv]
  split
  .show _+ab_ E t (G.filter f)<=_+ab_ E t G;omega
  .show ab_ E t (G.filter f)<=(sdT E t g g.l).length+(sdT E t g g.r).length+ab_ E t G;omega
theorem alp(hp:aaN E W bp vp t p)(hq:aaN E W bq vq t q)(ht:t.length<=120):abA ((aaq E t (aae p q)).map (abQ E t))<=722/\(aaq E t (aae p q)).length<=24/\∀k∈(aaq E t (aae p q)).map (abQ E t),k.2.2.1.length<=600/\k.2.2.2.length<=600:=by
 have kM:(t.length:Int)<=dX:=by unfold dX;omega
 have hok:=abM hp.form hq.form
 have h2:=abV (E:=E) kM hok
 have h3:=acj hok (by omega)
 rw[aco]at h2
 have i4:=hp.ins;have i5:=hq.ins
 refine⟨?_,?_,λk hk=>?_⟩
 .rw[adF]
  have:=ab9 E t (cfl E t) (aae p q)
  unfold aaq
  omega
 .have h2:(aaq E t (aae p q)).length<=(aae p q).length:=aiX _ _
  have h3:=ab0 (G:=aae p q) (λg hg=>(aaR hok g hg).ne)
  rw[acY]at h3
  have:=hp.len;have:=hq.len
  omega
 .obtain⟨g,hg,rfl⟩:=agz.1 hk
  have hg1:=(ahB.1 hg).1
  obtain⟨-,-,-,-,d5⟩:=abS hg1
  have o:=aaR hok g hg1
  have s1:=aby (E:=E) kM o o.fl o.el
  have s2:=aby (E:=E) kM o o.fr o.er
  have h2:=(d5 E).1;have h3:=(d5 E).2
  have h4:=o.lo;have h5:=o.hi
  exact⟨by show(sdT E t g g.l).length<=600;omega,by show(sdT E t g g.r).length<=600;omega⟩
end M
end Go.Proofs.YtgbhohfabhilgaaGreatDoor
