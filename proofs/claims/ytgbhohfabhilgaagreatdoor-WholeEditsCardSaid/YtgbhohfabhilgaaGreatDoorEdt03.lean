import Derived.Test.YtgbhohfabhilgaaGreatDoorEdt02
set_option maxRecDepth 100000
set_option maxHeartbeats 8000000
set_option linter.unusedVariables false
set_option linter.unusedSimpArgs false
namespace Go.Proofs.YtgbhohfabhilgaaGreatDoor
open Go.RowKit Go.Lib
namespace M
attribute [local go_sem] Oper.semAt_some
theorem al5{n0 B most:Nat}{E:List En}{w:World}(_:aW n0 w B most E):∃q w',w.alloc (.cells #[.int .i64 0,.int .i64 0,.int .i64 0,.int .i64 0,.int .i64 0] 86)=w'/\w.heap.size=q/\Below w.heap.size w w'/\aae w' q edZ:=
 ⟨_,_,rfl,rfl,(af6 _ _).alloc (af7 _) _,aD _ _⟩
theorem st5{n0 B most:Nat}{E:List En}{w:World}(h:aW n0 w B most E){q:Nat}{a:Edt}(R:aae w q a)(c:Edt):∃w',((((w.setCell ⟨q,0,none⟩ (.int .i64 c.kind)).setCell ⟨q,1,none⟩ (.int .i64 c.pos)).setCell ⟨q,2,none⟩ (.int .i64 c.n)).setCell ⟨q,3,none⟩ (.int .i64 c.af4)).setCell ⟨q,4,none⟩ (.int .i64 c.id)=w'/\aW n0 w' B most E/\aae w' q c/\∀(n:Nat) (w0:World),n<=q->Below n w0 w->Below n w0 w':=
 ⟨_,rfl,h.abk R c,R.set c,λ_ _ hq hb=>aaN hb hq c⟩
def alr(n0 B most D:Nat)(E:List En)(W:World)(t:List Nat)(L:List Edt)(r:Ending)(w':World):Prop:=
 ∃E' v R,r=.returned (.tuple #[v,.nilIface])/\aW n0 w' B most E'/\iE E'/\Ext E E'/\E'.length<=E.length+L.length*eaK D+L.length*bZ D/\Eds W.heap.size w' v R.reverse/\abx E E' t L R/\Below n0 W w'/\Kt B W w'
structure EnJ(D n0 B most:Nat)(W:World)(E:List En)(t:List Nat)(L:List Edt)(j:Nat)(x:Value)(ids:List Nat)(E1:List En)(wr:World):Prop where
 lie:Ids W.heap.size wr x ids
 len:ids.length=j+1
 Ig:∀q (hq:q<ids.length),fT E1 ids[q] (aaf E t (L.take q))
 st:aW n0 wr B most E1
 wf:iE E1
 ext:Ext E E1
 few:E1.length<=E.length+j*eaK D
 Dx:Below n0 W wr
 kt:Kt B W wr
structure EnK(D n0 B most:Nat)(W:World)(E:List En)(t:List Nat)(L:List Edt)(k:Nat)(x y:Value)(ids:List Nat)(E1:List En)(R:List Edt)(E2:List En)(wr:World):Prop where
 back:Eds W.heap.size wr x R
 lie:Ids W.heap.size wr y ids
 inv:abx E E2 t (L.take k) R
 st:aW n0 wr B most E2
 wf:iE E2
 ext:Ext E E2
 afI:Ext E1 E2
 few:E2.length<=E.length+L.length*eaK D+k*bZ D
 Dx:Below n0 W wr
 kt:Kt B W wr
theorem acD{lo l2:Nat}{A C:World}{v vb:Value}{ids:List Nat}{R:List Edt}{cs:Array Value}(h:Ids lo A v ids)(hB:Eds l2 A vb R)(hg:(A.alloc (.cells cs 86)).grownBy C vb.ownBlock):Ids lo C v ids:=aP.keep h (λk cs fz e=>g_ hB hg e (by decide))
section
variable {D M n0 B most:Nat} {W:World} {E:List En} {i:Nat} {t:List Nat}
theorem ads(hD:GZ D M)(hs:aW n0 W B most E)(hwf:iE E)(hb:fT E i t){b0:Nat}{v:Value}{L:List Edt}(hv:Eds b0 W v L)(hL:aau E M t L)(hn:L.length<=100)(hMx:M<=1000000)(hroom:E.length+L.length*eaK D+L.length*bZ D<=most)(hE:E.length+L.length*eaK D+L.length*bZ D<=1048576):
    Calls Tryz.prog 39 #[.pointer (some ⟨B,0,none⟩),.int .i64 i,v] W (alr n0 B most D E W t L):=by
 have HF:∀f,Fence.wide.fn f:=λ_=>trivial
 have hn0:=hs.lt
 have gJ:=ak hn0
 have QG:=ak (abG hs hb (by omega))
 obtain⟨va,vc,rfl⟩:=hv.len
 have HX:=ak (And.intro hs (And.intro hwf (And.intro hb (And.intro hv (And.intro hL (And.intro hn (And.intro hMx (And.intro hroom hE))))))))
 obtain⟨n,hnn⟩:=ay (L.length)
 have jU:=ak hnn
 rw[hnn]
 have hn1:n<=100:=by omega
 clear hs hwf hb hv hL hn hroom hE hn0 hMx hnn
 go_enter Tryz.func39,Tryz.ntmps39
 go_wp2_with fail
 refine QG.o.mono ?_;rintro r w1 ⟨rfl,b1⟩
 have B1:=ak b1
 obtain⟨w2,hw2⟩:=ay (w1.alloc (.cells #[.int .i64 i] 27))
 have b2:Below w1.heap.size w1 w2:=by rw[<-hw2];exact(af6 _ _).alloc (af7 _) _
 have s2:Ids W.heap.size w2 (.slice (some ⟨w1.heap.size,0,none⟩) 1 1) [i]:=by rw[<-hw2];exact aP.mono (aP.lit (l:=[i]) bX rfl (by unfold maxLen;simp)) b1.size
 have HJ0:aA (EnJ D n0 B most W E t L 0 (.slice (some ⟨w1.heap.size,0,none⟩) 1 1) [i] E w2):=ak (by
  obtain⟨hs,hwf,hb,hv,hL,hn,hMx,hroom,hE⟩:=HX.o
  have b12:=Below.after b1 b2
  refine⟨s2,rfl,λq hq=>?_,hs.below b12,hwf,Ext.refl _,by omega,b12.mono gJ.o,Kt.of b12⟩
  obtain rfl:q=0:=by simpa using hq
  exact hb)
 clear b1 b2 s2
 go_wp2_with fail
 clear hw2
 go_loopw [9,29] (λx c wr=>∃(j:Nat) (ids:List Nat) (E1:List En),j<=n/\c=.int .i64 j/\EnJ D n0 B most W E t L j x ids E1 wr) (λ_ c _=>n-(intOf c).toNat)
 case atStart=>exact⟨0,[i],E,agb _,rfl,HJ0.o⟩
 case round=>
  clear HJ0
  obtain⟨j,ids,E1,hj,rfl,hJ⟩:=hrel
  obtain⟨pa,pc,hpv⟩:=hJ.lie.len
  rw[hJ.len]at hpv
  subst hpv
  have HJ:=ak hJ
  obtain⟨m,hm⟩:=ay (j+1)
  rw[hm]
  by_cases hlt:j<n
  .have hlt2:(j:Int)<(n:Int):=by omega
   obtain⟨hs,hwf,hb,hv,hL,hn,hMx,hroom,hE⟩:=HX.o
   have hjl:j<L.length:=by rw[jU.o];exact hlt
   obtain⟨g,cap,e1,-,-,hcc⟩:=Eds.at (hv.kt hJ.kt) hjl
   simp only[agn]at e1
   obtain⟨rfl,-,rfl⟩:=e1
   obtain⟨y0,y1,y2,y3,y4⟩:=hcc wr (af6 _ _) j hjl
   have hok:=(hL j hjl)
   have hsn:aaf E t (L.take (j+1))=edT (aaf E t (L.take j)) (txt E L[j].id) L[j]:=by rw[kI hjl,aaO]
   generalize L[j]=e at *
   have hok1:EOk E1 M (aaf E t (L.take j)) e:=⟨hok.fit,by rw[hJ.ext.txt hok.Ig.le];exact hok.Ig.ext hJ.ext,by rw[hJ.ext.txt hok.Ig.le];exact hok.len⟩
   obtain⟨wz,w3,hz,hss,k2,b2,kz⟩:=abN wr e
   obtain⟨p0,p1,p2,p3,p4⟩:=k2.cells
   obtain⟨q0,q1,q2,q3,q4⟩:=kz.cells
   have r0:=kz.free 0;have r1:=kz.free 1;have r2:=kz.free 2;have r3:=kz.free 3;have r4:=kz.free 4
   have hji:j<ids.length:=by rw[hJ.len];omega
   obtain⟨g9,cap9,hv9,-⟩:=qB hJ.lie hji
   simp only[agn]at hv9
   obtain⟨rfl,-,rfl⟩:=hv9
   have hbj:=hJ.Ig j hji
   have m9:∀w,Below w3.heap.size w3 w->w.cell? ⟨g9,j,none⟩=some (.int .i64 ids[j]):=λw hw=>by
    obtain⟨g',cap',e1,e2⟩:=qB (hJ.lie.below (Below.after b2 hw)) hji
    simp only[agn,agG,ahp]at e1
    obtain⟨⟨rfl,-⟩,-⟩:=e1
    exact e2
   have mE:∀w,Below w3.heap.size w3 w->aae w wr.heap.size e:=λw hw=>au hw k2
   generalize ids[j]=x9 at *
   have hsucc:(j+1)*eaK D=j*eaK D+eaK D:=ag6 _ _
   have hle:(j+1)*eaK D<=n*eaK D:=agY _ (by omega)
   have hnl:=jU.o
   rw[hnl]at hroom hE
   have hfe:=hJ.few
   have Nz:aA (∀w,Below w3.heap.size w3 w->Calls Tryz.prog 35 #[.pointer (some ⟨B,0,none⟩),.int .i64 x9,edV e] w (uH n0 B most (eaK D) E1 w (edT (aaf E t (L.take j)) (txt E e.id) e))):=ak λw hw=>by
    have:=adi hD (hJ.st.below (Below.after b2 hw)) hJ.wf hbj hok1 hMx (by omega) (by omega)
    rwa [hJ.ext.txt hok.Ig.le]at this
   rw[<-hsn]at Nz
   have HY:=ak (And.intro hlt (And.intro hsucc (And.intro b2 hsn)))
   have hwj:IntKind.i64.wrap ((j:Int)+1)=((j+1:Nat):Int):=by rw[agd];omega
   have hgt:(j:Int)<(m:Int):=by omega
   have hlo:W.heap.size<=wr.heap.size:=hJ.Dx.size
   have eG:=ak hlo;have HM:=ak hm
   obtain⟨gb,hgb⟩:=ay (wr.heap.size)
   rw[hgb]at hss p0 p1 p2 p3 p4 q0 q1 q2 q3 q4 r0 r1 r2 r3 r4 mE
   have z0:∀w,Below w3.heap.size w3 w->w.cell? ⟨gb,0,none⟩=some (.int .i64 e.kind):=λw hw=>(mE w hw).cells.1
   have z1:∀w,Below w3.heap.size w3 w->w.cell? ⟨gb,1,none⟩=some (.int .i64 e.pos):=λw hw=>(mE w hw).cells.2.1
   have z2:∀w,Below w3.heap.size w3 w->w.cell? ⟨gb,2,none⟩=some (.int .i64 e.n):=λw hw=>(mE w hw).cells.2.2.1
   have z3:∀w,Below w3.heap.size w3 w->w.cell? ⟨gb,3,none⟩=some (.int .i64 e.af4):=λw hw=>(mE w hw).cells.2.2.2.1
   have z4:∀w,Below w3.heap.size w3 w->w.cell? ⟨gb,4,none⟩=some (.int .i64 e.id):=λw hw=>(mE w hw).cells.2.2.2.2
   clear hs hwf hb hv hL hn hMx hroom hE hlt hj hok hok1 hcc hsn hsucc hle hnl b2 k2 kz hjl hJ hji hbj hfe hm hlo mE
   go_wp2_with fail
   clear hz hss y0 y1 y2 y3 y4 p0 p1 p2 p3 p4 q0 q1 q2 q3 q4 r0 r1 r2 r3 r4 hgb
   refine aU (Below w3.heap.size w3) ?_
   obtain⟨wq,hwq⟩:=ay (w3.drew)
   have S0:Below w3.heap.size w3 wq:=by rw[<-hwq];exact(af6 _ _).drew
   rw[hwq]
   clear hwq
   refine bJ 0 1 2 3 4 5 ?_
   refine aJ.wall (i:=6) (by kernel_rfl) rfl HF (by rfl) (λK hK=>?_)
   go_simp
   try with_reducible refine⟨rfl,?_⟩
   refine agq.2 ((Nz.o _ S0).mono ?_)
   rintro r w4 ⟨E4,i4,rfl,s4,f4,x4,n4,b4,CL,zm⟩
   have HW:=ak (And.intro s4 (And.intro f4 (And.intro x4 (And.intro n4 (And.intro b4 (And.intro CL zm))))))
   have T0:uz w4:=trivial
   refine hK uz _ _ ?_
   clear hK K s4 f4 x4 n4 b4 CL zm
   refine zD 7 8 9 10 11 ?_
   refine aO ?_
   clear m9 z0 z1 z2 z3 z4
   have JZ:=ak S0
   have adw:=HJ.o.lie
   rw[HM.o]at adw
   have hI4:Ids W.heap.size w4 (.slice (some ⟨g9,0,none⟩) m pc) ids:=aP.keep (aP.below adw (Below.after HY.o.2.2.1 S0)) (HW.o.2.2.2.2.2.2.lX (by decide) (by decide))
   have HI4:=ak hI4
   have uE:W.heap.size<=w4.heap.size:=af9 eG.o (af9 (Below.after HY.o.2.2.1 S0).size HW.o.2.2.2.2.2.1.size)
   have als:ids.length=m:=by rw[HJ.o.len];exact HM.o
   have hm2:m<=200:=by have:=HM.o;have:=HY.o.1;omega
   rw[<-als]at HI4 hgt
   obtain⟨ml,kM⟩:=ay (ids.length)
   obtain rfl:ml=m:=by omega
   rw[kM]at HI4 hgt
   have hsz:(ids.length+1)*8<=140737488355328:=by omega
   clear hI4 S0 als adw
   go_wp2_with (first
    | (at_builtin;refine bP (v:=.slice (some ⟨g9,0,none⟩) ml pc) elemId bX rfl _ _ rfl rfl HI4.o i4 rfl rfl ?c1 ?c2 uE ?_))
   case c1=>simp[gF,Value.oneCell']
   case c2=>exact hsz
   intro v5 w5 hS5 hg5 hb5
   have HJ5:aA (EnJ D n0 B most W E t L (j+1) v5 (ids++[i4]) E4 w5):=ak (by
    obtain⟨s4,f4,x4,n4,b4,CL,zm⟩:=HW.o
    have bq:=Below.after HY.o.2.2.1 JZ.o
    have h:=HJ.o
    refine⟨hS5,by rw[af8,h.len];rfl,λq hq=>?_,s4.app' HI4.o hg5 (by decide) (by decide),f4,h.ext.trans x4,by have:=h.few;have:=HY.o.2.1;omega,(h.Dx.trans (bq.mono h.st.lt)).trans (CL.trans (hb5.mono gJ.o)),((h.kt.trans (Kt.of bq)).trans zm).then hb5⟩
    by_cases hql:q<ids.length
    .rw[ajk hql];exact(h.Ig q hql).ext x4
    .obtain rfl:q=j+1:=by rw[af8,h.len]at hq;simp at hq;rw[h.len]at hql;omega
     rw[ah_ (by rw[h.len];omega)]
     simp only[h.len,aiz,List.getElem_singleton]
     exact b4)
   clear hS5 hg5 hb5
   go_wp2_with fail
   go_roundw
   case rel=>exact⟨j+1,ids++[i4],E4,HY.o.1,rfl,HJ5.o⟩
   case measure=>have:=HY.o.1;simp[intOf];omega
  .obtain rfl:j=n:=by omega
   have hJn:=HJ.o
   have Vl:=ak hJn.Ig
   have M_:=ak (And.intro hJn.lie hJn.len)
   have HK0:aA (EnK D n0 B most W E t L 0 (.slice none 0 0) (.slice pa m pc) ids E1 [] E1 wr):=ak ⟨aP.nil _ _ _ _ _,(by rw[<-hm];exact hJn.lie),abx.nil _ _ _,hJn.st,hJn.wf,hJn.ext,Ext.refl _,by rw[jU.o];have:=hJn.few;omega,hJn.Dx,hJn.kt⟩
   have HXT:=ak hJn.ext
   clear hJn HJ hj
   go_wp2_with fail
   go_loopw [14,54] (λx c wr=>∃(k:Nat) (R:List Edt) (E2:List En),k<=j/\c=.int .i64 k/\EnK D n0 B most W E t L k x (.slice pa m pc) ids E1 R E2 wr) (λ_ c _=>j-(intOf c).toNat)
   case atStart=>exact⟨0,[],E1,agb _,rfl,HK0.o⟩
   case round=>
    clear HK0
    obtain⟨k,R,E2,hk,rfl,hK⟩:=hrel
    obtain⟨qa,qc,hqv⟩:=hK.back.len
    have hRk:R.length=k:=by rw[hK.inv.1,agB];have:=jU.o;omega
    rw[hRk]at hqv
    subst hqv
    have HK:=ak hK;have HRK:=ak hRk
    by_cases hlt:k<j
    .have hlt2:(k:Int)<(j:Int):=by omega
     obtain⟨hs,hwf,hb,hv,hL,hn,hMx,hroom,hE⟩:=HX.o
     have hjl:k<L.length:=by rw[jU.o];exact hlt
     obtain⟨g,cap,e1,-,-,hcc⟩:=Eds.at (hv.kt hK.kt) hjl
     simp only[agn]at e1
     obtain⟨rfl,-,rfl⟩:=e1
     obtain⟨y0,y1,y2,y3,y4⟩:=hcc wr (af6 _ _) k hjl
     have hok:=(hL k hjl)
     have Pm:=ak (λ(E3:List En) (v:Nat) h q=>abx.snoc (E:=E) (E2:=E3) (t:=t) (R:=R) hjl h (v:=v) q)
     generalize L[k]=e at *
     have hxe:=HXT.o.trans hK.afI
     have hok1:EOk E2 M (aaf E t (L.take k)) e:=⟨hok.fit,by rw[hxe.txt hok.Ig.le];exact hok.Ig.ext hxe,by rw[hxe.txt hok.Ig.le];exact hok.len⟩
     obtain⟨wz,w3,hz,hss,k2,b2,kz⟩:=abN wr e
     obtain⟨p0,p1,p2,p3,p4⟩:=k2.cells
     obtain⟨q0,q1,q2,q3,q4⟩:=kz.cells
     have r0:=kz.free 0;have r1:=kz.free 1;have r2:=kz.free 2;have r3:=kz.free 3;have r4:=kz.free 4
     have hji:k<ids.length:=by rw[M_.o.2];omega
     obtain⟨g9,cap9,hv9,-⟩:=qB hK.lie hji
     simp only[agn]at hv9
     obtain⟨rfl,-,rfl⟩:=hv9
     have hbj:=(Vl.o k hji).ext hK.afI
     have m9:∀w,Kt B w3 w/\Below n0 w3 w->w.cell? ⟨g9,k,none⟩=some (.int .i64 ids[k]):=λw hw=>by
      obtain⟨g',cap',e1,e2⟩:=qB (aP.keep (hK.lie.below b2) (hw.1.lX (by decide) (by decide))) hji
      simp only[agn,agG,ahp]at e1
      obtain⟨⟨rfl,-⟩,-⟩:=e1
      exact e2
     have mE:∀w,Kt B w3 w/\Below n0 w3 w->aae w wr.heap.size e:=λw hw=>k2.kt hw.1
     generalize ids[k]=x9 at *
     have hsucc:(k+1)*bZ D=k*bZ D+bZ D:=ag6 _ _
     have hle:(k+1)*bZ D<=j*bZ D:=agY _ (by omega)
     have hnl:=jU.o
     rw[hnl]at hroom hE
     have hfe:=hK.few
     rw[hnl]at hfe
     obtain⟨ul,EX⟩:=ay ((txt E e.id).length)
     have Nz:aA (∀w,aW n0 w B most E2->Calls Tryz.prog 89 #[.pointer (some ⟨B,0,none⟩),.int .i64 x9,edV e] w (acg n0 B most (bZ D) E2 w (aaf E t (L.take k)) ul e)):=ak λw hw=>by
      have:=afu hD hw hK.wf hbj hok1 hMx (by omega) (by omega)
      rwa [hxe.txt hok.Ig.le,EX]at this
     rw[EX]at Pm
     have akY:=hK.st.below b2
     have HY:=ak (And.intro hlt (And.intro hsucc b2))
     have hwj:IntKind.i64.wrap ((k:Int)+1)=((k+1:Nat):Int):=by rw[agd];omega
     have hgt:(k:Int)<(m:Int):=by omega
     have hlo:W.heap.size<=wr.heap.size:=hK.Dx.size
     have eG:=ak hlo
     obtain⟨gb,hgb⟩:=ay (wr.heap.size)
     rw[hgb]at hss p0 p1 p2 p3 p4 q0 q1 q2 q3 q4 r0 r1 r2 r3 r4 mE
     have z0:∀w,Kt B w3 w/\Below n0 w3 w->w.cell? ⟨gb,0,none⟩=some (.int .i64 e.kind):=λw hw=>(mE w hw).cells.1
     have z1:∀w,Kt B w3 w/\Below n0 w3 w->w.cell? ⟨gb,1,none⟩=some (.int .i64 e.pos):=λw hw=>(mE w hw).cells.2.1
     have z2:∀w,Kt B w3 w/\Below n0 w3 w->w.cell? ⟨gb,2,none⟩=some (.int .i64 e.n):=λw hw=>(mE w hw).cells.2.2.1
     have z3:∀w,Kt B w3 w/\Below n0 w3 w->w.cell? ⟨gb,3,none⟩=some (.int .i64 e.af4):=λw hw=>(mE w hw).cells.2.2.2.1
     have z4:∀w,Kt B w3 w/\Below n0 w3 w->w.cell? ⟨gb,4,none⟩=some (.int .i64 e.id):=λw hw=>(mE w hw).cells.2.2.2.2
     obtain⟨wq,hwq⟩:=ay (w3.drew)
     have bq:Below w3.heap.size w3 wq:=by rw[<-hwq];exact(af6 _ _).drew
     have HSt:aW n0 wq B most E2:=akY.below bq
     have S0:Kt B w3 wq/\Below n0 w3 wq:=⟨Kt.of bq,bq.mono akY.lt⟩
     clear hs hwf hb hv hL hn hMx hroom hE hlt hk hok hok1 hcc hsucc hle hnl b2 k2 kz hjl hK hji hbj hfe hlo mE EX hxe akY bq
     go_wp2_with fail
     clear hz hss y0 y1 y2 y3 y4 p0 p1 p2 p3 p4 q0 q1 q2 q3 q4 r0 r1 r2 r3 r4 hgb
     refine aU (λw=>Kt B w3 w/\Below n0 w3 w) ?_
     rw[hwq]
     clear hwq
     refine bJ 0 1 2 3 4 5 ?_
     refine aJ.two (i:=6) (j:=10) (by kernel_rfl) (by kernel_rfl) rfl rfl HF (by rfl) (by rfl) (λK hK=>?_) (λK hK=>?_)
     .go_simp
      try with_reducible refine⟨rfl,?_⟩
      refine agq.2 ((Nz.o _ HSt).mono ?_)
      rintro r w4 ⟨E4,v4,rfl,s4,f4,x4,n4,b4,CL,zm⟩
      replace HSt:=s4
      try replace R3:=R3.kt zm
      replace S0:=And.intro (S0.1.trans zm) (S0.2.trans CL)
      have HW:=ak (And.intro f4 (And.intro x4 (And.intro n4 b4)))
      obtain⟨d,hd⟩:=ay (aah e ul v4)
      rw[hd]at HW⊢
      have HD:=ak hd
      refine hK _ _ S0 ?_
      clear hK K s4 f4 x4 n4 b4 CL zm hd
      refine tk3 7 8 9 ?_
      refine aT 10 λK hK=>?_
      go_simp
      obtain⟨b3,w5,eH,hb5,ba,R3⟩:=al5 HSt
      rw[eH,hb5]
      have l3:w3.heap.size<=b3:=by rw[<-hb5];exact S0.2.size
      replace S0:=And.intro (S0.1.trans (Kt.of ba)) (S0.2.trans (ba.mono HSt.lt))
      replace HSt:=HSt.below ba
      refine hK _ _ S0 ?_
      clear hK K eH hb5 ba
      refine aT 11 λK hK=>?_
      go_simp
      obtain⟨y0,y1,y2,y3,y4⟩:=R3.cells
      have f0:=R3.free 0;have f1:=R3.free 1;have f2:=R3.free 2;have f3:=R3.free 3;have f4:=R3.free 4
      obtain⟨w6,dH,s6,R6,bl6⟩:=st5 HSt R3 d
      go_simp
      replace S0:=And.intro (S0.1.then (bl6 _ _ l3 (af6 _ _))) (bl6 _ _ (af9 (af9 gJ.o (af9 eG.o HY.o.2.2.size)) l3) S0.2)
      refine hK _ _ S0 ?_
      clear hK K y0 y1 y2 y3 y4 f0 f1 f2 f3 f4 R3 HSt dH bl6 l3
      refine tk1 12 ?_
      refine aO ?_
      obtain⟨x0,x1,x2,x3,x4⟩:=R6.cells
      have akZ:W.heap.size<=w6.heap.size:=af9 eG.o (af9 HY.o.2.2.size S0.2.size)
      have hB6:Eds W.heap.size w6 (.slice qa k qc) R:=aP.keep (HK.o.back.below HY.o.2.2) (S0.1.lX (by decide) (by decide))
      have hI6:Ids W.heap.size w6 (.slice (some ⟨g9,0,none⟩) m pc) ids:=aP.keep (HK.o.lie.below HY.o.2.2) (S0.1.lX (by decide) (by decide))
      have zH:=ak hB6;have HI6:=ak hI6;have xX:=ak s6
      have HZ:=ak S0
      have hsz:(R.length+1)*40<=140737488355328:=by rw[HRK.o];have:=HY.o.1;omega
      clear m9 z0 z1 z2 z3 z4 S0 hB6 hI6 s6 R6
      go_wp2_with (first
       | (at_builtin;refine bP (v:=.slice qa k qc) acf aax rfl _ _ rfl rfl zH.o d rfl rfl ?c1 ?c2 akZ ?_))
      case c1=>simp[abE,Value.oneCell']
      case c2=>exact hsz
      intro v7 w7 fB Ad oI
      have xH:aA (EnK D n0 B most W E t L (k+1) v7 (.slice (some ⟨g9,0,none⟩) m pc) ids E1 (R++[d]) E4 w7):=ak (by
       obtain⟨f4,x4,n4,b4⟩:=HW.o
       have h:=HK.o
       have hd:=HD.o
       refine⟨fB,acD HI6.o zH.o Ad,by rw[<-hd];exact Pm.o E4 v4 (h.inv.ext x4) (by rw[hd];exact b4),xX.o.app' zH.o Ad (by decide) (by decide),f4,h.ext.trans x4,h.afI.trans x4,by have:=h.few;have:=HY.o.2.1;omega,((h.Dx.trans (HY.o.2.2.mono h.st.lt)).trans HZ.o.2).trans (oI.mono gJ.o),((h.kt.trans (Kt.of HY.o.2.2)).trans HZ.o.1).then oI⟩)
      clear fB Ad oI
      go_wp2_with fail
      go_roundw
      case rel=>exact⟨k+1,R++[d],E4,HY.o.1,rfl,xH.o⟩
      case measure=>have:=HY.o.1;simp[intOf];omega
     .go_simp
      obtain⟨b3,w5,eH,hb5,ba,R3⟩:=al5 HSt
      rw[eH,hb5]
      have l3:w3.heap.size<=b3:=by rw[<-hb5];exact S0.2.size
      replace S0:=And.intro (S0.1.trans (Kt.of ba)) (S0.2.trans (ba.mono HSt.lt))
      replace HSt:=HSt.below ba
      refine hK _ _ S0 ?_
      clear hK K eH hb5 ba
      refine aT 6 λK hK=>?_
      go_simp
      try with_reducible refine⟨rfl,?_⟩
      refine agq.2 ((Nz.o _ HSt).mono ?_)
      rintro r w4 ⟨E4,v4,rfl,s4,f4,x4,n4,b4,CL,zm⟩
      replace HSt:=s4
      try replace R3:=R3.kt zm
      replace S0:=And.intro (S0.1.trans zm) (S0.2.trans CL)
      have HW:=ak (And.intro f4 (And.intro x4 (And.intro n4 b4)))
      obtain⟨d,hd⟩:=ay (aah e ul v4)
      rw[hd]at HW⊢
      have HD:=ak hd
      refine hK _ _ S0 ?_
      clear hK K s4 f4 x4 n4 b4 CL zm hd
      refine tk3 7 8 9 ?_
      refine aT 11 λK hK=>?_
      go_simp
      obtain⟨y0,y1,y2,y3,y4⟩:=R3.cells
      have f0:=R3.free 0;have f1:=R3.free 1;have f2:=R3.free 2;have f3:=R3.free 3;have f4:=R3.free 4
      obtain⟨w6,dH,s6,R6,bl6⟩:=st5 HSt R3 d
      go_simp
      replace S0:=And.intro (S0.1.then (bl6 _ _ l3 (af6 _ _))) (bl6 _ _ (af9 (af9 gJ.o (af9 eG.o HY.o.2.2.size)) l3) S0.2)
      refine hK _ _ S0 ?_
      clear hK K y0 y1 y2 y3 y4 f0 f1 f2 f3 f4 R3 HSt dH bl6 l3
      refine tk1 12 ?_
      refine aO ?_
      obtain⟨x0,x1,x2,x3,x4⟩:=R6.cells
      have akZ:W.heap.size<=w6.heap.size:=af9 eG.o (af9 HY.o.2.2.size S0.2.size)
      have hB6:Eds W.heap.size w6 (.slice qa k qc) R:=aP.keep (HK.o.back.below HY.o.2.2) (S0.1.lX (by decide) (by decide))
      have hI6:Ids W.heap.size w6 (.slice (some ⟨g9,0,none⟩) m pc) ids:=aP.keep (HK.o.lie.below HY.o.2.2) (S0.1.lX (by decide) (by decide))
      have zH:=ak hB6;have HI6:=ak hI6;have xX:=ak s6
      have HZ:=ak S0
      have hsz:(R.length+1)*40<=140737488355328:=by rw[HRK.o];have:=HY.o.1;omega
      clear m9 z0 z1 z2 z3 z4 S0 hB6 hI6 s6 R6
      go_wp2_with (first
       | (at_builtin;refine bP (v:=.slice qa k qc) acf aax rfl _ _ rfl rfl zH.o d rfl rfl ?c1 ?c2 akZ ?_))
      case c1=>simp[abE,Value.oneCell']
      case c2=>exact hsz
      intro v7 w7 fB Ad oI
      have xH:aA (EnK D n0 B most W E t L (k+1) v7 (.slice (some ⟨g9,0,none⟩) m pc) ids E1 (R++[d]) E4 w7):=ak (by
       obtain⟨f4,x4,n4,b4⟩:=HW.o
       have h:=HK.o
       have hd:=HD.o
       refine⟨fB,acD HI6.o zH.o Ad,by rw[<-hd];exact Pm.o E4 v4 (h.inv.ext x4) (by rw[hd];exact b4),xX.o.app' zH.o Ad (by decide) (by decide),f4,h.ext.trans x4,h.afI.trans x4,by have:=h.few;have:=HY.o.2.1;omega,((h.Dx.trans (HY.o.2.2.mono h.st.lt)).trans HZ.o.2).trans (oI.mono gJ.o),((h.kt.trans (Kt.of HY.o.2.2)).trans HZ.o.1).then oI⟩)
      clear fB Ad oI
      go_wp2_with fail
      go_roundw
      case rel=>exact⟨k+1,R++[d],E4,HY.o.1,rfl,xH.o⟩
      case measure=>have:=HY.o.1;simp[intOf];omega
    .obtain rfl:k=j:=by omega
     have oI:=hK.back
     have hlo:W.heap.size<=wr.heap.size:=hK.Dx.size
     have HRV:=ak (adq hlo oI (by rw[hRk];omega))
     have HO:=ak hlo
     clear hK hRk hk oI hlo
     go_wp2_with fail
     refine HRV.o.mono ?_
     rintro r w8 ⟨rfl,h8,b8,o8⟩
     have HR:aA (alr n0 B most D E W t L (.returned (.tuple #[.slice qa k qc,.nilIface])) w8):=ak (by
      have h:=HK.o
      have hnl:=jU.o
      refine⟨E2,_,R,rfl,h.st.OG o8 (by decide) (by decide),h.wf,h.ext,by have:=h.few;rw[hnl]at this⊢;exact this,h8,?_,h.Dx.trans (b8.mono gJ.o),h.kt.then b8⟩
      have:=h.inv
      rwa [agI (by omega)]at this)
     clear h8 b8 o8
     go_wp2_with fail
     go_ret2
     exact HR.o
end
end M
end Go.Proofs.YtgbhohfabhilgaaGreatDoor
namespace Go.Proofs.YtgbhohfabhilgaaGreatDoor
open Go.ChangeShapes Go.WideShapes Go.ChangeAt Go.RowKit Go.OpenShut Go.ChangeMaps Go.Deep
namespace M
variable{hd:Bool}{base fuel:Nat}{H:Type}{c0 v:Value}{W:World}
structure Eax where
 kind:Int
 pos:Int
 n:Int
 af4:Int
 id:Int
instance:Inhabited Eax:=⟨⟨0,0,0,0,0⟩⟩
def abZ(W:World)(b:Addr)(x:Eax):Prop:=W.cell? b=some (.int .i64 x.kind)/\W.cell? ⟨b.block,b.off+1,none⟩=some (.int .i64 x.pos)/\W.cell? ⟨b.block,b.off+2,none⟩=some (.int .i64 x.n)/\W.cell? ⟨b.block,b.off+3,none⟩=some (.int .i64 x.af4)/\W.cell? ⟨b.block,b.off+4,none⟩=some (.int .i64 x.id)
def adx(W:World)(v:Value)(S:List Eax):Prop:=∃a c,v=.slice a S.length c/\S.length<=c/\c<=maxLen/\∀i (hi:i<S.length),∃b:Addr,a=some b/\b.block<W.heap.size/\abZ W (b.add (i*5)) S[i]
def ady(W:World)(v:Value)(S:List ByteArray):Prop:=∃a c,v=.slice a S.length c/\S.length<=c/\c<=maxLen/\∀i (hi:i<S.length),∃b:Addr,a=some b/\b.block<W.heap.size/\W.cell? (b.add i)=some (.string S[i])
theorem adz:Tryz.prog.cellsOf 86=5:=by kernel_rfl
theorem afN:Tryz.prog.cellsOf 9=1:=by kernel_rfl
theorem acn:∃f0 f1 f2 f3 f4:Field,Tryz.prog.underlying 86=some (.struct #[f0,f1,f2,f3,f4])/\(f0.type=3/\f0.offset=0)/\(f1.type=3/\f1.offset=1)/\(f2.type=3/\f2.offset=2)/\(f3.type=3/\f3.offset=3)/\(f4.type=27/\f4.offset=4):=⟨_,_,_,_,_,Tryz.underlying86,⟨rfl,rfl⟩,⟨rfl,rfl⟩,⟨rfl,rfl⟩,⟨rfl,rfl⟩,⟨rfl,rfl⟩⟩
theorem cells5{l:List Value}(h:l.length=5):∃a b c d e,l=[a,b,c,d,e]:=by
 match l,h with
 | [a,b,c,d,e],_=>exact⟨a,b,c,d,e,rfl⟩
theorem adA{enc:TypeId×Value->H}{sp:Nat->Bool}{n:Nat}{cs:List Value}{x:DataW H×List MemPlace}(h:DataW.trod enc Tryz.prog W base sp hd n 86 cs=some x)(hl:cs.length=5):
    ∃s:Eax,cs=[.int .i64 s.kind,.int .i64 s.pos,.int .i64 s.n,.int .i64 s.af4,.int .i64 s.id]:=by
 obtain⟨f0,f1,f2,f3,f4,hs,⟨t0,o0⟩,⟨t1,o1⟩,⟨t2,o2⟩,⟨t3,o3⟩,⟨t4,o4⟩⟩:=acn
 obtain⟨a,b,c,d,e,rfl⟩:=cells5 hl
 obtain⟨xs,m,-,-,-,hx,hf⟩:=DataW.trod_struct hs h
 have hx2:xs.length=5:=hx
 have h0:=hf 0 f0 rfl;have h1:=hf 1 f1 rfl;have h2:=hf 2 f2 rfl;have h3:=hf 3 f3 rfl;have h4:=hf 4 f4 rfl
 have eI:Tryz.prog.cellsOf 3=1:=by kernel_rfl
 have eD:Tryz.prog.cellsOf 27=1:=by kernel_rfl
 rw[t0,o0,eI]at h0;rw[t1,o1,eI]at h1;rw[t2,o2,eI]at h2;rw[t3,o3,eI]at h3;rw[t4,o4,eD]at h4
 simp only[agj,agr,aiH,ah5]at h0 h1 h2 h3 h4
 rw[agt (by omega)]at h0 h1 h2 h3 h4
 obtain⟨y0,g0,-,-⟩:=DataW.trod_int Tryz.underlying3 h0
 obtain⟨y1,g1,-,-⟩:=DataW.trod_int Tryz.underlying3 h1
 obtain⟨y2,g2,-,-⟩:=DataW.trod_int Tryz.underlying3 h2
 obtain⟨y3,g3,-,-⟩:=DataW.trod_int Tryz.underlying3 h3
 obtain⟨y4,g4,-,-⟩:=DataW.trod_int Tryz.underlying27 h4
 simp only[ajG,aht]at g0 g1 g2 g3 g4
 subst g0 g1 g2 g3 g4
 exact⟨⟨y0,y1,y2,y3,y4⟩,rfl⟩
theorem acR{enc:TypeId×Value->H}{sp:Nat->Bool}{x:DataW H×List MemPlace}(hf:DataW.trod enc Tryz.prog W base sp hd fuel 81 [c0]=some x):∃S,adx W c0 S:=by
 rcases open_slice Tryz.underlying81 hf with⟨e,-⟩|⟨a,len,cap,m,n,D,Pl,e,-,hl,hm,hmm,-,hi⟩
 .simp only[ajG,aht]at e
  subst e
  exact⟨[],none,0,rfl,by simp,by unfold maxLen;omega,λi h=>by cases h⟩
 .simp only[ajG,aht]at e
  subst e
  have hall:∀i,i<len->∃x:Eax,abZ W (a.add (i*5)) x:=by
   intro i hil
   obtain⟨cs,hc,ht⟩:=hi i (by rw[hmm];split<;>omega)
   rw[adz]at hc
   obtain⟨-,hcl,hat⟩:=World.cells?_some hc
   obtain⟨x,rfl⟩:=adA ht hcl
   have q0:=hat 0 (by omega);have q1:=hat 1 (by omega);have q2:=hat 2 (by omega);have q3:=hat 3 (by omega);have q4:=hat 4 (by omega)
   rw[add_succ']at q1 q2 q3 q4
   rw[add_zero']at q0
   exact⟨x,q0,q1,q2,q3,q4⟩
  have hbl:0<len->a.block<W.heap.size:=λh0=>by
   obtain⟨x,q,-⟩:=hall 0 h0
   have:=Ma q
   rwa [add_block]at this
  obtain⟨f,hf⟩:=choose_lt hall
  refine⟨(List.range len).map f,some a,cap,by simp,by simpa using hl,hm,λi hil=>?_⟩
  have hil':i<len:=by simpa using hil
  refine⟨a,rfl,hbl (by omega),?_⟩
  simp only[aiK,aj3]
  exact hf i hil'
theorem adC{enc:TypeId×Value->H}{sp:Nat->Bool}{x:DataW H×List MemPlace}(hf:DataW.trod enc Tryz.prog W base sp hd fuel 82 [c0]=some x):∃S,ady W c0 S:=by
 rcases open_slice Tryz.underlying82 hf with⟨e,-⟩|⟨a,len,cap,m,n,D,Pl,e,-,hl,hm,hmm,-,hi⟩
 .simp only[ajG,aht]at e
  subst e
  exact⟨[],none,0,rfl,by simp,by unfold maxLen;omega,λi h=>by cases h⟩
 .simp only[ajG,aht]at e
  subst e
  have hall:∀i,i<len->∃x:ByteArray,W.cell? (a.add i)=some (.string x):=by
   intro i hil
   obtain⟨cs,hc,ht⟩:=hi i (by rw[hmm];split<;>omega)
   rw[afN,ag3]at hc
   obtain⟨-,hcl,hat⟩:=World.cells?_some hc
   match cs,hcl with
   | [c],_=>
    obtain⟨y,g,-,-⟩:=DataW.trod_string Tryz.underlying9 ht
    simp only[ajG,aht]at g
    subst g
    have q0:=hat 0 (by simp)
    rw[add_zero']at q0
    exact⟨y,q0⟩
  have hbl:0<len->a.block<W.heap.size:=λh0=>by
   obtain⟨x,q⟩:=hall 0 h0
   have:=Ma q
   rwa [add_block]at this
  obtain⟨f,hf⟩:=choose_lt hall
  refine⟨(List.range len).map f,some a,cap,by simp,by simpa using hl,hm,λi hil=>?_⟩
  have hil':i<len:=by simpa using hil
  refine⟨a,rfl,hbl (by omega),?_⟩
  simp only[aiK,aj3]
  exact hf i hil'
theorem acS{enc:TypeId×Value->H}{sp:Nat->Bool}{d:DataW H}{p:List MemPlace}(hv:∃a0 len cap,v=.slice a0 len cap)(h:DataW.Trod enc Tryz.prog W base sp hd 81 v d p):∃S,adx W v S:=by
 obtain⟨a0,len,cap,rfl⟩:=hv
 obtain⟨fuel,hf⟩:=h
 exact acR hf
theorem adD{enc:TypeId×Value->H}{sp:Nat->Bool}{d:DataW H}{p:List MemPlace}(hv:∃a0 len cap,v=.slice a0 len cap)(h:DataW.Trod enc Tryz.prog W base sp hd 82 v d p):∃S,ady W v S:=by
 obtain⟨a0,len,cap,rfl⟩:=hv
 obtain⟨fuel,hf⟩:=h
 exact adC hf
end M
end Go.Proofs.YtgbhohfabhilgaaGreatDoor
namespace Go.Proofs.YtgbhohfabhilgaaGreatDoor
open Go.RowKit Go.Lib
namespace M
theorem adF:GZ 18 9000:=⟨by decide,by decide⟩
theorem ab0:eaK 18=8360:=rfl
theorem ak0:bZ 18=2035:=rfl
section
variable {n0 B g pa mb kb:Nat} {E:List En} {W:World}
variable{t:List Nat}{b0 i:Nat}
theorem ab1(hwf:iE E)(hb:fT E i t)(ht:t.length<=3000):∃L:List Sy,L.length<=34*t.length/\(∀y∈L,(aV y).length<=3000)/\∀F:List Sy,(∀y∈L,y∈F)->i=0\/Need F E i:=by
 rcases agP i with h0|h0
 .exact⟨[],by simp,by simp,λ_ _=> .inl h0⟩
 .have hd:(aF E i).depth<=16:=by
   have h1:=(hb.Ig h0).least hwf
   apply ahk
   intro hn
   have h2:=o9 ((aF E i).depth-17) 17
   rw[show 17+((aF E i).depth-17)=(aF E i).depth by omega]at h2
   have h3:(Aw 17).1=4181:=by decide
   omega
  obtain⟨L,l1,l2,l3⟩:=VN hwf 16 (hb.Ig h0) hd
  exact⟨L,by omega,λy hy=>af9 (l2 y hy) ht,λF hF=> .inr (l3 F hF)⟩
theorem ab2(h:jO n0 W B g pa mb kb E){a b:Nat}{s:List Nat}(hA:fT E a s)(hB:fT E b t)(hs:s.length<=3000)(ht:t.length<=3000)(hE:E.length+34*(s.length+t.length)<=1048575):
    Calls Tryz.prog 27 #[.pointer (some ⟨mb,0,none⟩),vI a,vI b] W λe w'=>∃E',e=.returned (.tuple #[.bool (decide (s=t)),.nilIface])/\mM n0 B g pa mb kb (34*(s.length+t.length)) E E' W w':=by
 obtain⟨L1,a1,a2,a3⟩:=ab1 h.wf hA hs
 obtain⟨L2,b1,b2,b3⟩:=ab1 h.wf hB ht
 obtain⟨K,hm⟩:=h.mem
 have hP:gV n0 B 1048576 g (syms E++(L1++L2)) E W:=h.pst (λy hy=>by simp[hy]) (by rw[af8,af8,bN];omega) (λy hy=>by
  rcases ags.1 hy with q|q
  .exact Uj h.wf.wf y q
  .rcases ags.1 q with q|q
   .have:=a2 y q;omega
   .have:=b2 y q;omega)
 have:=T9 hP hm (a3 _ (λy hy=>by simp[hy])) (by rw[hA.txt];omega) (b3 _ (λy hy=>by simp[hy])) (by rw[hB.txt];omega)
 rw[hA.txt,hB.txt]at this
 refine this.mono ?_
 rintro e w' ⟨E',K',rfl,hg,hm'⟩
 have dW:=WZ hg.st
 rw[af8,af8,bN]at dW
 exact⟨E',rfl,⟨⟨hg.st.st,hg.st.wf,hg.st.kt,K',hm'⟩,hg.ext,by omega,hg.below,.km hg.km⟩⟩
theorem acT(h:jO n0 W B g pa mb kb E)(hb:fT E i t)(hE:E.length<=1048576):∃u:Wt,u.len=t.length/\Calls Tryz.prog 36 #[.pointer (some ⟨B,0,none⟩),vI i] W λe w'=>e=.returned (.tuple #[wK u,.nilIface])/\Below W.heap.size W w':=
 ⟨(aF E i).w,(hb.len h.wf).2,dS h.st hb.le hE⟩
def EadP(n0 B g pa mb kb:Nat)(E:List En)(W:World)(t u:List Nat)(e:Edt)(r:Ending)(w':World):Prop:=
 (abV t e/\∃E' j,r=.returned (.tuple #[vI j,.nilIface])/\jO n0 w' B g pa mb kb E'/\Ext E E'/\E'.length<=E.length+8360/\fT E' j (edT t u e)/\Below n0 W w'/\Kt B W w')\/(∃c:Int,r=.returned (.tuple #[.int .i64 0,erV c])/\Below W.heap.size W w')
theorem ak1(h:jO n0 W B g pa mb kb E){u:List Nat}(hb:fT E i t){e:Edt}(hu:fT E e.id u)(hu0:e.kind=4\/e.kind=5->u=[])(ht:t.length<=3000)(EX:u.length<=3000)(hE:E.length+8360<=1048575):
    Calls Tryz.prog 35 #[.pointer (some ⟨B,0,none⟩),vI i,edV e] W (EadP n0 B g pa mb kb E W t u e):=by
 refine(acw adF h.st h.wf hb hu hu0 (by omega) (by omega) (by rw[ab0];omega) (by rw[ab0];omega)).mono ?_
 rintro r w' (⟨hf,E',j,rfl,s',f',x',n',b',bb,kk⟩|⟨-,c,rfl,bb⟩)
 .exact .inl ⟨hf,E',j,rfl,h.kt' s' f' x' kk bb,x',by rw[ab0]at n';exact n',b',bb,kk⟩
 .exact .inr ⟨c,rfl,bb⟩
theorem acE(h:jO n0 W B g pa mb kb E)(hb:fT E i t){v:Value}{L:List Edt}(hv:Eds b0 W v L)(hL:aau E 9000 t L)(hn:L.length<=8)(hE:E.length+66880<=1048575):
    Calls Tryz.prog 38 #[.pointer (some ⟨B,0,none⟩),vI i,v] W λr w'=>∃E' j,r=.returned (.tuple #[vI j,.nilIface])/\jO n0 w' B g pa mb kb E'/\Ext E E'/\E'.length<=E.length+66880/\fT E' j (aaf E t L)/\Below n0 W w'/\Kt B W w':=by
 have hm:L.length*eaK 18<=66880:=by rw[ab0];omega
 refine(adk adF h.st h.wf hb hv hL (by omega) (by omega) (by omega) (by omega)).mono ?_
 rintro r w' ⟨E',j,rfl,s',f',x',n',b',bb,kk⟩
 exact⟨E',j,rfl,h.kt' s' f' x' kk bb,x',by omega,b',bb,kk⟩
theorem afO(h:jO n0 W B g pa mb kb E)(hb:fT E i t){v:Value}{L:List Edt}(hv:Eds b0 W v L)(hL:aau E 9000 t L)(hn:L.length<=8)(hlen:∀q≤L.length,(aaf E t (L.take q)).length<=3000)(hE:E.length+83160<=1048575):
    Calls Tryz.prog 39 #[.pointer (some ⟨B,0,none⟩),vI i,v] W λr w'=>∃E' v' R,r=.returned (.tuple #[v',.nilIface])/\jO n0 w' B g pa mb kb E'/\Ext E E'/\E'.length<=E.length+83160/\Eds W.heap.size w' v' R/\R.length=L.length/\aau E' 9000 (aaf E t L) R/\aaf E' (aaf E t L) R=t/\Below n0 W w'/\Kt B W w':=by
 have hm:L.length*eaK 18<=66880:=by rw[ab0];omega
 have hm2:L.length*bZ 18<=16280:=by rw[ak0];omega
 refine(ads adF h.st h.wf hb hv hL (by omega) (by omega) (by omega) (by omega)).mono ?_
 rintro r w' ⟨E',v',R,rfl,s',f',x',n',hv',hi,bb,kk⟩
 have hid:=hL.id
 have hr:=aar x' L t hid
 obtain⟨k1,k2⟩:=adn (N:=3000) (by omega) (by omega) L.length L R rfl (hL.ext x') (λj hj=>by rw[aar x' _ _ (λe he=>hid e (ahJ he))];exact hlen j hj) (hi.fin x' hid)
 rw[hr]at k1 k2
 exact⟨E',v',R.reverse,rfl,h.kt' s' f' x' kk bb,x',by omega,hv',by rw[ajw];exact hi.1,k1,k2,bb,kk⟩
end
structure WeJ(n0 B g pa mb kb gd T x:Nat)(t:List Nat)(E0:List En)(W3:World)(j:Nat)(dv:Value)(k:Nat)(L:List Edt)(X:List Nat)(E1:List En)(wr:World):Prop where
 dk:jO n0 wr B g pa mb kb E1
 ext:Ext E0 E1
 few:E1.length<=E0.length+j*8500
 Dx:Below n0 W3 wr
 box:wr.heap[gd]?=some (.cells #[.pointer (some ⟨B,0,none⟩),.pointer (some ⟨mb,0,none⟩)] 57 (0,0))
 lie:Eds n0 wr dv L
 ok:aau E1 9000 t L
 len:L.length<=j
 tx3:∀q≤L.length,(aaf E1 t (L.take q)).length<=3000
 now:fT E1 k (aaf E1 t L)
 tre:∃v N,aas n0 wr T v N X L.length
 xl:X.length=L.length+1
 x0:X[0]?=some x
 xk:X[L.length]?=some k
 hx:fT E1 x t
section
variable {n0 B g pa mb kb gd T x:Nat} {t:List Nat} {E0:List En} {W3:World} {j:Nat} {dv:Value} {k:Nat} {L:List Edt} {X:List Nat} {E1:List En} {wr:World}
theorem WeJ.call(h:WeJ n0 B g pa mb kb gd T x t E0 W3 j dv k L X E1 wr){E2:List En}{w:World}(hd:jO n0 w B g pa mb kb E2)(hx:Ext E1 E2){j':Nat}(hj:j<=j')(hn:E2.length<=E0.length+j'*8500)(hb:Below n0 wr w)(hk:Kt B wr w):WeJ n0 B g pa mb kb gd T x t E0 W3 j' dv k L X E2 w:=by
 have hid:=h.ok.id
 have hr:=aar hx L t hid
 refine⟨hd,h.ext.trans hx,hn,h.Dx.trans hb,hk.cells _ (by decide) (by decide) _ _ _ h.box,h.lie.kt hk,h.ok.ext hx,af9 h.len hj,λq hq=>?_,by rw[hr];exact h.now.ext hx,?_,h.xl,h.x0,h.xk,h.hx.ext hx⟩
 .rw[aar hx _ _ (λe he=>hid e (ahJ he))];exact h.tx3 q hq
 .obtain⟨v,N,ht⟩:=h.tre
  exact⟨v,N,ht.kd (.kt hk)⟩
theorem WeJ.below(h:WeJ n0 B g pa mb kb gd T x t E0 W3 j dv k L X E1 wr){w:World}(hb:Below wr.heap.size wr w){j':Nat}(hj:j<=j'):WeJ n0 B g pa mb kb gd T x t E0 W3 j' dv k L X E1 w:=
 h.call (h.dk.below hb) (Ext.refl _) hj (by have:=h.few;omega) (hb.mono h.dk.st.lt) (.of hb)
theorem WeJ.step(h:WeJ n0 B g pa mb kb gd T x t E0 W3 j dv k L X E1 wr){e:Edt}(he:EOk E1 9000 (aaf E1 t L) e){E2:List En}{w:World}{k2 j':Nat}(hd:jO n0 w B g pa mb kb E2)(hx:Ext E1 E2)(hj:L.length+1<=j')(hn:E2.length<=E0.length+j'*8500)(hb:Below n0 wr w)(Fg:w.heap[gd]?=some (.cells #[.pointer (some ⟨B,0,none⟩),.pointer (some ⟨mb,0,none⟩)] 57 (0,0))){dv2:Value}(adw:Eds n0 w dv2 (L++[e]))(acV:fT E2 k2 (edT (aaf E1 t L) (txt E1 e.id) e))(hlen:(edT (aaf E1 t L) (txt E1 e.id) e).length<=3000)(htre:∃v N,aas n0 w T v N (X++[k2]) X.length):
    WeJ n0 B g pa mb kb gd T x t E0 W3 j' dv2 k2 (L++[e]) (X++[k2]) E2 w:=by
 have hok2:=h.ok.snoc he
 have hid:=hok2.id
 have hr:aaf E2 t (L++[e])=edT (aaf E1 t L) (txt E1 e.id) e:=by rw[aar hx _ t hid,aaO]
 have hl:(L++[e]).length=X.length:=by rw[h.xl];simp
 refine⟨hd,h.ext.trans hx,hn,h.Dx.trans hb,Fg,adw,hok2.ext hx,by simp;omega,λq hq=>?_,by rw[hr];exact acV,by rw[hl];exact htre,by rw[hl];simp,by rw[agV (by rw[h.xl];omega)];exact h.x0,by rw[hl,agN (af7 _)];simp,h.hx.ext hx⟩
 by_cases hq2:q<=L.length
 .rw[ahP hq2,aar hx _ _ (λd hd=>h.ok.id d (ahJ hd))]
  exact h.tx3 q hq2
 .rw[agI (by simp;omega),hr];exact hlen
end
end M
end Go.Proofs.YtgbhohfabhilgaaGreatDoor
