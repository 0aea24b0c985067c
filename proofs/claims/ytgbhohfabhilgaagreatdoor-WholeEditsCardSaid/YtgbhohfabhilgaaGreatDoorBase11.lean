import Derived.Test.YtgbhohfabhilgaaGreatDoorBase10
set_option maxRecDepth 100000
set_option maxHeartbeats 8000000
set_option linter.unusedVariables false
set_option linter.unusedSimpArgs false
namespace Go.Proofs.YtgbhohfabhilgaaGreatDoor
section
open Go.RowKit Go.Lib
namespace M
attribute [local go_sem] Oper.semAt_some
variable{e:Ending}{E:List En}{t t2:List Nat}{B hi hi2 k k2 lo lo2 most n0:Nat}{W w' w1:World}
def wZ(n0 B most k lo hi:Nat)(E:List En)(W:World)(t:List Nat)(e:Ending)(w':World):Prop:=∃(E':List En) (id d:Nat),e=.returned (.tuple #[.int .i64 (id:Nat),.nilIface])/\aW n0 w' B most E'/\iE E'/\Ext E E'/\E'.length<=E.length+k/\lY E' id t d/\(lo<=d/\d<=hi)/\Below n0 W w'/\Kt B W w'
theorem wZ.ret(h:wZ n0 B most k lo hi E W t e w'):∃id:Nat,e=.returned (.tuple #[.int .i64 id,.nilIface]):=by
 obtain⟨E',id,d,rfl,-⟩:=h;exact⟨id,rfl⟩
theorem wZ.after{k1:Nat}{E1:List En}(h:wZ n0 B most k2 lo2 hi2 E1 w1 t2 e w')(ht:t2=t)(hx:Ext E E1)(hn:E1.length<=E.length+k1)(hk:k1+k2<=k)(hl:lo<=lo2)(hh:hi2<=hi)(hb:Below n0 W w1)(hkt:Kt B W w1):wZ n0 B most k lo hi E W t e w':=by
 obtain⟨E',id,d,he,s,f,x,n,bl,dd,b,kt⟩:=h;subst ht;exact⟨E',id,d,he,s,f,hx.trans x,by omega,bl,⟨by omega,by omega⟩,hb.trans b,hkt.trans kt⟩
theorem wZ.read(h:wZ n0 B most k2 lo2 hi2 E w1 t2 e w')(ht:t2=t)(hk:k2<=k)(hl:lo<=lo2)(hh:hi2<=hi)(hb:Below W.heap.size W w1)(hn:n0<=W.heap.size):wZ n0 B most k lo hi E W t e w':=
 h.after (k1:=0) ht (Ext.refl _) (by omega) (by omega) hl hh (hb.mono hn) (Kt.of hb)
section
variable {n0 B most:Nat} {W:World} {E:List En}
variable{s t u:List Nat}{a b c d da db dc dl dr i:Nat}
theorem kK(hs:aW n0 W B most E)(hwf:iE E){l r:Nat}(hl:lY E l s dl)(hr:lY E r t dr)(hd:dl<=dr+1/\dr<=dl+1)(hlen:s.length+t.length<=1152921504606846976)(hroom:E.length+1<=most)(hE:E.length+1<=1048576):
    Calls Tryz.prog 129 #[.pointer (some ⟨B,0,none⟩),.int .i64 l,.int .i64 r] W (wZ n0 B most 1 (1+max dl dr) (1+max dl dr) E W (s++t)):=by
 obtain⟨a1,a2,a3,a4,a5⟩:=Ie hwf hl hr hd hlen;refine(Bz hs hwf.wf hl.le hr.le (by omega) (by omega)).mono ?_;rintro e w' ⟨rfl,s',b',k'⟩;rw[a1];exact⟨_,_,_,rfl,s',a2,a3,a4,a5,⟨af7 _,af7 _⟩,b',k'⟩
theorem MP(hs:aW n0 W B most E)(hwf:iE E)(ha:lY E a s da)(hb:lY E b t db)(hc:lY E c u dc)(hd:(db<=dc+1/\dc<=db+1)/\da<=1+max db dc+1/\1+max db dc<=da+1)(hlen:s.length+(t.length+u.length)<=1152921504606846976)(hroom:E.length+2<=most)(hE:E.length+2<=1048576):
    Calls Tryz.prog 218 #[.pointer (some ⟨B,0,none⟩),.int .i64 a,.int .i64 b,.int .i64 c] W (wZ n0 B most 2 (1+max da (1+max db dc)) (1+max da (1+max db dc)) E W (s++(t++u))):=by
 have H1:=ak (kK hs hwf hb hc hd.1 (by omega) (by omega) (by omega));have HA:=ak ha;have HD:=ak (And.intro hd.2 (And.intro hlen (And.intro hroom hE)));go_enter Tryz.func218,Tryz.ntmps218;go_wp2_with fail
 refine H1.o.mono ?_;rintro e w1 ⟨E1,i1,d1,rfl,s1,f1,x1,n1,Xt,dd1,b1,k1⟩;have H2:=ak (kK s1 f1 (HA.o.ext x1) Xt (by have:=HD.o;omega) (by rw[af8];have:=HD.o;omega) (by have:=HD.o;omega) (by have:=HD.o;omega));have HX:=ak x1;have HN:=ak n1;have HB:=ak b1;have HK:=ak k1;have Oy:=ak dd1;go_wp2_with fail
 refine H2.o.mono ?_;intro e w2 hj;obtain⟨i2,rfl⟩:=hj.ret;have HZ:aA (wZ n0 B most 2 (1+max da (1+max db dc)) (1+max da (1+max db dc)) E W (s++(t++u)) (.returned (.tuple #[.int .i64 (i2:Nat),.nilIface])) w2):=ak (hj.after rfl HX.o HN.o (by omega) (by have:=Oy.o;omega) (by have:=Oy.o;omega) HB.o HK.o);go_wp2_with fail
 go_ret2;exact HZ.o
theorem IB(hs:aW n0 W B most E)(hwf:iE E){dd:Nat}{v:List Nat}(ha:lY E a s da)(hb:lY E b t db)(hc:lY E c u dc)(hd:lY E d v dd)(hh:((da<=db+1/\db<=da+1)/\(dc<=dd+1/\dd<=dc+1))/\1+max da db<=1+max dc dd+1/\1+max dc dd<=1+max da db+1)(hlen:s.length+t.length+(u.length+v.length)<=1152921504606846976)(hroom:E.length+3<=most)(hE:E.length+3<=1048576):
    Calls Tryz.prog 219 #[.pointer (some ⟨B,0,none⟩),.int .i64 a,.int .i64 b,.int .i64 c,.int .i64 d] W (wZ n0 B most 3 (1+max (1+max da db) (1+max dc dd)) (1+max (1+max da db) (1+max dc dd)) E W ((s++t)++(u++v))):=by
 have H1:=ak (kK hs hwf ha hb hh.1.1 (by omega) (by omega) (by omega));have HC:=ak (And.intro hc hd);have HD:=ak (And.intro hh (And.intro hlen (And.intro hroom hE)));go_enter Tryz.func219,Tryz.ntmps219;go_wp2_with fail
 refine H1.o.mono ?_;rintro e w1 ⟨E1,i1,d1,rfl,s1,f1,x1,n1,Xt,dd1,b1,k1⟩;have H2:=ak (MP s1 f1 Xt (HC.o.1.ext x1) (HC.o.2.ext x1) (by have:=HD.o;omega) (by rw[af8];have:=HD.o;omega) (by have:=HD.o;omega) (by have:=HD.o;omega));have HX:=ak x1;have HN:=ak n1;have HB:=ak b1;have HK:=ak k1;have Oy:=ak dd1;go_wp2_with fail
 refine H2.o.mono ?_;intro e w2 hj;obtain⟨i2,rfl⟩:=hj.ret;have HZ:aA (wZ n0 B most 3 (1+max (1+max da db) (1+max dc dd)) (1+max (1+max da db) (1+max dc dd)) E W ((s++t)++(u++v)) (.returned (.tuple #[.int .i64 (i2:Nat),.nilIface])) w2):=ak (hj.after rfl HX.o HN.o (by omega) (by have:=Oy.o;omega) (by have:=Oy.o;omega) HB.o HK.o);go_wp2_with fail
 go_ret2;exact HZ.o
theorem KS(hs:aW n0 W B most E)(hE:E.length<=1048576){r:Ru}(h0:0<i)(hi:i<=E.length)(hr:(aF E i).ru=r)(hl:r.left<=E.length/\(aF E r.left).depth=dl)(hrr:r.right<=E.length/\(aF E r.right).depth=dr):
    Calls Tryz.prog 195 #[.pointer (some ⟨B,0,none⟩),.int .i64 i] W λe w'=>e=.returned (.tuple #[.int .i64 r.left,.int .i64 r.right,.int .i64 dl,.int .i64 dr,.nilIface])/\Below W.heap.size W w':=by
 have HF:∀f,Fence.wide.fn f:=λ_=>trivial;have HR:=ak (iK hs h0 hi hE);rw[hr]at HR;have HDL:aA (∀w,Below W.heap.size W w->Calls Tryz.prog 130 #[.pointer (some ⟨B,0,none⟩),.int .i64 r.left] w λe w'=>e=.returned (.tuple #[.int .i64 dl,.nilIface])/\Below w.heap.size w w'):=ak (λw hw=>by have:=tK (hs.below hw) hl.1 hE;rwa [hl.2]at this);have HDR:aA (∀w,Below W.heap.size W w->Calls Tryz.prog 130 #[.pointer (some ⟨B,0,none⟩),.int .i64 r.right] w λe w'=>e=.returned (.tuple #[.int .i64 dr,.nilIface])/\Below w.heap.size w w'):=ak (λw hw=>by have:=tK (hs.below hw) hrr.1 hE;rwa [hrr.2]at this);unfold qN at HR;go_enter Tryz.func195,Tryz.ntmps195;go_wp2_with fail
 refine HR.o.mono ?_;rintro e w1 ⟨rfl,b1⟩;obtain⟨wz,w2,hz,hs1,kr,br,⟨r0,r1,r2,r3,r4⟩,e0,e1,e2,e3,e4⟩:=pF w1 r;obtain⟨gc,hgc⟩:=ay (w1.heap.size);rw[hgc]at hs1 kr r0 r1 r2 r3 r4 e0 e1 e2 e3 e4;obtain⟨y0,y1,y2,y3,y4⟩:=kr.cells;have HB2:=ak (Below.after b1 br);have KR:=ak kr;go_wp2_with fail
 refine(HDL.o w2 HB2.o).mono ?_;rintro e w3 ⟨rfl,b3⟩;have HB3:=ak (Below.after HB2.o b3);have KR3:=ak (show eP w3 gc r from au b3 KR.o);obtain⟨y0,y1,y2,y3,y4⟩:=KR3.o.cells;go_wp2_with fail
 refine(HDR.o w3 HB3.o).mono ?_;rintro e w4 ⟨rfl,b4⟩;have cB:=ak (Below.after HB3.o b4);have uj:=ak (show eP w4 gc r from au b4 KR3.o);have m2:∀w,Below w4.heap.size w4 w->w.cell? ⟨gc,2,none⟩=some (.int .i64 r.left):=λw hw=>(eP.cells (au hw uj.o)).2.2.1;have m3:∀w,Below w4.heap.size w4 w->w.cell? ⟨gc,3,none⟩=some (.int .i64 r.right):=λw hw=>(eP.cells (au hw uj.o)).2.2.2.1;go_wp2_with fail
 refine aU (Below w4.heap.size w4) ?_;have S0:Below w4.heap.size w4 w4.drew:=(af6 _ _).drew;refine bJ 0 1 2 3 4 5 ?_;refine zD 6 7 8 9 10 ?_;refine aO ?_;go_wp2_with fail
 exact af_ (v:=.tuple #[.int .i64 r.left,.int .i64 r.right,.int .i64 dl,.int .i64 dr,.nilIface]) (by simp[results,Tryz.results195,go_sem]) rfl ⟨rfl,Below.after cB.o S0⟩
theorem mI(hs:aW n0 W B most E)(hwf:iE E)(hE:E.length<=1048576)(h:lY E i t d)(hd:0<d):
    ∃l r s1 t1 d1 d2,lY E l s1 d1/\lY E r t1 d2/\t=s1++t1/\(d=1+max d1 d2/\d1<=d2+1/\d2<=d1+1)/\∀w,aW n0 w B most E->
    Calls Tryz.prog 195 #[.pointer (some ⟨B,0,none⟩),.int .i64 i] w λe w'=>e=.returned (.tuple #[.int .i64 l,.int .i64 r,.int .i64 d1,.int .i64 d2,.nilIface])/\Below w.heap.size w w':=by
 obtain⟨l,r,s1,t1,d1,d2,e,hl,hr,ht,hdd⟩:=h.split hwf hd;exact⟨l,r,s1,t1,d1,d2,hl,hr,ht,hdd,λw hw=>KS hw hE h.pos h.le e ⟨hl.le,hl.depth⟩ ⟨hr.le,hr.depth⟩⟩
theorem qz(hs:aW n0 W B most E)(hE:E.length<=1048576)(h:lY E i t d):Calls Tryz.prog 130 #[.pointer (some ⟨B,0,none⟩),.int .i64 i] W λe w'=>e=.returned (.tuple #[.int .i64 d,.nilIface])/\Below W.heap.size W w':=by
 have:=tK hs h.le hE;rwa [h.depth]at this
def JY(da db:Nat):Nat:=if da<=db+1/\db<=da+1 then 1+max da db else max da db
theorem Et(hs:aW n0 W B most E)(hwf:iE E)(ha:lY E a s da)(hb:lY E b t db)(hd:da<=db+2/\db<=da+2)(hlen:s.length+t.length<=1152921504606846976)(hroom:E.length+3<=most)(hE:E.length+3<=1048576):
    Calls Tryz.prog 196 #[.pointer (some ⟨B,0,none⟩),.int .i64 a,.int .i64 b] W (wZ n0 B most 3 (JY da db) (1+max da db) E W (s++t)):=by
 have FK:=ha.deep hwf;have FL:=hb.deep hwf;have hn0:=hs.lt;have QD:=ak (qz hs (by omega) ha);have Vk:aA (∀w,Below W.heap.size W w->Calls Tryz.prog 130 #[.pointer (some ⟨B,0,none⟩),.int .i64 b] w λe w'=>e=.returned (.tuple #[.int .i64 db,.nilIface])/\Below w.heap.size w w'):=ak (λw hw=>qz (hs.below hw) (by omega) hb);have w1:IntKind.i64.wrap ((db:Int)+1)=(db:Int)+1:=by rw[agd];omega
 have w2:IntKind.i64.wrap ((da:Int)+1)=(da:Int)+1:=by rw[agd];omega
 have gW:=ak hwf;have HS:=ak hs;have gJ:=ak hn0;have jU:aA (s.length+t.length<=1152921504606846976/\E.length+3<=most/\E.length+3<=1048576):=ak ⟨hlen,hroom,hE⟩;have HA:=ak ha;have Od:=ak hb;by_cases hab:db+1<da
 .obtain⟨l,r,s1,t1,d1,d2,hl,hr,rfl,hdd,HP⟩:=mI hs hwf (by omega) ha (by omega);have HP:=ak HP;have HL:=ak hl;have HR:=ak hr;have g1:(da:Int)>(db:Int)+1:=by omega
  have AL:aA (da=db+2/\(da=1+max d1 d2/\d1<=d2+1/\d2<=d1+1)):=ak ⟨by omega,hdd⟩;have eG:aA (JY da db=da):=ak (by unfold JY;rw[af4 (by omega)];omega);by_cases hge:d2<=d1
  case' _=>
   have g2:(d1:Int)>=(d2:Int):=by omega
   have HG:=ak hge
  rotate_left
  case' _=>
   have g2:¬(d1:Int)>=(d2:Int):=by omega
   have g3:(d1:Int)<(d2:Int):=by omega
   have HG:=ak hge;obtain⟨x,y,s2,t2,d3,d4,hx,hy,rfl,Rx,Oz⟩:=mI hs hwf (by omega) hr (by omega);have Oz:=ak Oz;have HX:=ak hx;have HY:=ak hy;have ZO:=ak Rx
  rotate_left
  all_goals
   go_enter Tryz.func196,Tryz.ntmps196;go_wp2_with fail
   refine QD.o.mono ?_;rintro e v1 ⟨rfl,b1⟩;have HB1:=ak b1;go_wp2_with fail
   refine(Vk.o v1 HB1.o).mono ?_;rintro e v2 ⟨rfl,b2⟩;have HB2:=ak (Below.after HB1.o b2);go_wp2_with fail
   refine(HP.o v2 (HS.o.below HB2.o)).mono ?_;rintro e v3 ⟨rfl,b3⟩;have HB3:=ak (Below.after HB2.o b3);go_wp2_with fail
  .have hnn:=jU.o;have hhd:=AL.o;have hg:=HG.o;rw[af8]at hnn;refine(MP (HS.o.below HB3.o) gW.o HL.o HR.o Od.o (by omega) (by omega) (by omega) (by omega)).mono ?_;intro e v4 hj;obtain⟨i2,rfl⟩:=hj.ret;have HZ:aA (wZ n0 B most 3 (JY da db) (1+max da db) E W ((s1++t1)++t) (.returned (.tuple #[.int .i64 (i2:Nat),.nilIface])) v4):=ak (hj.read (by rw[agf]) (by omega) (by rw[eG.o];omega) (by omega) HB3.o gJ.o);go_wp2_with fail
   go_ret2;exact HZ.o
  refine(Oz.o v3 (HS.o.below HB3.o)).mono ?_;rintro e v4 ⟨rfl,b4⟩;have cB:=ak (Below.after HB3.o b4);go_wp2_with fail
  have hnn:=jU.o;have hhd:=AL.o;have hg:=HG.o;have KX:=ZO.o;rw[af8,af8]at hnn;refine(IB (HS.o.below cB.o) gW.o HL.o HX.o HY.o Od.o (by omega) (by omega) (by omega) (by omega)).mono ?_;intro e v5 hj;obtain⟨i2,rfl⟩:=hj.ret;have HZ:aA (wZ n0 B most 3 (JY da db) (1+max da db) E W ((s1++(s2++t2))++t) (.returned (.tuple #[.int .i64 (i2:Nat),.nilIface])) v5):=ak (hj.read (by simp) (by omega) (by rw[eG.o];omega) (by omega) cB.o gJ.o);go_wp2_with fail
  go_ret2;exact HZ.o
 have g1:¬(da:Int)>(db:Int)+1:=by omega
 have g1':¬(db:Int)+1<(da:Int):=by omega
 by_cases hba:da+1<db
 .obtain⟨l,r,s1,t1,d1,d2,hl,hr,rfl,hdd,HP⟩:=mI hs hwf (by omega) hb (by omega);have HP:=ak HP;have HL:=ak hl;have HR:=ak hr;have g2:(db:Int)>(da:Int)+1:=by omega
  have AL:aA (db=da+2/\(db=1+max d1 d2/\d1<=d2+1/\d2<=d1+1)):=ak ⟨by omega,hdd⟩;have eG:aA (JY da db=db):=ak (by unfold JY;rw[af4 (by omega)];omega);by_cases hge:d2<d1
  case' _=>
   have g3:(d2:Int)<(d1:Int):=by omega
   have HG:=ak hge;obtain⟨x,y,s2,t2,d3,d4,hx,hy,rfl,Rx,Oz⟩:=mI hs hwf (by omega) hl (by omega);have Oz:=ak Oz;have HX:=ak hx;have HY:=ak hy;have ZO:=ak Rx
  rotate_left
  case' _=>
   have g3:¬(d2:Int)<(d1:Int):=by omega
   have HG:=ak hge
  rotate_left
  all_goals
   go_enter Tryz.func196,Tryz.ntmps196;go_wp2_with fail
   refine QD.o.mono ?_;rintro e v1 ⟨rfl,b1⟩;have HB1:=ak b1;go_wp2_with fail
   refine(Vk.o v1 HB1.o).mono ?_;rintro e v2 ⟨rfl,b2⟩;have HB2:=ak (Below.after HB1.o b2);go_wp2_with fail
   refine(HP.o v2 (HS.o.below HB2.o)).mono ?_;rintro e v3 ⟨rfl,b3⟩;have HB3:=ak (Below.after HB2.o b3)
  .go_wp2_with fail
   refine(Oz.o v3 (HS.o.below HB3.o)).mono ?_;rintro e v4 ⟨rfl,b4⟩;have cB:=ak (Below.after HB3.o b4);go_wp2_with fail
   have hnn:=jU.o;have hhd:=AL.o;have hg:=HG.o;have KX:=ZO.o;rw[af8,af8]at hnn;refine(IB (HS.o.below cB.o) gW.o HA.o HX.o HY.o HR.o (by omega) (by omega) (by omega) (by omega)).mono ?_;intro e v5 hj;obtain⟨i2,rfl⟩:=hj.ret;have HZ:aA (wZ n0 B most 3 (JY da db) (1+max da db) E W (s++((s2++t2)++t1)) (.returned (.tuple #[.int .i64 (i2:Nat),.nilIface])) v5):=ak (hj.read (by simp) (by omega) (by rw[eG.o];omega) (by omega) cB.o gJ.o);go_wp2_with fail
   go_ret2;exact HZ.o
  have hnn:=jU.o;have hhd:=AL.o;have hg:=HG.o;rw[af8]at hnn;have HQ:=ak (kK (HS.o.below HB3.o) gW.o HA.o HL.o (by omega) (by omega) (by omega) (by omega));go_wp2_with fail
  refine HQ.o.mono ?_;rintro e v4 ⟨E1,i1,d5,rfl,s4,f4,x4,n4,xW,Xu,b4,k4⟩;have hnn:=jU.o;have hhd:=AL.o;have hg:=HG.o;rw[af8]at hnn;have DJ:=ak (kK s4 f4 xW (HR.o.ext x4) (by omega) (by rw[af8];omega) (by omega) (by omega));have HX:=ak x4;have HN:=ak n4;have cB:=ak b4;have HK:=ak k4;have Oy:=ak Xu;go_wp2_with fail
  refine DJ.o.mono ?_;intro e v5 hj;obtain⟨i2,rfl⟩:=hj.ret;have HZ:aA (wZ n0 B most 3 (JY da db) (1+max da db) E W (s++(s1++t1)) (.returned (.tuple #[.int .i64 (i2:Nat),.nilIface])) v5):=ak (by
   have hhd:=AL.o;have hg:=HG.o;have h5:=Oy.o;exact hj.after (by simp) HX.o HN.o (by omega) (by rw[eG.o];omega) (by omega) ((HB3.o.mono gJ.o).trans cB.o) ((Kt.of HB3.o).trans HK.o))
  go_wp2_with fail
  go_ret2;exact HZ.o
 have g2:¬(db:Int)>(da:Int)+1:=by omega
 have g2':¬(da:Int)+1<(db:Int):=by omega
 have eG:aA (JY da db=1+max da db):=ak (by unfold JY;rw[af5 (by omega)]);have HAB:aA (da<=db+1/\db<=da+1):=ak (by omega);go_enter Tryz.func196,Tryz.ntmps196;go_wp2_with fail
 refine QD.o.mono ?_;rintro e v1 ⟨rfl,b1⟩;have HB1:=ak b1;go_wp2_with fail
 refine(Vk.o v1 HB1.o).mono ?_;rintro e v2 ⟨rfl,b2⟩;have HB2:=ak (Below.after HB1.o b2);have hnn:=jU.o;have HQ:=ak (kK (HS.o.below HB2.o) gW.o HA.o Od.o HAB.o (by omega) (by omega) (by omega));go_wp2_with fail
 refine HQ.o.mono ?_;intro e v5 hj;obtain⟨i2,rfl⟩:=hj.ret;have HZ:aA (wZ n0 B most 3 (JY da db) (1+max da db) E W (s++t) (.returned (.tuple #[.int .i64 (i2:Nat),.nilIface])) v5):=ak (hj.read rfl (by omega) (by rw[eG.o];omega) (by omega) HB2.o gJ.o);go_wp2_with fail
 go_ret2;exact HZ.o
end
variable{e:Ending}{E:List En}{s t:List Nat}{B D M a b i k most n0:Nat}{W w' w1:World}
def FM(da db:Nat):Nat:=3*((da-db)+(db-da))+1
theorem Ry:∀(m:Nat) {n0 B most:Nat} {W:World} {E:List En} {a b da db:Nat} {s t:List Nat},da+db=m->aW n0 W B most E->iE E->lY E a s da->lY E b t db->s.length+t.length<=1152921504606846976->E.length+FM da db<=most->E.length+FM da db<=1048576->
    Calls Tryz.prog 154 #[.pointer (some ⟨B,0,none⟩),.int .i64 a,.int .i64 b] W (wZ n0 B most (FM da db) (max da db) (1+max da db) E W (s++t)):=by
 intro m
 induction m using Nat.strongRecOn with
 |_ m ih=>
 intro n0 B most W E a b da db s t hm hs hwf ha hb hlen hroom hE;have FK:=ha.deep hwf;have FL:=hb.deep hwf;have hn0:=hs.lt;have hE':E.length<=1048576:=by omega
 have QD:=ak (qz hs hE' ha);have Vk:aA (∀w,Below W.heap.size W w->Calls Tryz.prog 130 #[.pointer (some ⟨B,0,none⟩),.int .i64 b] w λe w'=>e=.returned (.tuple #[.int .i64 db,.nilIface])/\Below w.heap.size w w'):=ak (λw hw=>qz (hs.below hw) hE' hb);have w1:IntKind.i64.wrap ((db:Int)+1)=(db:Int)+1:=by rw[agd];omega
 have w2:IntKind.i64.wrap ((da:Int)+1)=(da:Int)+1:=by rw[agd];omega
 have gW:=ak hwf;have HS:=ak hs;have gJ:=ak hn0;have jU:aA (s.length+t.length<=1152921504606846976/\E.length+(3*((da-db)+(db-da))+1)<=most/\E.length+(3*((da-db)+(db-da))+1)<=1048576):=ak ⟨hlen,hroom,hE⟩;have HA:=ak ha;have Od:=ak hb;have HM:=ak hm;have IH:=ak ih;by_cases hab:db+1<da
 .obtain⟨l,r,s1,t1,d1,d2,hl,hr,rfl,hdd,HP⟩:=mI hs hwf hE' ha (by omega);have HP:=ak HP;have HL:=ak hl;have HR:=ak hr;have g1:(da:Int)>(db:Int)+1:=by omega
  have AL:aA (db+1<da/\(da=1+max d1 d2/\d1<=d2+1/\d2<=d1+1)):=ak ⟨by omega,hdd⟩;go_enter Tryz.func154,Tryz.ntmps154;go_wp2_with fail
  refine QD.o.mono ?_;rintro e v1 ⟨rfl,b1⟩;have HB1:=ak b1;go_wp2_with fail
  refine(Vk.o v1 HB1.o).mono ?_;rintro e v2 ⟨rfl,b2⟩;have HB2:=ak (Below.after HB1.o b2);go_wp2_with fail
  refine(HP.o v2 (HS.o.below HB2.o)).mono ?_;rintro e v3 ⟨rfl,b3⟩;have HB3:=ak (Below.after HB2.o b3);have HQ:aA (Calls Tryz.prog 154 #[.pointer (some ⟨B,0,none⟩),.int .i64 r,.int .i64 b] v3 (wZ n0 B most (FM d2 db) (max d2 db) (1+max d2 db) E v3 (t1++t))):=ak (by
   have hnn:=jU.o;have hhd:=AL.o;have hm:=HM.o;rw[af8]at hnn;exact IH.o (d2+db) (by omega) rfl (HS.o.below HB3.o) gW.o HR.o Od.o (by omega) (by unfold FM;omega) (by unfold FM;omega))
  go_wp2_with fail
  refine HQ.o.mono ?_;rintro e v4 ⟨E1,i1,d5,rfl,s4,f4,x4,n4,xW,Xu,b4,k4⟩;have DJ:aA (Calls Tryz.prog 196 #[.pointer (some ⟨B,0,none⟩),.int .i64 l,.int .i64 i1] v4 (wZ n0 B most 3 (JY d1 d5) (1+max d1 d5) E1 v4 (s1++(t1++t)))):=ak (by
   have hnn:=jU.o;have hhd:=AL.o;rw[af8]at hnn;unfold FM at n4;exact Et s4 f4 (HL.o.ext x4) xW (by omega) (by rw[af8];omega) (by omega) (by omega))
  have HX:=ak x4;have HN:=ak n4;have cB:=ak b4;have HK:=ak k4;have Oy:=ak Xu;go_wp2_with fail
  refine DJ.o.mono ?_;intro e v5 hj;obtain⟨i2,rfl⟩:=hj.ret;have HZ:aA (wZ n0 B most (FM da db) (max da db) (1+max da db) E W ((s1++t1)++t) (.returned (.tuple #[.int .i64 (i2:Nat),.nilIface])) v5):=ak (by
   have hhd:=AL.o;have h5:=Oy.o;exact hj.after (by simp) HX.o HN.o (by unfold FM;omega) (by unfold JY;split<;>omega) (by omega) ((HB3.o.mono gJ.o).trans cB.o) ((Kt.of HB3.o).trans HK.o))
  go_wp2_with fail
  go_ret2;exact HZ.o
 have g1:¬(da:Int)>(db:Int)+1:=by omega
 have g1':¬(db:Int)+1<(da:Int):=by omega
 by_cases hba:da+1<db
 case' _=>
  obtain⟨l,r,s1,t1,d1,d2,hl,hr,rfl,hdd,HP⟩:=mI hs hwf hE' hb (by omega);have HP:=ak HP;have HL:=ak hl;have HR:=ak hr;have g2:(db:Int)>(da:Int)+1:=by omega
  have AL:aA (da+1<db/\(db=1+max d1 d2/\d1<=d2+1/\d2<=d1+1)):=ak ⟨by omega,hdd⟩
 rotate_left
 case' _=>
  have g2:¬(db:Int)>(da:Int)+1:=by omega
  have g2':¬(da:Int)+1<(db:Int):=by omega
  have HAB:aA (da<=db+1/\db<=da+1):=ak (by omega)
 rotate_left
 all_goals
  go_enter Tryz.func154,Tryz.ntmps154;go_wp2_with fail
  refine QD.o.mono ?_;rintro e v1 ⟨rfl,b1⟩;have HB1:=ak b1;go_wp2_with fail
  refine(Vk.o v1 HB1.o).mono ?_;rintro e v2 ⟨rfl,b2⟩;have HB2:=ak (Below.after HB1.o b2)
 .go_wp2_with fail
  refine(HP.o v2 (HS.o.below HB2.o)).mono ?_;rintro e v3 ⟨rfl,b3⟩;have HB3:=ak (Below.after HB2.o b3);have HQ:aA (Calls Tryz.prog 154 #[.pointer (some ⟨B,0,none⟩),.int .i64 a,.int .i64 l] v3 (wZ n0 B most (FM da d1) (max da d1) (1+max da d1) E v3 (s++s1))):=ak (by
   have hnn:=jU.o;have hhd:=AL.o;have hm:=HM.o;rw[af8]at hnn;exact IH.o (da+d1) (by omega) rfl (HS.o.below HB3.o) gW.o HA.o HL.o (by omega) (by unfold FM;omega) (by unfold FM;omega))
  go_wp2_with fail
  refine HQ.o.mono ?_;rintro e v4 ⟨E1,i1,d5,rfl,s4,f4,x4,n4,xW,Xu,b4,k4⟩;have DJ:aA (Calls Tryz.prog 196 #[.pointer (some ⟨B,0,none⟩),.int .i64 i1,.int .i64 r] v4 (wZ n0 B most 3 (JY d5 d2) (1+max d5 d2) E1 v4 ((s++s1)++t1))):=ak (by
   have hnn:=jU.o;have hhd:=AL.o;rw[af8]at hnn;unfold FM at n4;exact Et s4 f4 xW (HR.o.ext x4) (by omega) (by rw[af8];omega) (by omega) (by omega))
  have HX:=ak x4;have HN:=ak n4;have cB:=ak b4;have HK:=ak k4;have Oy:=ak Xu;go_wp2_with fail
  refine DJ.o.mono ?_;intro e v5 hj;obtain⟨i2,rfl⟩:=hj.ret;have HZ:aA (wZ n0 B most (FM da db) (max da db) (1+max da db) E W (s++(s1++t1)) (.returned (.tuple #[.int .i64 (i2:Nat),.nilIface])) v5):=ak (by
   have hhd:=AL.o;have h5:=Oy.o;exact hj.after (by simp) HX.o HN.o (by unfold FM;omega) (by unfold JY;split<;>omega) (by omega) ((HB3.o.mono gJ.o).trans cB.o) ((Kt.of HB3.o).trans HK.o))
  go_wp2_with fail
  go_ret2;exact HZ.o
 have hnn:=jU.o;have HQ:=ak (kK (HS.o.below HB2.o) gW.o HA.o Od.o HAB.o (by omega) (by omega) (by omega));go_wp2_with fail
 refine HQ.o.mono ?_;intro e v5 hj;obtain⟨i2,rfl⟩:=hj.ret;have HZ:aA (wZ n0 B most (FM da db) (max da db) (1+max da db) E W (s++t) (.returned (.tuple #[.int .i64 (i2:Nat),.nilIface])) v5):=ak (hj.read rfl (by unfold FM;omega) (by omega) (by omega) HB2.o gJ.o);go_wp2_with fail
 go_ret2;exact HZ.o
theorem fT.len{E:List En}(hE:iE E){i:Nat}{t:List Nat}(h:fT E i t):t.length<=1152921504606846976/\(aF E i).w.len=t.length:=by
 obtain⟨a,b⟩:=hE.wf.len h.le
 rw[h.txt]at a b
 exact⟨b,by rw[a];rfl⟩
theorem fT.zero(hE:iE E)(h:fT E i t):i=0↔t=[]:=by
 constructor
 .rintro rfl
  rw[<-h.txt,cZ]
 .rintro rfl
  rcases agP i with g|g
  .exact g
  .have:=(hE.wf.get i g h.le).2.2.1
   rw[h.txt]at this;simp at this
def uH(n0 B most k:Nat)(E:List En)(W:World)(t:List Nat)(e:Ending)(w':World):Prop:=∃(E':List En) (id:Nat),e=.returned (.tuple #[.int .i64 (id:Nat),.nilIface])/\aW n0 w' B most E'/\iE E'/\Ext E E'/\E'.length<=E.length+k/\fT E' id t/\Below n0 W w'/\Kt B W w'
theorem uH.ret(h:uH n0 B most k E W t e w'):∃id:Nat,e=.returned (.tuple #[.int .i64 id,.nilIface]):=by
 obtain⟨E',id,rfl,-⟩:=h
 exact⟨id,rfl⟩
theorem uH.after{k1 k2:Nat}{E1:List En}{t2:List Nat}(h:uH n0 B most k2 E1 w1 t2 e w')(ht:t2=t)(hx:Ext E E1)(hn:E1.length<=E.length+k1)(hk:k1+k2<=k)(hb:Below n0 W w1)(hkt:Kt B W w1):uH n0 B most k E W t e w':=by
 obtain⟨E',id,he,s,f,x,n,bl,b,kt⟩:=h
 subst ht
 exact⟨E',id,he,s,f,hx.trans x,by omega,bl,hb.trans b,hkt.trans kt⟩
theorem uH.read(h:uH n0 B most k E w1 t e w')(hb:Below W.heap.size W w1)(hn:n0<=W.heap.size):uH n0 B most k E W t e w':=
 h.after (k1:=0) rfl (Ext.refl _) (by omega) (by omega) (hb.mono hn) (Kt.of hb)
theorem wZ.jn{lo hi:Nat}(h:wZ n0 B most k lo hi E W t e w'):uH n0 B most k E W t e w':=by
 obtain⟨E',id,d,he,s,f,x,n,bl,-,b,kt⟩:=h
 exact⟨E',id,he,s,f,x,n,bl.zero,b,kt⟩
theorem FN(hs:aW n0 W B most E)(hwf:iE E)(ha:fT E a s)(hb:fT E b t)(hlen:s.length+t.length<=1152921504606846976)(hk:∀da db,lY E a s da->lY E b t db->FM da db<=k)(hroom:E.length+k<=most)(hE:E.length+k<=1048576):
    Calls Tryz.prog 113 #[.pointer (some ⟨B,0,none⟩),.int .i64 a,.int .i64 b] W (uH n0 B most k E W (s++t)):=by
 have hn0:=hs.lt
 have hE':E.length<=1048576:=by omega
 have HWA:=ak (dS hs ha.le hE')
 have HWB:aA (∀w,Below W.heap.size W w->Calls Tryz.prog 36 #[.pointer (some ⟨B,0,none⟩),.int .i64 b] w λe w'=>e=.returned (.tuple #[wK (aF E b).w,.nilIface])/\Below w.heap.size w w'):=ak (λw hw=>dS (hs.below hw) hb.le hE')
 have ZP:aA (∀w,Below W.heap.size W w->Calls Tryz.prog 131 #[.pointer (some ⟨B,0,none⟩),.int .i64 a] w λe w'=>e=.returned (.bool true)/\Below w.heap.size w w'):=ak (λw hw=>by have:=B_ (hs.below hw) ha.le hE';rwa [ha.even]at this)
 have HEB:aA (∀w,Below W.heap.size W w->Calls Tryz.prog 131 #[.pointer (some ⟨B,0,none⟩),.int .i64 b] w λe w'=>e=.returned (.bool true)/\Below w.heap.size w w'):=ak (λw hw=>by have:=B_ (hs.below hw) hb.le hE';rwa [hb.even]at this)
 obtain⟨la,lb⟩:=ha.len hwf
 obtain⟨ka,kb⟩:=hb.len hwf
 generalize(aF E a).w=u at *
 generalize(aF E b).w=v at *
 have HAD:=ak (λw=>lD w (a:=u.len) (b:=v.len) (by omega) (by omega))
 simp only[af5 (show u.len+v.len<=1152921504606846976 by omega)]at HAD
 obtain⟨sm,hsm⟩:=ay (u.len+v.len)
 rw[hsm]at HAD
 have HS:=ak hs;have gW:=ak hwf;have HA:=ak ha;have Od:=ak hb;have gJ:=ak hn0
 have jU:=ak (And.intro hlen (And.intro hroom hE))
 have HKK:=ak hk
 have hcs:(a=0)\/(a≠0/\b=0)\/(a≠0/\b≠0):=by omega
 unfold wK at HWA HWB
 clear hs hwf ha hb hlen hroom hE hn0 la lb ka kb hsm hE' hk
 rcases hcs with ga|⟨ga,gb⟩|⟨ga,gb⟩
 .have e1:((a:Int)==0)=true:=by simp[ga]
  have HZ:aA (∀w,Below W.heap.size W w->uH n0 B most k E W (s++t) (.returned (.tuple #[.int .i64 (b:Nat),.nilIface])) w):=ak (λw hw=>by
   have h0:s=[]:=(HA.o.zero gW.o).1 ga
   subst h0
   exact⟨E,b,rfl,HS.o.below hw,gW.o,Ext.refl _,by omega,Od.o,hw.mono gJ.o,Kt.of hw⟩)
  clear ga
  go_enter Tryz.func113,Tryz.ntmps113
  go_wp2_with fail
  refine HWA.o.mono ?_;rintro e w1 ⟨rfl,b1⟩
  obtain⟨wz,w2,hz,hs1,kw,bw,⟨p0,p1,p2,p3,p4,p5⟩,q0,q1,q2,q3,q4,q5⟩:=kE w1 u
  obtain⟨gc,hgc⟩:=ay (w1.heap.size)
  rw[hgc]at hs1 kw p0 p1 p2 p3 p4 p5 q0 q1 q2 q3 q4 q5
  have HB2:=ak (Below.after b1 bw);have KU:=ak kw
  clear b1 kw bw
  go_wp2_with fail
  clear hz hs1 p0 p1 p2 p3 p4 p5 q0 q1 q2 q3 q4 q5 hgc
  refine(HWB.o w2 HB2.o).mono ?_;rintro e w3 ⟨rfl,b3⟩
  obtain⟨wz,w4,hz,hs1,kw,bw,⟨p0,p1,p2,p3,p4,p5⟩,q0,q1,q2,q3,q4,q5⟩:=kE w3 v
  obtain⟨gd,hgd⟩:=ay (w3.heap.size)
  rw[hgd]at hs1 kw p0 p1 p2 p3 p4 p5 q0 q1 q2 q3 q4 q5
  have b4:=Below.after b3 bw
  have cB:=ak (Below.after HB2.o b4);have KV:=ak kw;have KU4:=ak (show dz w4 gc u from au b4 KU.o)
  clear b3 b4 kw bw
  go_wp2_with fail
  clear hz hs1 p0 p1 p2 p3 p4 p5 q0 q1 q2 q3 q4 q5 hgd
  refine(ZP.o w4 cB.o).mono ?_;rintro e w5 ⟨rfl,b5⟩
  have mG:=ak (Below.after cB.o b5);have KV5:=ak (show dz w5 gd v from au b5 KV.o);have KU5:=ak (show dz w5 gc u from au b5 KU4.o)
  clear b5
  go_wp2_with fail
  refine(HEB.o w5 mG.o).mono ?_;rintro e w6 ⟨rfl,b6⟩
  have zH:=ak (Below.after mG.o b6)
  obtain⟨x0,-,-,-,-,-⟩:=dz.cells (show dz w6 gd v from au b6 KV5.o)
  obtain⟨y0,-,-,-,-,-⟩:=dz.cells (show dz w6 gc u from au b6 KU5.o)
  clear b6
  go_wp2_with fail
  refine(HAD.o w6).mono ?_;rintro e w ⟨rfl,h⟩;rw[h];clear h w
  clear x0 y0
  go_wp2_with fail
  go_ret2
  exact HZ.o w6 zH.o
 .have e1:((a:Int)==0)=false:=by simp;omega
  have e2:((b:Int)==0)=true:=by simp[gb]
  have HZ:aA (∀w,Below W.heap.size W w->uH n0 B most k E W (s++t) (.returned (.tuple #[.int .i64 (a:Nat),.nilIface])) w):=ak (λw hw=>by
   have h0:t=[]:=(Od.o.zero gW.o).1 gb
   subst h0
   rw[agi]
   exact⟨E,a,rfl,HS.o.below hw,gW.o,Ext.refl _,by omega,HA.o,hw.mono gJ.o,Kt.of hw⟩)
  clear ga gb
  go_enter Tryz.func113,Tryz.ntmps113
  go_wp2_with fail
  refine HWA.o.mono ?_;rintro e w1 ⟨rfl,b1⟩
  obtain⟨wz,w2,hz,hs1,kw,bw,⟨p0,p1,p2,p3,p4,p5⟩,q0,q1,q2,q3,q4,q5⟩:=kE w1 u
  obtain⟨gc,hgc⟩:=ay (w1.heap.size)
  rw[hgc]at hs1 kw p0 p1 p2 p3 p4 p5 q0 q1 q2 q3 q4 q5
  have HB2:=ak (Below.after b1 bw);have KU:=ak kw
  clear b1 kw bw
  go_wp2_with fail
  clear hz hs1 p0 p1 p2 p3 p4 p5 q0 q1 q2 q3 q4 q5 hgc
  refine(HWB.o w2 HB2.o).mono ?_;rintro e w3 ⟨rfl,b3⟩
  obtain⟨wz,w4,hz,hs1,kw,bw,⟨p0,p1,p2,p3,p4,p5⟩,q0,q1,q2,q3,q4,q5⟩:=kE w3 v
  obtain⟨gd,hgd⟩:=ay (w3.heap.size)
  rw[hgd]at hs1 kw p0 p1 p2 p3 p4 p5 q0 q1 q2 q3 q4 q5
  have b4:=Below.after b3 bw
  have cB:=ak (Below.after HB2.o b4);have KV:=ak kw;have KU4:=ak (show dz w4 gc u from au b4 KU.o)
  clear b3 b4 kw bw
  go_wp2_with fail
  clear hz hs1 p0 p1 p2 p3 p4 p5 q0 q1 q2 q3 q4 q5 hgd
  refine(ZP.o w4 cB.o).mono ?_;rintro e w5 ⟨rfl,b5⟩
  have mG:=ak (Below.after cB.o b5);have KV5:=ak (show dz w5 gd v from au b5 KV.o);have KU5:=ak (show dz w5 gc u from au b5 KU4.o)
  clear b5
  go_wp2_with fail
  refine(HEB.o w5 mG.o).mono ?_;rintro e w6 ⟨rfl,b6⟩
  have zH:=ak (Below.after mG.o b6)
  obtain⟨x0,-,-,-,-,-⟩:=dz.cells (show dz w6 gd v from au b6 KV5.o)
  obtain⟨y0,-,-,-,-,-⟩:=dz.cells (show dz w6 gc u from au b6 KU5.o)
  clear b6
  go_wp2_with fail
  refine(HAD.o w6).mono ?_;rintro e w ⟨rfl,h⟩;rw[h];clear h w
  clear x0 y0
  go_wp2_with fail
  go_ret2
  exact HZ.o w6 zH.o
 .have e1:((a:Int)==0)=false:=by simp;omega
  have e2:((b:Int)==0)=false:=by simp;omega
  have HJ:aA (∀w,Below W.heap.size W w->Calls Tryz.prog 154 #[.pointer (some ⟨B,0,none⟩),.int .i64 a,.int .i64 b] w (uH n0 B most k E w (s++t))):=ak (λw hw=>by
   have ha:=HA.o.Ig (by omega)
   have hb:=Od.o.Ig (by omega)
   have hnn:=jU.o
   have hkk:=HKK.o _ _ ha hb
   refine(Ry _ rfl (HS.o.below hw) gW.o ha hb hnn.1 (by omega) (by omega)).mono ?_
   intro e w' hj
   exact hj.jn.after (k1:=0) rfl (Ext.refl _) (by omega) (by omega) (af6 _ _) (Kt.of (af6 _ _)))
  clear ga gb
  go_enter Tryz.func113,Tryz.ntmps113
  go_wp2_with fail
  refine HWA.o.mono ?_;rintro e w1 ⟨rfl,b1⟩
  obtain⟨wz,w2,hz,hs1,kw,bw,⟨p0,p1,p2,p3,p4,p5⟩,q0,q1,q2,q3,q4,q5⟩:=kE w1 u
  obtain⟨gc,hgc⟩:=ay (w1.heap.size)
  rw[hgc]at hs1 kw p0 p1 p2 p3 p4 p5 q0 q1 q2 q3 q4 q5
  have HB2:=ak (Below.after b1 bw);have KU:=ak kw
  clear b1 kw bw
  go_wp2_with fail
  clear hz hs1 p0 p1 p2 p3 p4 p5 q0 q1 q2 q3 q4 q5 hgc
  refine(HWB.o w2 HB2.o).mono ?_;rintro e w3 ⟨rfl,b3⟩
  obtain⟨wz,w4,hz,hs1,kw,bw,⟨p0,p1,p2,p3,p4,p5⟩,q0,q1,q2,q3,q4,q5⟩:=kE w3 v
  obtain⟨gd,hgd⟩:=ay (w3.heap.size)
  rw[hgd]at hs1 kw p0 p1 p2 p3 p4 p5 q0 q1 q2 q3 q4 q5
  have b4:=Below.after b3 bw
  have cB:=ak (Below.after HB2.o b4);have KV:=ak kw;have KU4:=ak (show dz w4 gc u from au b4 KU.o)
  clear b3 b4 kw bw
  go_wp2_with fail
  clear hz hs1 p0 p1 p2 p3 p4 p5 q0 q1 q2 q3 q4 q5 hgd
  refine(ZP.o w4 cB.o).mono ?_;rintro e w5 ⟨rfl,b5⟩
  have mG:=ak (Below.after cB.o b5);have KV5:=ak (show dz w5 gd v from au b5 KV.o);have KU5:=ak (show dz w5 gc u from au b5 KU4.o)
  clear b5
  go_wp2_with fail
  refine(HEB.o w5 mG.o).mono ?_;rintro e w6 ⟨rfl,b6⟩
  have zH:=ak (Below.after mG.o b6)
  obtain⟨x0,-,-,-,-,-⟩:=dz.cells (show dz w6 gd v from au b6 KV5.o)
  obtain⟨y0,-,-,-,-,-⟩:=dz.cells (show dz w6 gc u from au b6 KU5.o)
  clear b6
  go_wp2_with fail
  refine(HAD.o w6).mono ?_;rintro e w ⟨rfl,h⟩;rw[h];clear h w
  clear x0 y0
  go_wp2_with fail
  refine(HJ.o w6 zH.o).mono ?_
  intro e w7 hj
  obtain⟨i2,rfl⟩:=hj.ret
  have HZ:=ak (hj.read zH.o gJ.o)
  clear hj
  go_wp2_with fail
  go_ret2
  exact HZ.o
def GZ(D M:Nat):Prop:=M<(Aw (D+1)).1/\M<=1152921504606846976
theorem GZ.le(h:GZ D M)(hE:iE E){d:Nat}(hb:lY E i t d)(ht:t.length<=M):d<=D:=by
 rcases aja D d with g|g
 .have h1:=hb.least hE
  have h2:=o9 (d-(D+1)) (D+1)
  rw[show D+1+(d-(D+1))=d by omega]at h2
  have h3:=h.1
  omega
 .exact g
theorem l8(hD:GZ D M)(hs:aW n0 W B most E)(hwf:iE E)(ha:fT E a s)(hb:fT E b t)(hlen:s.length+t.length<=M)(hroom:E.length+(3*D+1)<=most)(hE:E.length+(3*D+1)<=1048576):
    Calls Tryz.prog 113 #[.pointer (some ⟨B,0,none⟩),.int .i64 a,.int .i64 b] W (uH n0 B most (3*D+1) E W (s++t)):=
 FN hs hwf ha hb (by have:=hD.2;omega) (λda db h1 h2=>by
  have d1:=hD.le hwf h1 (by omega)
  have d2:=hD.le hwf h2 (by omega)
  unfold FM;omega) hroom hE
section
variable {n0 B most:Nat} {W:World} {E:List En}
theorem IC(h:aW n0 W B most E){i:Nat}(hi:i<=E.length):
    Calls Tryz.prog 155 #[.pointer (some ⟨B,0,none⟩),.int .i64 i] W λe w'=>e=.returned (.bool false)/\w'=W:=by
 have HL:=ak (wY h)
 have h1:¬(i:Int)<0:=by omega
 have h2:¬(i:Int)>(E.length:Int):=by omega
 have h3:¬E.length<i:=by omega
 clear h
 go_enter Tryz.func155,Tryz.ntmps155
 go_wp2_with fail
 refine HL.o.mono ?_;rintro e w ⟨rfl,h⟩;rw[h];clear h w
 go_wp2_with fail
 go_ret
 exact⟨rfl,rfl⟩
theorem tL(h:aW n0 W B most E){i:Nat}(hi:i<=E.length)(hE:E.length<=1048576):
    Calls Tryz.prog 76 #[.pointer (some ⟨B,0,none⟩),.int .i64 i] W λe w'=>e=.returned (.tuple #[.int .i64 (aF E i).w.len,.nilIface])/\Below W.heap.size W w':=by
 have HW:=ak (dS h hi hE)
 obtain⟨u,hu⟩:=ay ((aF E i).w)
 rw[hu]at HW⊢
 unfold wK at HW
 clear h hu
 go_enter Tryz.func76,Tryz.ntmps76
 go_wp2_with fail
 refine HW.o.mono ?_;rintro e w1 ⟨rfl,b1⟩
 obtain⟨wz,w2,hz,hs,kw,bw,⟨p0,p1,p2,p3,p4,p5⟩,q0,q1,q2,q3,q4,q5⟩:=kE w1 u
 obtain⟨x0,x1,x2,x3,x4,x5⟩:=kw.cells
 have B2:=ak (Below.after b1 bw)
 clear b1 kw bw
 go_wp2_with fail
 go_ret2
 exact⟨rfl,B2.o⟩
end
def LY(W:World)(g o:Nat)(l:List Nat):Prop:=∃(cs:Array Value) (fz:Nat×Nat),W.heap[g]?=some (.cells cs 5 fz)/\∀(i x:Nat),l[i]?=some x->cs[o+i]?=some (.int .u8 x)
theorem LY.kt{b9:Nat}{A B:World}{g o:Nat}{l:List Nat}(h:LY A g o l)(hk:Kt b9 A B):LY B g o l:=by
 obtain⟨cs,fz,h1,h2⟩:=h
 exact⟨cs,fz,hk.cells _ (by decide) (by decide) _ _ _ h1,h2⟩
theorem LY.cell{W:World}{g o:Nat}{l:List Nat}(h:LY W g o l){i x:Nat}(hi:l[i]?=some x):W.cell? ⟨g,o+i,none⟩=some (.int .u8 x):=by
 obtain⟨cs,fz,h1,h2⟩:=h
 simp[World.cell?,h1,h2 i x hi]
theorem LY.take{W:World}{g o:Nat}{l:List Nat}(h:LY W g o l)(k:Nat):LY W g o (l.take k):=by
 obtain⟨cs,fz,h1,h2⟩:=h
 refine⟨cs,fz,h1,λi x hi=>h2 i x ?_⟩
 by_cases hk:i<k
 .rwa [ahT,af5 hk]at hi
 .rw[ahT,af4 hk]at hi;cases hi
theorem LY.drop{W:World}{g o:Nat}{l:List Nat}(h:LY W g o l)(k:Nat):LY W g (o+k) (l.drop k):=by
 obtain⟨cs,fz,h1,h2⟩:=h
 refine⟨cs,fz,h1,λi x hi=>?_⟩
 rw[ahL]at hi
 have:=h2 (k+i) x hi
 rwa [show o+(k+i)=o+k+i by omega]at this
theorem PO:lS 0=.nilIface:=rfl
def BtP(n0 B most:Nat)(E:List En)(W:World)(l:List Nat)(e:Ending)(w':World):Prop:=∃E' id,e=.returned (.tuple #[.int .i64 (id:Nat),.nilIface])/\aW n0 w' B most E'/\iE E'/\Ext E E'/\E'.length+1<=E.length+2*l.length/\lY E' id l (Ms l.length)/\Below n0 W w'/\Kt B W w'
theorem PQ:∀(m:Nat) (l:List Nat),l.length=m->0<m->∀{n0 B most g o cap:Nat} {W:World} {E:List En},aW n0 W B most E->iE E->LY W g o l->m<=cap->cap<=maxLen->o+cap<=maxLen->(∀b∈l,b<256)->E.length+2*m<=most->E.length+2*m<=1048575->
    Calls Tryz.prog 92 #[.pointer (some ⟨B,0,none⟩),.slice (some ⟨g,o,none⟩) m cap] W (BtP n0 B most E W l):=by
 intro m
 induction m using Nat.strongRecOn with
 |_ m ih=>
 intro l hlm hm0 n0 B most g o cap W E hs hwf hv hcap hcm hoc hb Dc hE
 unfold maxLen at hcm hoc
 have HF:∀f,Fence.wide.fn f:=λ_=>trivial
 by_cases h1:m=1
 .subst h1
  obtain⟨b,rfl⟩:∃b,l=[b]:=by
   match l,hlm with
   | [b],_=>exact⟨b,rfl⟩
  have hb1:b<256:=hb b (by simp)
  have c0:=hv.cell (i:=0) (x:=b) rfl
  rw[ahC]at c0
  have iI:=ak (Bt hs b hb1 (by omega) (by omega))
  have Vl:=ak (U8 hwf hb1)
  clear hs hwf hv ih hb Dc hE hlm hcap
  go_enter Tryz.func92,Tryz.ntmps92
  go_wp2_with fail
  refine iI.o.mono ?_;rintro e w1 ⟨rfl,s1,b1,kt1⟩
  have j_:=ak s1;have HB1:=ak b1;have wN:=ak kt1
  clear s1 b1 kt1
  go_wp2_with fail
  go_ret2
  obtain⟨a1,a2,a3,a4⟩:=Vl.o
  exact⟨_,_,rfl,j_.o,a1,a2,by simp only[agk];omega,by rw[Av (by simp)];exact a4,HB1.o,wN.o⟩
 .obtain⟨h,hh⟩:=ay (m/2)
  have hmb:((m:Int)==1)=false:=by simp;omega
  have htq:Int.tdiv (m:Int) 2=((m/2:Nat):Int):=rfl
  rw[hh]at htq
  have hwq:IntKind.i64.wrap (h:Int)=(h:Int):=by rw[agd];omega
  have hl1:(l.take h).length=h:=by rw[agB];omega
  have hl2:(l.drop h).length=m-h:=by rw[agp];omega
  have HI1:=ak (ih h (by omega) (l.take h) hl1 (by omega) (cap:=cap) hs hwf (hv.take h) (by omega) (by unfold maxLen;omega) (by unfold maxLen;omega) (λb hbb=>hb b (ahJ hbb)) (by omega) (by omega))
  have HI2:aA (∀(w:World) (E1:List En),aW n0 w B most E1->iE E1->LY w g (o+h) (l.drop h)->E1.length+1<=E.length+2*h->Calls Tryz.prog 92 #[.pointer (some ⟨B,0,none⟩),.slice (some ⟨g,o+h,none⟩) (m-h) (cap-h)] w (BtP n0 B most E1 w (l.drop h))):=ak (λw E1 q1 q2 q3 q4=>ih (m-h) (by omega) (l.drop h) hl2 (by omega) q1 q2 q3 (by omega) (by unfold maxLen;omega) (by unfold maxLen;omega) (λb hbb=>hb b (aie hbb)) (by omega) (by omega))
  have HV:=ak (hv.drop h)
  have HM:=ak (And.intro Dc hE)
  have HL:=ak (And.intro hl1 hl2);have HLM:=ak hlm;have HHM:aA (0<h/\h<m/\m-h<=h+1/\m-m/2=m-h):=ak ⟨by omega,by omega,by omega,by omega⟩
  have hhm:(h:Int)<=(cap:Int):=by omega
  have hhm2:(h:Int)<=(m:Int):=by omega
  have hh0:(0:Int)<=(h:Int):=by omega
  have hhm3:h<=cap:=by omega
  have hhm4:h<=m:=by omega
  have hhm5:¬cap=h:=by omega
  clear hs hwf hv ih hb Dc hE hlm hl1 hl2 hh hcap hcm hoc
  go_enter Tryz.func92,Tryz.ntmps92
  go_wp2_with fail
  refine HI1.o.mono ?_
  rintro e w1 ⟨E1,i1,rfl,s1,f1,x1,n1,Xt,b1,kt1⟩
  have j_:=ak s1;have HF1:=ak f1;have yQ:=ak x1;have J3:=ak n1;have abj:=ak Xt;have HB1:=ak b1;have wN:=ak kt1
  rw[HL.o.1]at J3 abj
  clear s1 f1 x1 n1 Xt b1 kt1 HI1
  have HC2:=ak (HI2.o w1 E1 j_.o HF1.o (HV.o.kt wN.o) J3.o)
  clear HI2
  go_wp2_with fail
  refine HC2.o.mono ?_
  rintro e w2 ⟨E2,i2,rfl,s2,f2,x2,n2,bl2,b2,kt2⟩
  rw[HL.o.2]at n2 bl2
  have HS2:=ak s2;have HF2:=ak f2;have tN:=ak x2;have J4:=ak n2;have afU:=ak bl2;have HB2:=ak (HB1.o.trans b2);have nY:=ak (wN.o.trans kt2)
  clear s2 f2 x2 n2 bl2 b2 kt2 HC2
  have hln:E2.length+2<=E.length+2*m:=by have h1:=J3.o;have h2:=J4.o;have:=HHM.o;omega
  have ZR:=ak (Ie HF2.o (abj.o.ext tN.o) afU.o (by
   have h1:=BC (m-h) h (by have:=HHM.o;omega)
   have h2:=BC (h+1) (m-h) (by have:=HHM.o;omega)
   have h3:=Q6 h
   omega) (by rw[HL.o.1,HL.o.2];have:=HM.o.2;omega))
  have jg:=ak (Bz HS2.o HF2.o.wf (af9 abj.o.le tN.o.le) afU.o.le (by have:=HM.o.1;omega) (by have:=HM.o.2;omega))
  rw[ZR.o.1,PO]at jg
  have oG:=ak hln
  clear hln
  go_wp2_with fail
  refine jg.o.mono ?_
  rintro e w3 ⟨rfl,s3,b3,FQ⟩
  obtain⟨-,a1,a2,a3,a4⟩:=ZR.o
  have HZ:aA (BtP n0 B most E W l (.returned (.tuple #[.int .i64 (iM E2 i1 i2).2.1,.nilIface])) w3):=ak ⟨_,_,rfl,s3,a1,yQ.o.trans (tN.o.trans a2),by have:=oG.o;rw[HLM.o];omega,by
   rw[ahr]at a4
   have e1:Ms l.length=1+max (Ms h) (Ms (m-h)):=by
    rw[HLM.o,o8 (by have:=HHM.o;omega),HHM.o.2.2.2,Nat.max_eq_right (BC (m-h) h (by have:=HHM.o;omega))]
   rw[e1];exact a4,HB2.o.trans b3,nY.o.trans FQ⟩
  clear s3 b3 FQ a1 a2 a3 a4 ZR jg
  go_wp2_with fail
  go_ret2
  exact HZ.o
end M
end
end Go.Proofs.YtgbhohfabhilgaaGreatDoor
