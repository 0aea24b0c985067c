import Derived.Test.YtgbhohfabhilgaaGreatDoorEdt00
set_option maxRecDepth 100000
set_option maxHeartbeats 8000000
set_option linter.unusedVariables false
set_option linter.unusedSimpArgs false
namespace Go.Proofs.YtgbhohfabhilgaaGreatDoor
open Go.RowKit Go.Lib
namespace M
attribute [local go_sem] Oper.semAt_some
section
variable {D M n0 B most:Nat} {W:World} {E:List En} {i:Nat} {t:List Nat}
theorem acs(hD:GZ D M)(hs:aW n0 W B most E)(hwf:iE E)(hb:fT E i t)(hM:t.length<=M){a n id:Nat}{k c:Int}{u:List Nat}(hu:fT E id u)(h1:a+n<=t.length)(h2:k=2\/k=3)(hroom:E.length+4*bZ D<=most)(hE:E.length+4*bZ D<=1048576):
    Calls Tryz.prog 85 #[.pointer (some ⟨B,0,none⟩),.int .i64 i,edV ⟨k,a,n,c,id⟩] W (ArP n0 B most (4*bZ D) E W (t.take a++(u++t.drop (a+n)))):=by
 have HF:∀f,Fence.wide.fn f:=λ_=>trivial
 have hn0:=hs.lt
 have pG:=hD.2
 have gJ:=ak hn0
 have HU:=ak hu
 obtain⟨w1,hw,hc,hb1⟩:=abh W ⟨k,a,n,c,id⟩
 obtain⟨x0,x1,x2,x3,x4⟩:=hc.cells
 dsimp only at hw x0 x1 x2 x3 x4
 have HC:=ak hc
 obtain⟨w2,hw2⟩:=ay (w1.alloc (.cells #[.int .i64 a,.int .i64 ((a:Int)+(n:Int))] 3))
 have b2:Below w1.heap.size w1 w2:=by rw[<-hw2];exact(af6 _ _).alloc (af7 _) _
 have s2:P6 w1.heap.size w2 (.slice (some ⟨w1.heap.size,0,none⟩) 2 2) [a,a+n]:=by rw[<-hw2];exact aP.lit (l:=[a,a+n]) bX rfl (by unfold maxLen;simp)
 have hbb:=Below.after hb1 b2
 have HB2:=ak hbb
 have hs4:(2+1)*bZ D<=4*bZ D:=agY _ (by omega)
 have HCU:=ak (Vq hD (hs.below hbb) hwf hb hM s2 (akP (by omega) h1) (by simp) (by simp;omega) (by simp;omega))
 have lU:=ak hs4
 have hwr:IntKind.i64.wrap ((a:Int)+(n:Int))=(a:Int)+(n:Int):=by rw[agd];omega
 have f1:(k==1)=false:=agh.2 (by omega)
 have f4:(k==4)=false:=agh.2 (by omega)
 have f5:(k==5)=false:=agh.2 (by omega)
 obtain⟨gd,hgd⟩:=ay (W.heap.size)
 rw[hgd]at x0 x1 x2 x3 x4 HC
 clear hs hwf hb hM h1 hroom hE hn0 hb1 hc hD b2 s2 hbb pG h2 hu hs4
 unfold edV
 go_enter Tryz.func85,Tryz.ntmps85
 go_wp2_with fail
 refine HCU.o.mono ?_
 rintro e w3 ⟨E3,ids,v3,rfl,s3,f3,e3,n3,i3,il3,MW,bb3,FQ⟩
 obtain⟨i0,i1,i2,rfl,c0,c2⟩:=afj (by simpa using il3) MW
 obtain⟨g,cap,hv0,-⟩:=qB i3 (show 0<[i0,i1,i2].length by simp)
 subst hv0
 have m0:∀w,Below w3.heap.size w3 w->w.cell? ⟨g,0,none⟩=some (.int .i64 i0):=λw hw=>by
  obtain⟨g',cap',e1,e2⟩:=qB (i3.below hw) (show 0<[i0,i1,i2].length by simp)
  cases e1;exact e2
 have m2:∀w,Below w3.heap.size w3 w->w.cell? ⟨g,2,none⟩=some (.int .i64 i2):=λw hw=>by
  obtain⟨g',cap',e1,e2⟩:=qB (i3.below hw) (show 2<[i0,i1,i2].length by simp)
  cases e1;exact e2
 have m4:∀w,Below w3.heap.size w3 w->w.cell? ⟨gd,4,none⟩=some (.int .i64 id):=λw hw=>by
  have:=(show aae w gd ⟨k,a,n,c,id⟩ from au hw (HC.o.kt ((Kt.of (B:=B) (show Below w1.heap.size w1 w2 by rw[<-hw2];exact(af6 _ _).alloc (af7 _) _)).trans FQ))).cells.2.2.2.2
  exact this
 obtain⟨wq,hwq⟩:=ay (w3.drew)
 have S0:Below w3.heap.size w3 wq:=by rw[<-hwq];exact(af6 _ _).drew
 obtain⟨w4,hw4⟩:=ay (wq.alloc (.cells #[.int .i64 i0,.int .i64 id,.int .i64 i2] 27))
 have b4:Below wq.heap.size wq w4:=by rw[<-hw4];exact(af6 _ _).alloc (af7 _) _
 have S3:Below w3.heap.size w3 w4:=Below.after S0 b4
 have s4:Ids wq.heap.size w4 (.slice (some ⟨wq.heap.size,0,none⟩) 3 3) [i0,id,i2]:=by rw[<-hw4];exact aP.lit (l:=[i0,id,i2]) bX rfl (by unfold maxLen;simp)
 have HZ:aA (ArP n0 B most (4*bZ D) E W (t.take a++(u++t.drop (a+n))) (.returned (.tuple #[.slice (some ⟨wq.heap.size,0,none⟩) 3 3,.nilIface])) w4):=ak (by
  have hsz:=HB2.o.size
  have hbb:=(HB2.o.mono gJ.o).trans bb3
  have hs4:=lU.o
  exact⟨E3,[i0,id,i2],_,[t.take a,u,t.drop (a+n)],rfl,s3.below S3,f3,e3,by simp at n3;omega,s4.mono (af9 (af9 hsz bb3.size) S0.size),ada c0 (HU.o.ext e3) c2,by simp,by simp,hbb.trans (S3.mono (af9 gJ.o hbb.size)),((Kt.of (B:=B) HB2.o).trans FQ).trans (Kt.of S3)⟩)
 clear s3 f3 e3 n3 i3 il3 MW bb3 FQ b4 c0 c2 x0 x1 x2 x3 x4 s4 hw hw2
 go_wp2_with fail
 refine aU (Below w3.heap.size w3) ?_
 try rw[hwq]
 clear hwq
 refine bJ 0 1 2 3 4 5 ?_
 refine tk2 6 7 ?_
 refine aT 8 λK hK=>?_
 go_simp
 refine hK _ _ S3 ?_
 clear hK K
 refine tk2 9 10 ?_
 refine aO ?_
 go_wp2_with fail
 go_ret2
 exact HZ.o
theorem abU(hD:GZ D M)(hs:aW n0 W B most E)(hwf:iE E)(hb:fT E i t)(hM:t.length<=M){e:Edt}{u:List Nat}(hu:fT E e.id u)(hok:abz e=true)(hin:aa2 t.length e=true)(hroom:E.length+4*bZ D<=most)(hE:E.length+4*bZ D<=1048576):
    Calls Tryz.prog 85 #[.pointer (some ⟨B,0,none⟩),.int .i64 i,edV e] W (ArP n0 B most (4*bZ D) E W (edT t u e)):=by
 obtain⟨k,p,n,c,id⟩:=e
 have hk:=abC hok
 obtain⟨a1,a2,a3,a4,a5,a6,a7,a8,a9⟩:=aaq.1 hin
 clear hok hin
 dsimp only at hk a3 a4 a5 a6 a7 a8 a9 hu
 obtain⟨a,rfl⟩:=Int.eq_ofNat_of_zero_le a3
 obtain⟨n,rfl⟩:=Int.eq_ofNat_of_zero_le a4
 obtain⟨c,rfl⟩:=Int.eq_ofNat_of_zero_le a7
 have h1:a+n<=t.length:=by omega
 have e1:((a:Int)+(n:Int)).toNat=a+n:=by omega
 rcases hk with⟨rfl,hn⟩|⟨rfl,-⟩|rfl|⟨rfl,-⟩|⟨rfl,-⟩
 .obtain rfl:n=0:=by omega
  rw[abo (by simp) (by simp)]
  simp only[aj6]
  rw[e1,ahC]
  exact afh hD hs hwf hb hM hu h1 hroom hE
 .rw[abo (by simp) (by simp)]
  simp only[aj6]
  rw[e1]
  exact acs hD hs hwf hb hM hu h1 (.inl rfl) hroom hE
 .rw[abo (by simp) (by simp)]
  simp only[aj6]
  rw[e1]
  exact acs hD hs hwf hb hM hu h1 (.inr rfl) hroom hE
 .rw[abS rfl]
  simp only[aj6]
  rw[e1,ajo]
  exact adb hD hs hwf hb hM h1 (by omega) hroom hE
 .by_cases hle:(c:Int)<=(a:Int)
  .rw[abA rfl hle]
   simp only[aj6]
   rw[e1,ajo]
   exact afk hD hs hwf hb hM h1 (by omega) hroom hE
  .rw[abQ rfl hle]
   simp only[aj6]
   rw[e1,ajo]
   exact afm hD hs hwf hb hM (by omega) (by omega) (by omega) hroom hE
end
end M
end Go.Proofs.YtgbhohfabhilgaaGreatDoor
namespace Go.Proofs.YtgbhohfabhilgaaGreatDoor
open Go.RowKit Go.Lib
namespace M
attribute [local go_sem] Oper.semAt_some
def eaK(D:Nat):Nat:=4*bZ D+4*(3*D+1)
abbrev erV(c:Int):Value:=.iface 116 (.int .i64 c)
def abV(t:List Nat)(e:Edt):Prop:=abz e=true/\aa2 t.length e=true
def ali(n0 B most k:Nat)(E:List En)(W:World)(t u:List Nat)(e:Edt)(r:Ending)(w':World):Prop:=
 (abV t e/\uH n0 B most k E W (edT t u e) r w')\/(¬abV t e/\∃c:Int,r=.returned (.tuple #[.int .i64 0,erV c])/\Below W.heap.size W w')
section
variable {D M n0 B most:Nat} {W:World} {E:List En} {i:Nat} {t:List Nat}
theorem acw(hD:GZ D M)(hs:aW n0 W B most E)(hwf:iE E)(hb:fT E i t){e:Edt}{u:List Nat}(hu:fT E e.id u)(hu0:e.kind=4\/e.kind=5->u=[])(hM:2*t.length+u.length<=M)(hMx:M<=1000000)(hroom:E.length+eaK D<=most)(hE:E.length+eaK D<=1048576):
    Calls Tryz.prog 35 #[.pointer (some ⟨B,0,none⟩),.int .i64 i,edV e] W (ali n0 B most (eaK D) E W t u e):=by
 have hn0:=hs.lt
 have gJ:=ak hn0
 have hke:eaK D=4*bZ D+4*(3*D+1):=rfl
 obtain⟨w1,hw,hc,hb1⟩:=abh W e
 obtain⟨x0,x1,x2,x3,x4⟩:=hc.cells
 have HC:=ak hc;have HB1:=ak hb1
 have hE':E.length<=1048576:=by omega
 have HU1:=ak (aaZ (hs.below hb1) hb.le)
 have HU2:=ak (aaZ (hs.below hb1) hu.le)
 have HF:=ak (abF w1 e)
 have HX:=ak (And.intro hs (And.intro hwf (And.intro hb (And.intro hu (And.intro hu0 (And.intro hM (And.intro hMx (And.intro hroom (And.intro hE hke)))))))))
 obtain⟨gd,hgd⟩:=ay (W.heap.size)
 rw[hgd]at x0 x1 x2 x3 x4 HC
 by_cases hok:abz e=true
 rotate_left
 .have hf:abz e=false:=by simpa using hok
  rw[hf]at HF
  have HK:=ak hok
  clear hs hwf hb hu hu0 hM hMx hroom hE hke hc hb1 hE' hok hf hn0
  unfold edV
  go_enter Tryz.func35,Tryz.ntmps35
  go_wp2_with fail
  refine HU1.o.mono ?_;rintro r w ⟨rfl,h⟩;rw[h];clear h w
  go_wp2_with fail
  refine HU2.o.mono ?_;rintro r w ⟨rfl,h⟩;rw[h];clear h w
  go_wp2_with fail
  refine HF.o.mono ?_;rintro r w2 ⟨rfl,b2⟩
  have HB2:=ak (Below.after HB1.o b2)
  clear b2
  go_wp2_with fail
  go_ret2
  exact .inr ⟨λh=>HK.o h.1,4,rfl,HB2.o⟩
 rw[hok]at HF
 have mF:=ak hok
 have HT:=ak (hb.len hwf).2
 obtain⟨wt,hwt⟩:=ay ((aF E i).w)
 rw[hwt]at HT
 have HWE:aA (∀w,Below W.heap.size W w->Calls Tryz.prog 36 #[.pointer (some ⟨B,0,none⟩),.int .i64 i] w λe w'=>e=.returned (.tuple #[wK wt,.nilIface])/\Below w.heap.size w w'):=ak λw hw=>by
  have:=dS (hs.below hw) hb.le hE'
  rwa [hwt]at this
 unfold wK at HWE
 clear hs hwf hb hu hu0 hM hMx hroom hE hke hc hb1 hE' hok hn0 hwt
 unfold edV
 go_enter Tryz.func35,Tryz.ntmps35
 go_wp2_with fail
 refine HU1.o.mono ?_;rintro r w ⟨rfl,h⟩;rw[h];clear h w
 go_wp2_with fail
 refine HU2.o.mono ?_;rintro r w ⟨rfl,h⟩;rw[h];clear h w
 go_wp2_with fail
 clear hw hgd
 refine HF.o.mono ?_;rintro r w2 ⟨rfl,b2⟩
 have HB2:=ak b2
 have HB2':=ak (Below.after HB1.o b2)
 obtain⟨y0,y1,y2,y3,y4⟩:=(show aae w2 gd e from au b2 HC.o).cells
 obtain⟨w3,hw3⟩:=ay (w2.alloc (.cells #[.int .i64 i,.int .i64 e.id] 27))
 have b3:Below w2.heap.size w2 w3:=by rw[<-hw3];exact(af6 _ _).alloc (af7 _) _
 have s3:Ids w2.heap.size w3 (.slice (some ⟨w2.heap.size,0,none⟩) 2 2) [i,e.id]:=by rw[<-hw3];exact aP.lit (l:=[i,e.id]) bX rfl (by unfold maxLen;simp)
 have HB3:=ak (Below.after HB2'.o b3);have HB13:=ak (Below.after b2 b3)
 have HBA:aA (Calls Tryz.prog 83 #[.pointer (some ⟨B,0,none⟩),.slice (some ⟨w2.heap.size,0,none⟩) 2 2] w3 λe w'=>e=.returned .nilIface/\Below w3.heap.size w3 w'):=ak (by
  obtain⟨hs,hwf,hb,hu,hu0,hM,hMx,hroom,hE,hke⟩:=HX.o
  refine aby (hs.below HB3.o) s3 (λj hj=>?_) (by simp) (by omega)
  simp only[agm,ahA,ahD]at hj
  rcases hj with rfl|rfl
  .exact⟨hb.le,rfl,hb.even⟩
  .exact⟨hu.le,rfl,hu.even⟩)
 clear b2 b3 s3 x0 x1 x2 x3 x4
 go_wp2_with fail
 clear hw3
 refine HBA.o.mono ?_;rintro r w4 ⟨rfl,b4⟩
 have cB:=ak (Below.after HB3.o b4);have HB14:=ak (Below.after HB13.o b4)
 clear b4 y0 y1 y2 y3 y4
 go_wp2_with fail
 refine(HWE.o w4 cB.o).mono ?_
 rintro r w5 ⟨rfl,b5⟩
 obtain⟨wz,w6,hz,hss,k6,b6,⟨q0,q1,q2,q3,q4,q5⟩,r0,r1,r2,r3,r4,r5⟩:=kE w5 wt
 have zH:=ak (Below.after cB.o (Below.after b5 b6));have alj:=ak (Below.after HB14.o (Below.after b5 b6))
 obtain⟨y0,y1,y2,y3,y4⟩:=(show aae w6 gd e from au alj.o HC.o).cells
 have v0:=k6.cells.1
 have oG:aA (Calls Tryz.prog 84 #[.pointer (some ⟨B,0,none⟩),.int .i64 wt.len,edV e] w6 (ElP w6 t.length e)):=ak (by
  obtain⟨hs,hwf,hb,hu,hu0,hM,hMx,hroom,hE,hke⟩:=HX.o
  rw[HT.o]
  exact ac_ (hs.below zH.o) hwf hu (by omega) mF.o (by omega))
 clear b5 b6 k6
 go_wp2_with fail
 clear hz hss q0 q1 q2 q3 q4 q5 r0 r1 r2 r3 r4 r5
 refine oG.o.mono ?_
 rintro r w7 ⟨hr,b7⟩
 have Vu:=ak (Below.after zH.o b7);have HB17:=ak (Below.after alj.o b7)
 obtain⟨z0,z1,z2,z3,z4⟩:=(show aae w7 gd e from au HB17.o HC.o).cells
 clear b7 y0 y1 y2 y3 y4 v0
 rcases hr with⟨hin,z,rfl⟩|⟨hin,rfl⟩
 rotate_left
 .have HK:aA (¬abV t e):=ak λh=>by have:=h.2;rw[hin]at this;cases this
  rw[show err 1=erV 1 from rfl]
  clear hin
  go_wp2_with fail
  go_ret2
  exact .inr ⟨HK.o,1,rfl,Vu.o⟩
 have HIN:=ak hin
 have HAR:aA (Calls Tryz.prog 85 #[.pointer (some ⟨B,0,none⟩),.int .i64 i,edV e] w7 (ArP n0 B most (4*bZ D) E w7 (edT t u e))):=ak (by
  obtain⟨hs,hwf,hb,hu,hu0,hM,hMx,hroom,hE,hke⟩:=HX.o
  exact abU hD (hs.below Vu.o) hwf hb (by omega) hu mF.o hin (by omega) (by omega))
 clear hin
 go_wp2_with fail
 clear z0 z1 z2 z3 z4
 refine HAR.o.mono ?_
 rintro r w8 ⟨E8,ids,v8,ts,rfl,s8,f8,x8,n8,i8,bl8,hfl,hl4,bb8,kt8⟩
 have hlen:((edT t u e).length:Int)<=M:=by
  obtain⟨hs,hwf,hb,hu,hu0,hM,hMx,hroom,hE,hke⟩:=HX.o
  have h1:=acp hu0 HIN.o
  have h2:=aaq.1 HIN.o
  rw[h1]
  split
  .omega
  .split<;>omega
 have UA:aA (Calls Tryz.prog 71 #[.pointer (some ⟨B,0,none⟩),v8] w8 (uH n0 B most (ids.length*(3*D+1)) E8 w8 (edT t u e))):=ak (by
  obtain⟨hs,hwf,hb,hu,hu0,hM,hMx,hroom,hE,hke⟩:=HX.o
  have hm:ids.length*(3*D+1)<=4*(3*D+1):=agY _ hl4
  have:=CG hD s8 f8 i8 bl8 (by rw[hfl];omega) (by omega) (by omega) (by omega)
  rwa [hfl]at this)
 have jZ:aA (∀r w,uH n0 B most (ids.length*(3*D+1)) E8 w8 (edT t u e) r w->ali n0 B most (eaK D) E W t u e r w):=ak (λr w hj=> .inl ⟨⟨mF.o,HIN.o⟩,hj.after (k1:=4*bZ D) rfl x8 n8 (by
  have hm:ids.length*(3*D+1)<=4*(3*D+1):=agY _ hl4
  unfold eaK;omega) ((Vu.o.mono gJ.o).trans bb8) ((Kt.of (B:=B) Vu.o).trans kt8)⟩)
 clear s8 f8 x8 n8 i8 bl8 hfl hl4 bb8 kt8 hlen
 go_wp2_with fail
 refine UA.o.mono ?_
 intro r w9 hj
 obtain⟨i9,rfl⟩:=hj.ret
 have HZ:=ak (jZ.o _ _ hj)
 clear hj
 go_wp2_with fail
 go_ret2
 exact HZ.o
end
end M
end Go.Proofs.YtgbhohfabhilgaaGreatDoor
namespace Go.Proofs.YtgbhohfabhilgaaGreatDoor
open Go.RowKit Go.Lib
namespace M
attribute [local go_sem] Oper.semAt_some
variable{L:List Edt}{B M g:Nat}{W:World}
theorem aax(e:Edt):(abE e).length=5:=rfl
theorem ak9(e:Edt):∀u∈abE e,u.oneCell'=true:=by simp[abE,Value.oneCell']
abbrev Eds(B:Nat)(W:World)(v:Value)(L:List Edt):Prop:=aP B W 86 5 abE v L
theorem acf:Elem Tryz.prog 81 86 5 40:=gP Tryz.underlying81 (z:=.agg #[.int .i64 0,.int .i64 0,.int .i64 0,.int .i64 0,.int .i64 0]) (by kernel_rfl) rfl (by decide) (by decide)
theorem Eds.at{v:Value}(h:Eds B W v L){i:Nat}(hi:i<L.length):
    ∃g cap,v=.slice (some ⟨g,0,none⟩) L.length cap/\L.length<=cap/\cap<=maxLen/\∀(W':World),Below W.heap.size W W'->∀i (hi:i<L.length),W'.cell? ⟨g,i*5,none⟩=some (.int .i64 L[i].kind)/\W'.cell? ⟨g,i*5+1,none⟩=some (.int .i64 L[i].pos)/\W'.cell? ⟨g,i*5+2,none⟩=some (.int .i64 L[i].n)/\W'.cell? ⟨g,i*5+3,none⟩=some (.int .i64 L[i].af4)/\W'.cell? ⟨g,i*5+4,none⟩=some (.int .i64 L[i].id):=by
 rcases h.shape with⟨-,rfl⟩|⟨g,cap,rfl,h1,h2⟩
 .simp at hi
 .refine⟨g,cap,rfl,h1,h2,λW' hb i hi=>?_⟩
  have h':=h.below hb
  have c:=λ(j:Nat) (hj:j<5)=>aP.cell aax h' hi (j:=j) hj
  exact⟨c 0 (by omega),c 1 (by omega),c 2 (by omega),c 3 (by omega),c 4 (by omega)⟩
theorem aae.free{c:Edt}(h:aae W g c)(i:Nat):W.frozen? ⟨g,i,none⟩=false:=by
 unfold aae at h
 simp[World.frozen?,h]
def edZ:Edt:=⟨0,0,0,0,0⟩
def abk(w:World)(b:Nat)(c:Edt):World:=((((w.setCell ⟨b,0,none⟩ (.int .i64 c.kind)).setCell ⟨b,1,none⟩ (.int .i64 c.pos)).setCell ⟨b,2,none⟩ (.int .i64 c.n)).setCell ⟨b,3,none⟩ (.int .i64 c.af4)).setCell ⟨b,4,none⟩ (.int .i64 c.id)
theorem aae.set{a:Edt}(h:aae W g a)(c:Edt):aae (abk W g c) g c:=aC _ (aC _ (aC _ (aC _ (aC _ h))))
theorem aaN{w0 w:World}{b n:Nat}(h:Below n w0 w)(hb:n<=b)(c:Edt):Below n w0 (abk w b c):=((((h.setCell (p:=⟨b,0,none⟩) hb _).setCell (p:=⟨b,1,none⟩) hb _).setCell (p:=⟨b,2,none⟩) hb _).setCell (p:=⟨b,3,none⟩) hb _).setCell (p:=⟨b,4,none⟩) hb _
theorem abN(w:World)(c:Edt):∃wz w2,w.alloc (.cells #[.int .i64 0,.int .i64 0,.int .i64 0,.int .i64 0,.int .i64 0] 86)=wz/\
    ((((wz.setCell ⟨w.heap.size,0,none⟩ (.int .i64 c.kind)).setCell ⟨w.heap.size,1,none⟩ (.int .i64 c.pos)).setCell ⟨w.heap.size,2,none⟩ (.int .i64 c.n)).setCell ⟨w.heap.size,3,none⟩ (.int .i64 c.af4)).setCell ⟨w.heap.size,4,none⟩ (.int .i64 c.id)=w2/\aae w2 w.heap.size c/\Below w.heap.size w w2/\aae wz w.heap.size edZ:=by
 have k0:aae (w.alloc (.cells #[.int .i64 0,.int .i64 0,.int .i64 0,.int .i64 0,.int .i64 0] 86)) w.heap.size edZ:=aD _ _
 have b0:Below w.heap.size w (w.alloc (.cells #[.int .i64 0,.int .i64 0,.int .i64 0,.int .i64 0,.int .i64 0] 86)):=(af6 _ _).alloc (af7 _) _
 exact⟨_,_,rfl,rfl,k0.set c,aaN b0 (af7 _) c,k0⟩
theorem Eds.kt{b0:Nat}{A C:World}{v:Value}(h:Eds b0 A v L)(hk:Kt B A C):Eds b0 C v L:=aP.keep h (hk.lX (by decide) (by decide))
def aaf(E:List En)(t:List Nat):List Edt->List Nat
 | []=>t
 |e::L=>aaf E (edT t (txt E e.id) e) L
theorem aaO(E:List En):∀(L:List Edt) (t:List Nat) (e:Edt),aaf E t (L++[e])=edT (aaf E t L) (txt E e.id) e
 | [],_,_=>rfl
 |a::L,t,e=>aaO E L _ e
structure EOk(E:List En)(M:Nat)(t:List Nat)(e:Edt):Prop where
 fit:abV t e
 Ig:fT E e.id (txt E e.id)
 len:2*t.length+(txt E e.id).length<=M
theorem EOk.nil{E:List En}{t:List Nat}{e:Edt}(h:EOk E M t e)(hk:e.kind=4\/e.kind=5):txt E e.id=[]:=by
 have:e.id=0:=by rcases abC h.fit.1 with q|q|q|q|q<;>omega
 rw[this,cZ]
def aau(E:List En)(M:Nat)(t:List Nat)(L:List Edt):Prop:=∀j (h:j<L.length),EOk E M (aaf E t (L.take j)) L[j]
theorem aau.id{E:List En}{M:Nat}{t:List Nat}{L:List Edt}(h:aau E M t L):∀e∈L,e.id<=E.length:=λe he=>by
 obtain⟨j,hj,rfl⟩:=ajv he
 exact(h j hj).Ig.le
theorem aar{E E2:List En}(hx:Ext E E2):∀(L:List Edt) (t:List Nat),(∀e∈L,e.id<=E.length)->aaf E2 t L=aaf E t L
 | [],_,_=>rfl
 |e::L,t,h=>by
  show aaf E2 (edT t (txt E2 e.id) e) L=aaf E (edT t (txt E e.id) e) L
  rw[hx.txt (h e (by simp)),aar hx L _ (λd hd=>h d (by simp[hd]))]
theorem aau.ext{E E2:List En}{M:Nat}{t:List Nat}{L:List Edt}(h:aau E M t L)(hx:Ext E E2):aau E2 M t L:=λj hj=>by
 have h1:=h j hj
 rw[aar hx _ _ (λe he=>h.id e (ahJ he))]
 exact⟨h1.fit,by rw[hx.txt h1.Ig.le];exact h1.Ig.ext hx,by rw[hx.txt h1.Ig.le];exact h1.len⟩
theorem aau.nil(E:List En)(M:Nat)(t:List Nat):aau E M t []:=λj h=>by simp at h
theorem aau.snoc{E:List En}{t:List Nat}{e:Edt}(h:aau E M t L)(h2:EOk E M (aaf E t L) e):aau E M t (L++[e]):=λj hj=>by
 by_cases hq:j<L.length
 .rw[ajk hq,ahP (by omega)];exact h j hq
 .obtain rfl:j=L.length:=by simp at hj;omega
  rw[ah_ (af7 _),List.take_left]
  simpa using h2
section
variable {D M n0 B most:Nat} {W:World} {E:List En} {i:Nat} {t:List Nat}
theorem adi(hD:GZ D M)(hs:aW n0 W B most E)(hwf:iE E)(hb:fT E i t){e:Edt}(h:EOk E M t e)(hMx:M<=1000000)(hroom:E.length+eaK D<=most)(hE:E.length+eaK D<=1048576):
    Calls Tryz.prog 35 #[.pointer (some ⟨B,0,none⟩),.int .i64 i,edV e] W (uH n0 B most (eaK D) E W (edT t (txt E e.id) e)):=
 (acw hD hs hwf hb h.Ig h.nil h.len hMx hroom hE).mono λr w hr=>by
  rcases hr with⟨-,hj⟩|⟨hn,-⟩
  .exact hj
  .exact absurd h.fit hn
theorem adk(hD:GZ D M)(hs:aW n0 W B most E)(hwf:iE E)(hb:fT E i t){b0:Nat}{v:Value}{L:List Edt}(hv:Eds b0 W v L)(hL:aau E M t L)(hn:L.length<=100)(hMx:M<=1000000)(hroom:E.length+L.length*eaK D<=most)(hE:E.length+L.length*eaK D<=1048576):
    Calls Tryz.prog 38 #[.pointer (some ⟨B,0,none⟩),.int .i64 i,v] W (uH n0 B most (L.length*eaK D) E W (aaf E t L)):=by
 have hn0:=hs.lt
 have gJ:=ak hn0
 have QG:=ak (abG hs hb (by omega))
 obtain⟨va,vc,rfl⟩:=hv.len
 have HX:=ak (And.intro hs (And.intro hwf (And.intro hb (And.intro hv (And.intro hL (And.intro hn (And.intro hMx (And.intro hroom hE))))))))
 obtain⟨n,hnn⟩:=ay (L.length)
 have jU:=ak hnn
 rw[hnn]
 have hn1:n<=100:=by omega
 clear hs hwf hb hv hL hn hroom hE hn0 hMx hnn
 go_enter Tryz.func38,Tryz.ntmps38
 go_wp2_with fail
 refine QG.o.mono ?_;rintro r w1 ⟨rfl,b1⟩
 have B1:=ak b1;clear b1
 go_wp2_with fail
 go_loopw [1,21] (λx c wr=>∃(j id:Nat) (E1:List En),j<=n/\c=.int .i64 j/\x=.int .i64 id/\aW n0 wr B most E1/\iE E1/\Ext E E1/\E1.length<=E.length+j*eaK D/\fT E1 id (aaf E t (L.take j))/\Below n0 W wr/\Kt B W wr) (λ_ c _=>n-(intOf c).toNat)
 case atStart=>
  obtain⟨hs,hwf,hb,hv,hL,hn,hMx,hroom,hE⟩:=HX.o
  exact⟨0,i,E,agb _,rfl,rfl,hs.below B1.o,hwf,Ext.refl _,by omega,hb,B1.o.mono gJ.o,Kt.of B1.o⟩
 case round=>
  obtain⟨j,id,E1,hj,rfl,rfl,hs1,oH,hx1,hn1',hb1,hbw,hkt⟩:=hrel
  by_cases hlt:j<n
  .have hlt2:(j:Int)<(n:Int):=by omega
   obtain⟨hs,hwf,hb,hv,hL,hn,hMx,hroom,hE⟩:=HX.o
   have hjl:j<L.length:=by rw[jU.o];exact hlt
   obtain⟨g,cap,e1,-,-,hcc⟩:=Eds.at (hv.kt hkt) hjl
   simp only[agn]at e1
   obtain⟨rfl,-,rfl⟩:=e1
   obtain⟨y0,y1,y2,y3,y4⟩:=hcc wr (af6 _ _) j hjl
   have hok:=(hL j hjl)
   have hsn:aaf E t (L.take (j+1))=edT (aaf E t (L.take j)) (txt E L[j].id) L[j]:=by rw[kI hjl,aaO]
   generalize L[j]=e at *
   have hok1:EOk E1 M (aaf E t (L.take j)) e:=⟨hok.fit,by rw[hx1.txt hok.Ig.le];exact hok.Ig.ext hx1,by rw[hx1.txt hok.Ig.le];exact hok.len⟩
   obtain⟨wz,w2,hz,hss,k2,b2,kz⟩:=abN wr e
   obtain⟨p0,p1,p2,p3,p4⟩:=k2.cells
   obtain⟨q0,q1,q2,q3,q4⟩:=kz.cells
   have r0:=kz.free 0;have r1:=kz.free 1;have r2:=kz.free 2;have r3:=kz.free 3;have r4:=kz.free 4
   have hsucc:(j+1)*eaK D=j*eaK D+eaK D:=ag6 _ _
   have hle:(j+1)*eaK D<=n*eaK D:=agY _ (by omega)
   have hnl:=jU.o
   rw[hnl]at hroom hE
   have Nz:=ak (adi hD (hs1.below b2) oH hb1 hok1 hMx (by omega) (by omega))
   rw[hx1.txt hok.Ig.le,<-hsn]at Nz
   have HY:=ak (And.intro hlt (And.intro hx1 (And.intro hn1' (And.intro (hbw.trans (b2.mono (af9 gJ.o (af9 (af7 _) hbw.size)))) (And.intro (hkt.trans (Kt.of b2)) hsucc)))))
   have hwj:IntKind.i64.wrap ((j:Int)+1)=((j+1:Nat):Int):=by rw[agd];omega
   clear hs hwf hb hv hL hn hMx hroom hE hs1 oH hx1 hn1' hb1 hbw hkt hlt hj hok hok1 hcc hsn hsucc hle hnl b2 k2 kz hjl
   go_wp2_with fail
   refine Nz.o.mono ?_
   rintro r w3 ⟨E3,i3,rfl,s3,f3,x3,n3,MW,bb3,FQ⟩
   have HW:=ak (And.intro s3 (And.intro f3 (And.intro x3 (And.intro n3 (And.intro MW (And.intro bb3 FQ))))))
   clear s3 f3 x3 n3 MW bb3 FQ hz hss y0 y1 y2 y3 y4 p0 p1 p2 p3 p4 q0 q1 q2 q3 q4 r0 r1 r2 r3 r4
   go_wp2_with fail
   go_roundw
   case rel=>
    obtain⟨hlt,hx1,hn1',hbw,hkt,hsucc⟩:=HY.o
    obtain⟨s3,f3,x3,n3,MW,bb3,FQ⟩:=HW.o
    exact⟨j+1,i3,E3,hlt,rfl,rfl,s3,f3,hx1.trans x3,by omega,MW,hbw.trans bb3,hkt.trans FQ⟩
   case measure=>have:=HY.o.1;simp[intOf];omega
  .obtain rfl:j=n:=by omega
   have HR:aA (uH n0 B most (j*eaK D) E W (aaf E t L) (.returned (.tuple #[.int .i64 id,.nilIface])) wr):=ak (by
    rw[agI (by rw[jU.o];exact af7 _)]at hb1
    exact⟨E1,id,rfl,hs1,oH,hx1,hn1',hb1,hbw,hkt⟩)
   clear hs1 oH hx1 hn1' hb1 hbw hkt hj
   go_wp2_with fail
   go_ret2
   exact HR.o
end
end M
end Go.Proofs.YtgbhohfabhilgaaGreatDoor
namespace Go.Proofs.YtgbhohfabhilgaaGreatDoor
open Go.RowKit Go.Lib
namespace M
attribute [local go_sem] Oper.semAt_some
def acg(n0 B most k:Nat)(E:List En)(W:World)(t:List Nat)(ul:Nat)(e:Edt)(r:Ending)(w':World):Prop:=
 ∃E' v,r=.returned (.tuple #[edV (aah e ul v),.nilIface])/\aW n0 w' B most E'/\iE E'/\Ext E E'/\E'.length<=E.length+k/\fT E' (aah e ul v).id (edU t e)/\Below n0 W w'/\Kt B W w'
section
variable {D M n0 B most:Nat} {W:World} {E:List En} {i:Nat} {t:List Nat}
variable{a e:Edt}{b:Nat}{w:World}
theorem ach(h:e.kind=4)(ul:Int)(v:Nat):aah e ul v=⟨2,e.af4,e.n,0,0⟩:=by unfold aah;rw[af5 h]
theorem aci(h4:¬e.kind=4)(h5:e.kind=5)(h:e.af4<=e.pos)(ul:Int)(v:Nat):aah e ul v=⟨5,e.af4,e.n,e.pos+e.n,0⟩:=by unfold aah;rw[af4 h4,af5 h5,af5 h]
theorem acH(h4:¬e.kind=4)(h5:e.kind=5)(h:¬e.af4<=e.pos)(ul:Int)(v:Nat):aah e ul v=⟨5,e.af4-e.n,e.n,e.pos,0⟩:=by unfold aah;rw[af4 h4,af5 h5,af4 h]
theorem abO(h4:¬e.kind=4)(h5:¬e.kind=5)(ul:Int)(v:Nat):aah e ul v=⟨3,e.pos,ul,0,v⟩:=by unfold aah;rw[af4 h4,af4 h5]
theorem abH(E:List En)(hwf:iE E):fT E 0 []:=⟨agb _,cZ _,rfl⟩
theorem akR(hs:aW n0 W B most E)(hwf:iE E){ul k:Nat}(h:e.kind=4\/e.kind=5)(hin:aa2 t.length e=true)(hlen:t.length<=1000000):
    Calls Tryz.prog 89 #[.pointer (some ⟨B,0,none⟩),.int .i64 i,edV e] W (acg n0 B most k E W t ul e):=by
 have hn0:=hs.lt
 obtain⟨w1,hw,hc,hb1⟩:=abh W e
 obtain⟨x0,x1,x2,x3,x4⟩:=hc.cells
 obtain⟨wz,w2,hz,hss,k2,b2,kz⟩:=abN w1 (aah e ul 0)
 obtain⟨c0,c1,c2,c3,c4⟩:=(show aae wz W.heap.size e from by
  rw[<-hz];exact au ((af6 _ _).alloc (af7 _) _) hc).cells
 obtain⟨p0,p1,p2,p3,p4⟩:=k2.cells
 obtain⟨q0,q1,q2,q3,q4⟩:=kz.cells
 have r0:=kz.free 0;have r1:=kz.free 1;have r2:=kz.free 2;have r3:=kz.free 3;have r4:=kz.free 4
 have hbb:=Below.after hb1 b2
 have HR:aA (acg n0 B most k E W t ul e (.returned (.tuple #[edV (aah e ul 0),.nilIface])) w2):=ak ⟨E,0,rfl,hs.below hbb,hwf,Ext.refl _,by omega,by
  have h1:(aah e ul 0).id=0:=by
   unfold aah
   rcases h with q|q
   .rw[af5 q]
   .rw[af4 (by omega),af5 q]
    split<;>rfl
  have h2:edU t e=[]:=by unfold edU;rw[af5 h]
  rw[h1,h2];exact abH E hwf,hbb.mono hn0,Kt.of hbb⟩
 obtain⟨a1,a2,a3,a4,a5,a6,a7,a8,a9⟩:=aaq.1 hin
 obtain⟨gd,hgd⟩:=ay (W.heap.size)
 obtain⟨g6,lu⟩:=ay (w1.heap.size)
 rw[hgd]at x0 x1 x2 x3 x4 c0 c1 c2 c3 c4
 rw[lu]at hss p0 p1 p2 p3 p4 q0 q1 q2 q3 q4 r0 r1 r2 r3 r4
 have Ah:IntKind.i64.wrap (e.pos+e.n)=e.pos+e.n:=by rw[agd];omega
 have hws:IntKind.i64.wrap (e.af4-e.n)=e.af4-e.n:=by rw[agd];omega
 clear hs hwf hc hb1 b2 k2 kz hbb hin hlen a1 a2 a3 a4 a5 a6 a7 a8 a9 hn0
 unfold edV
 by_cases h4:e.kind=4
 .have e1:=ach h4 ul 0
  rw[e1]at hss p0 p1 p2 p3 p4 HR
  rw[h4]at x0 c0 hw⊢
  dsimp only at hss p0 p1 p2 p3 p4
  rw[show(((0:Nat):Int))=0 from rfl]at hss p4
  clear h
  go_enter Tryz.func89,Tryz.ntmps89
  go_wp2_with fail
  exact af_ (v:=.tuple #[edV ⟨2,e.af4,e.n,0,0⟩,.nilIface]) (by simp[results,Tryz.results89,go_sem,p0,p1,p2,p3,p4]) rfl HR.o
 have h5:=h.resolve_left h4
 by_cases hle:e.af4<=e.pos
 .have e1:=aci h4 h5 hle ul 0
  rw[e1]at hss p0 p1 p2 p3 p4 HR
  rw[h5]at x0 c0 hw⊢
  dsimp only at hss p0 p1 p2 p3 p4
  rw[show(((0:Nat):Int))=0 from rfl]at hss p4
  clear h
  go_enter Tryz.func89,Tryz.ntmps89
  go_wp2_with fail
  exact af_ (v:=.tuple #[edV ⟨5,e.af4,e.n,e.pos+e.n,0⟩,.nilIface]) (by simp[results,Tryz.results89,go_sem,p0,p1,p2,p3,p4]) rfl HR.o
 .have e1:=acH h4 h5 hle ul 0
  rw[e1]at hss p0 p1 p2 p3 p4 HR
  rw[h5]at x0 c0 hw⊢
  dsimp only at hss p0 p1 p2 p3 p4
  rw[show(((0:Nat):Int))=0 from rfl]at hss p4
  clear h
  go_enter Tryz.func89,Tryz.ntmps89
  go_wp2_with fail
  exact af_ (v:=.tuple #[edV ⟨5,e.af4-e.n,e.n,e.pos,0⟩,.nilIface]) (by simp[results,Tryz.results89,go_sem,p0,p1,p2,p3,p4]) rfl HR.o
theorem aW.abk(h:aW n0 w B most E)(k:aae w b a)(c:Edt):aW n0 (abk w b c) B most E:=by
 have k1:=aC (i:=0) (.int .i64 c.kind) k
 have k2:=aC (i:=1) (.int .i64 c.pos) k1
 have k3:=aC (i:=2) (.int .i64 c.n) k2
 have k4:=aC (i:=3) (.int .i64 c.af4) k3
 exact((((h.set' k (by decide) (by decide) _).set' k1 (by decide) (by decide) _).set' k2 (by decide) (by decide) _).set' k3 (by decide) (by decide) _).set' k4 (by decide) (by decide) _
theorem aae.set2(k:aae w b a)(n:Int):aae (w.setCell ⟨b,2,none⟩ (.int .i64 n)) b ⟨a.kind,a.pos,n,a.af4,a.id⟩:=aC (i:=2) (.int .i64 n) k
theorem aae.aaQ(k:aae w b a)(v:Nat):aae (w.setCell ⟨b,4,none⟩ (.int .i64 v)) b ⟨a.kind,a.pos,a.n,a.af4,v⟩:=aC (i:=4) (.int .i64 v) k
theorem aae.oth{g i:Nat}{v:Value}(k:aae w b a)(h:b≠g):aae (w.setCell ⟨g,i,none⟩ v) b a:=aB h k
theorem akS(hD:GZ D M)(hs:aW n0 W B most E)(hwf:iE E)(hb:fT E i t)(hM:t.length<=M){u:List Nat}(hu:fT E e.id u)(h4:e.kind≠4)(h5:e.kind≠5)(hin:aa2 t.length e=true)(hMx:M<=1000000)(hroom:E.length+bZ D<=most)(hE:E.length+bZ D<=1048576):
    Calls Tryz.prog 89 #[.pointer (some ⟨B,0,none⟩),.int .i64 i,edV e] W (acg n0 B most (bZ D) E W t u.length e):=by
 have hn0:=hs.lt
 have hE':E.length<=1048576:=by omega
 obtain⟨w1,hw,hc,hb1⟩:=abh W e
 obtain⟨wz,w0,hz,h0,-,-,kz⟩:=abN w1 edZ
 clear h0 w0
 have bz:Below w1.heap.size w1 wz:=by rw[<-hz];exact(af6 _ _).alloc (af7 _) _
 obtain⟨wy,w2,hy,hsy,k2,b2,ky⟩:=abN wz ⟨3,e.pos,0,0,0⟩
 obtain⟨gd,hgd⟩:=ay (W.heap.size)
 obtain⟨g6,lu⟩:=ay (w1.heap.size)
 obtain⟨g8,EJ⟩:=ay (wz.heap.size)
 dsimp only at hsy
 rw[show(((0:Nat):Int))=0 from rfl]at hsy
 have o1:gd<g6:=by
  have:=(aga.1 hc).1
  rwa [hgd,lu]at this
 have o2:g6<g8:=by
  have:=(aga.1 kz).1
  rwa [lu,EJ]at this
 have o3:g8<w2.heap.size:=by
  have:=(aga.1 k2).1
  rwa [EJ]at this
 have B2:Below W.heap.size W w2:=Below.after (Below.after hb1 bz) b2
 have kd2:aae w2 gd e:=by rw[<-hgd];exact au (Below.after bz b2) (by rw[hgd]at hc⊢;exact hc)
 have kdz:aae wz gd e:=by rw[<-hgd];exact au bz (by rw[hgd]at hc⊢;exact hc)
 have k62:aae w2 g6 edZ:=by rw[<-lu];exact au b2 kz
 rw[hgd]at hc;rw[lu]at kz;rw[EJ]at hsy k2 ky
 obtain⟨x0,x1,x2,x3,x4⟩:=kdz.cells
 obtain⟨y0,y1,y2,y3,y4⟩:=ky.cells
 have f0:=ky.free 0;have f1:=ky.free 1;have f2:=ky.free 2;have f3:=ky.free 3;have f4:=ky.free 4
 have HWE:aA (Calls Tryz.prog 36 #[.pointer (some ⟨B,0,none⟩),.int .i64 e.id] w2 λr w'=>r=.returned (.tuple #[wK (aF E e.id).w,.nilIface])/\Below w2.heap.size w2 w'):=ak (dS (hs.below B2) hu.le hE')
 have hwl:(aF E e.id).w.len=u.length:=(hu.len hwf).2
 obtain⟨wt,hwt⟩:=ay ((aF E e.id).w)
 rw[hwt]at HWE hwl
 unfold wK at HWE
 obtain⟨z0,-,-,-,z4⟩:=kd2.cells
 have HK:=ak (And.intro kd2 (And.intro k62 (And.intro k2 (And.intro o1 (And.intro o2 o3)))))
 have HB2:=ak B2
 have HX:=ak (And.intro hs (And.intro hwf (And.intro hb (And.intro hM (And.intro hu (And.intro hin (And.intro hMx (And.intro hroom hE))))))))
 have HW:=ak hwl
 have HN:=ak (And.intro hn0 hgd)
 have H45:=ak (And.intro h4 h5)
 have e4:(e.kind==4)=false:=agh.2 h4
 have e5:(e.kind==5)=false:=agh.2 h5
 clear hs hwf hb hM hu hin hMx hroom hE hE' hn0 kd2 k62 k2 o1 o2 o3 B2 hwl hwt hb1 bz b2 kz ky hc h4 h5 kdz
 unfold edV
 go_enter Tryz.func89,Tryz.ntmps89
 go_wp2_with fail
 clear x0 x1 x2 x3 x4 y0 y1 y2 y3 y4 f0 f1 f2 f3 f4 hw hz hy hsy hgd lu EJ
 refine HWE.o.mono ?_;rintro r w3 ⟨rfl,b3⟩
 obtain⟨wv,w4,hv,hsv,k4,b4,⟨q0,q1,q2,q3,q4,q5⟩,r0,r1,r2,r3,r4,r5⟩:=kE w3 wt
 have b34:=Below.after b3 b4
 obtain⟨kd,k6,k8,o1,o2,o3⟩:=HK.o
 replace kd:aae w4 gd e:=au b34 kd
 replace k6:aae w4 g6 edZ:=au b34 k6
 replace k8:aae w4 g8 ⟨3,e.pos,0,0,0⟩:=au b34 k8
 have B4:=Below.after HB2.o b34
 obtain⟨x0,x1,x2,x3,x4⟩:=kd.cells
 have p2:=k8.cells.2.2.1
 have m2:=k8.free 2
 have v0:=k4.cells.1
 obtain⟨g9,DW⟩:=ay (w3.heap.size)
 have o4:g8≠g9:=by rw[<-DW];have:=b3.size;omega
 rw[DW]at hsv k4 q0 q1 q2 q3 q4 q5 r0 r1 r2 r3 r4 r5 v0
 obtain⟨w5,eH⟩:=ay (w4.setCell ⟨g8,2,none⟩ (.int .i64 wt.len))
 have B5:Below W.heap.size W w5:=by rw[<-eH];exact B4.setCell (p:=⟨g8,2,none⟩) (by rw[HN.o.2];show gd<=g8;omega) _
 have kd5:aae w5 gd e:=by rw[<-eH];exact kd.oth (by omega)
 have k65:aae w5 g6 edZ:=by rw[<-eH];exact k6.oth (by omega)
 have k85:aae w5 g8 ⟨3,e.pos,u.length,0,0⟩:=by rw[<-eH,HW.o];exact k8.set2 _
 obtain⟨c0,c1,c2,c3,c4⟩:=kd5.cells
 have mG:=ak B5
 have qU:=ak (HX.o.1.below B5)
 have uJ:=ak (And.intro k65 k85)
 have HO:=ak (And.intro o1 (And.intro o2 o3))
 clear kd k6 k8 o1 o2 o3 b34 b3 b4 B4 k4 o4 B5 kd5 k65 k85
 by_cases hn:0<e.n
 .have hng:e.n>0:=hn
  obtain⟨a1,a2,a3,a4,a5,a6,-⟩:=aaq.1 HX.o.2.2.2.2.2.1
  have zf:aA (Calls Tryz.prog 121 #[.pointer (some ⟨B,0,none⟩),.int .i64 i,.int .i64 e.pos,.int .i64 e.n] w5 (uH n0 B most (bZ D) E w5 ((t.drop e.pos.toNat).take e.n.toNat))):=ak (by
   obtain⟨hs,hwf,hb,hM,hu,hin,hMx,hroom,hE⟩:=HX.o
   have:=IJ hD qU.o hwf hb (f:=e.pos.toNat) (n:=e.n.toNat) (by omega) hM hroom hE
   rwa [show((e.pos.toNat:Nat):Int)=e.pos by omega,show((e.n.toNat:Nat):Int)=e.n by omega]at this)
  clear a1 a2 a3 a4 a5 a6 hn
  go_wp2_with fail
  clear x0 x1 x2 x3 x4 p2 m2 v0 q0 q1 q2 q3 q4 q5 r0 r1 r2 r3 r4 r5 hv hsv eH c0 c1 c2 c3 c4 DW z0 z4
  refine zf.o.mono ?_
  rintro r w6 ⟨E6,v,rfl,s6,f6,x6,n6,b6,bb6,kt6⟩
  have k66:aae w6 g6 edZ:=uJ.o.1.kt kt6
  have k86:aae w6 g8 ⟨3,e.pos,u.length,0,0⟩:=uJ.o.2.kt kt6
  have p4:=k86.cells.2.2.2.2
  have m4:=k86.free 4
  obtain⟨w7,hw7⟩:=ay (w6.setCell ⟨g8,4,none⟩ (.int .i64 v))
  have s7:aW n0 w7 B most E6:=by rw[<-hw7];exact s6.set' k86 (by decide) (by decide) _
  have k67:aae w7 g6 edZ:=by rw[<-hw7];exact k66.oth (by have:=HO.o;omega)
  have k87:aae w7 g8 ⟨3,e.pos,u.length,0,v⟩:=by rw[<-hw7];exact k86.aaQ _
  have afs:W.heap.size<=g8:=by rw[HN.o.2];have:=HO.o;omega
  have adl:W.heap.size<=g6:=by rw[HN.o.2];have:=HO.o;omega
  obtain⟨d0,d1,d2,d3,d4⟩:=k87.cells
  obtain⟨t0,t1,t2,t3,t4⟩:=k67.cells
  have l0:=k67.free 0;have l1:=k67.free 1;have l2:=k67.free 2;have l3:=k67.free 3;have l4:=k67.free 4
  obtain⟨w8,hw8⟩:=ay (abk w7 g6 ⟨3,e.pos,u.length,0,v⟩)
  have s8:aW n0 w8 B most E6:=by rw[<-hw8];exact s7.abk k67 _
  have k8:aae w8 g6 ⟨3,e.pos,u.length,0,v⟩:=by rw[<-hw8];exact k67.set _
  obtain⟨j0,j1,j2,j3,j4⟩:=k8.cells
  have MR:Kt B W w5:=Kt.of mG.o
  have bbW:Below n0 W w6:=(mG.o.mono HN.o.1).trans bb6
  have hnn:=HN.o.1
  have HR:aA (acg n0 B most (bZ D) E W t u.length e (.returned (.tuple #[edV ⟨3,e.pos,u.length,0,v⟩,.nilIface])) w8):=ak ⟨E6,v,(abO H45.o.1 H45.o.2 _ _).symm▸rfl,s8,f6,x6,n6,by
   unfold aah edU
   rw[af4 H45.o.1,af4 H45.o.2,af4 (by have:=H45.o;omega)]
   exact b6,by
   rw[<-hw8,<-hw7]
   exact aaN (bbW.setCell (p:=⟨g8,4,none⟩) (by show n0<=g8;omega) _) (by omega) _,(MR.trans kt6).then (by rw[<-hw8,<-hw7];exact aaN ((af6 _ _).setCell (p:=⟨g8,4,none⟩) afs _) adl _)⟩
  clear s6 f6 x6 n6 b6 bb6 kt6 k66 k86 s7 k67 k87 afs adl s8 k8 MR bbW hnn
  unfold abk at hw8
  dsimp only at hw8 d0 d1 d2 d3 d4 t0 t1 t2 t3 t4 j0 j1 j2 j3 j4
  go_wp2_with fail
  exact af_ (v:=.tuple #[edV ⟨3,e.pos,u.length,0,v⟩,.nilIface]) (by simp[results,Tryz.results89,go_sem,j0,j1,j2,j3,j4]) rfl HR.o
 .have hng:¬e.n>0:=hn
  have hn0:e.n=0:=by have:=(aaq.1 HX.o.2.2.2.2.2.1).2.2.2.1;omega
  obtain⟨k67,k87⟩:=uJ.o
  have afs:W.heap.size<=g8:=by rw[HN.o.2];have:=HO.o;omega
  have adl:W.heap.size<=g6:=by rw[HN.o.2];have:=HO.o;omega
  obtain⟨d0,d1,d2,d3,d4⟩:=k87.cells
  obtain⟨t0,t1,t2,t3,t4⟩:=k67.cells
  have l0:=k67.free 0;have l1:=k67.free 1;have l2:=k67.free 2;have l3:=k67.free 3;have l4:=k67.free 4
  obtain⟨w8,hw8⟩:=ay (abk w5 g6 ⟨3,e.pos,u.length,0,0⟩)
  have s8:aW n0 w8 B most E:=by rw[<-hw8];exact qU.o.abk k67 _
  have k8:aae w8 g6 ⟨3,e.pos,u.length,0,0⟩:=by rw[<-hw8];exact k67.set _
  obtain⟨j0,j1,j2,j3,j4⟩:=k8.cells
  have b8:Below W.heap.size W w8:=by rw[<-hw8];exact aaN mG.o adl _
  have HR:aA (acg n0 B most (bZ D) E W t u.length e (.returned (.tuple #[edV ⟨3,e.pos,u.length,0,0⟩,.nilIface])) w8):=ak ⟨E,0,(abO H45.o.1 H45.o.2 _ _).symm▸rfl,s8,HX.o.2.1,Ext.refl _,by omega,by
   unfold aah edU
   rw[af4 H45.o.1,af4 H45.o.2,af4 (by have:=H45.o;omega),hn0]
   exact abH E HX.o.2.1,b8.mono HN.o.1,Kt.of b8⟩
  clear k67 k87 afs adl s8 k8 b8 hn hn0
  unfold abk at hw8
  dsimp only at hw8 d0 d1 d2 d3 d4 t0 t1 t2 t3 t4 j0 j1 j2 j3 j4
  rw[show(((0:Nat):Int))=0 from rfl]at hw8 d4 j4
  go_wp2_with fail
  exact af_ (v:=.tuple #[edV ⟨3,e.pos,u.length,0,0⟩,.nilIface]) (by simp[results,Tryz.results89,go_sem,j0,j1,j2,j3,j4]) rfl HR.o
theorem afu(hD:GZ D M)(hs:aW n0 W B most E)(hwf:iE E)(hb:fT E i t)(h:EOk E M t e)(hMx:M<=1000000)(hroom:E.length+bZ D<=most)(hE:E.length+bZ D<=1048576):
    Calls Tryz.prog 89 #[.pointer (some ⟨B,0,none⟩),.int .i64 i,edV e] W (acg n0 B most (bZ D) E W t (txt E e.id).length e):=by
 have hl:=h.len
 by_cases h45:e.kind=4\/e.kind=5
 .exact akR hs hwf h45 h.fit.2 (by omega)
 .exact akS hD hs hwf hb (by omega) h.Ig (by omega) (by omega) h.fit.2 hMx hroom hE
end
end M
end Go.Proofs.YtgbhohfabhilgaaGreatDoor
namespace Go.Proofs.YtgbhohfabhilgaaGreatDoor
open Go.RowKit
namespace M
variable{L R:List Edt}{E E2:List En}{t:List Nat}{M:Nat}
def abx(E E2:List En)(t:List Nat)(L R:List Edt):Prop:=
 R.length=L.length/\∀j (h:j<L.length) (h2:j<R.length),∃v,R[j]=aah L[j] (txt E L[j].id).length v/\fT E2 (aah L[j] (txt E L[j].id).length v).id (edU (aaf E t (L.take j)) L[j])
theorem abx.ext{E E2 E3:List En}{t:List Nat}{L R:List Edt}(h:abx E E2 t L R)(hx:Ext E2 E3):abx E E3 t L R:=⟨h.1,λj h1 h2=>by
 obtain⟨v,e1,e2⟩:=h.2 j h1 h2
 exact⟨v,e1,e2.ext hx⟩⟩
theorem abx.fin(h:abx E E2 t L R)(hx:Ext E E2)(hi:∀e∈L,e.id<=E.length):abx E2 E2 t L R:=⟨h.1,λj h1 h2=>by
 obtain⟨v,e1,e2⟩:=h.2 j h1 h2
 have hj:=hi L[j] (ag0 h1)
 rw[aar hx _ _ (λe he=>hi e (ahJ he)),hx.txt hj]
 exact⟨v,e1,e2⟩⟩
theorem abx.nil(E E2:List En)(t:List Nat):abx E E2 t [] []:=⟨rfl,λj h=>by simp at h⟩
theorem abx.snoc{n:Nat}(hn:n<L.length)(h:abx E E2 t (L.take n) R){v:Nat}(hb:fT E2 (aah L[n] (txt E L[n].id).length v).id (edU (aaf E t (L.take n)) L[n])):
    abx E E2 t (L.take (n+1)) (R++[aah L[n] (txt E L[n].id).length v]):=by
 have hl:(L.take n).length=n:=by rw[agB];omega
 have hr:R.length=n:=by rw[h.1,hl]
 refine⟨by rw[af8,h.1];simp only[agB,agk];omega,λj h1 h2=>?_⟩
 have hj1:j<L.length:=by rw[agB]at h1;omega
 have hj2:j<=n:=by rw[agB]at h1;omega
 rw[List.getElem_take,akh,show min j (n+1)=j by omega]
 by_cases hq:j<n
 .obtain⟨w,e1,e2⟩:=h.2 j (by omega) (by omega)
  rw[List.getElem_take,akh,show min j n=j by omega]at *
  exact⟨w,by rw[ajk (by omega)];exact e1,e2⟩
 .obtain rfl:j=n:=by omega
  refine⟨v,?_,hb⟩
  rw[ah_ (by omega)]
  simp[hr]
theorem aau.cons{e:Edt}(h:EOk E M t e)(h2:aau E M (edT t (txt E e.id) e) L):aau E M t (e::L):=λj hj=>match j,hj with
 |0,_=>h
 |j+1,hj=>h2 j (by simpa using hj)
theorem aau.front{e:Edt}(h:aau E M t (L++[e])):aau E M t L/\EOk E M (aaf E t L) e:=by
 refine⟨λj hj=>?_,?_⟩
 .have:=h j (by simp;omega)
  rwa [ajk hj,ahP (by omega)]at this
 .have:=h L.length (by simp)
  simpa using this
theorem adn{N:Nat}(hM:M<=1000000)(h3:3*N<=M):∀(n:Nat) (L R:List Edt),L.length=n->aau E M t L->(∀j≤L.length,(aaf E t (L.take j)).length<=N)->abx E E t L R->
    aau E M (aaf E t L) R.reverse/\aaf E (aaf E t L) R.reverse=t:=by
 intro n
 induction n with
 |zero=>
  intro L R hn _ _ hi
  have e1:L=[]:=ahE.1 hn
  have e2:R=[]:=ahE.1 (by rw[hi.1,hn])
  subst e1;subst e2
  exact⟨aau.nil _ _ _,rfl⟩
 |succ n ih=>
  intro L R hn hL hlen hi
  rcases agR L with rfl|⟨L,e,rfl⟩
  .simp at hn
  rcases agR R with rfl|⟨R,d,rfl⟩
  .have:=hi.1;simp at this
  simp only[agO]at *
  have hl:L.length=n:=by simpa using hn
  have hr:R.length=n:=by have:=hi.1;simp at this;omega
  obtain⟨hL1,he⟩:=hL.front
  obtain⟨v,d1,d2⟩:=hi.2 n (by simp;omega) (by simp;omega)
  have g1:(L++[e])[n]'(by simp;omega)=e:=by rw[ah_ (by omega)];simp[hl]
  have g2:(R++[d])[n]'(by simp;omega)=d:=by rw[ah_ (by omega)];simp[hr]
  rw[g1]at d1 d2
  rw[g2]at d1
  rw[<-d1]at d2
  rw[ahP (by omega),agI (by omega)]at d2
  obtain⟨i1,i2⟩:=ih L R hl hL1 (λj hj=>by
   have:=hlen j (by simp;omega)
   rwa [ahP hj]at this) ⟨by omega,λj h1 h2=>by
   obtain⟨w,q1,q2⟩:=hi.2 j (by simp;omega) (by simp;omega)
   rw[ajk h1,ahP (by omega)]at q2
   rw[ajk h2,ajk h1]at q1
   exact⟨w,q1,q2⟩⟩
  have b1:=hlen L.length (by simp)
  have b2:=hlen (L++[e]).length (af7 _)
  rw[List.take_left]at b1
  rw[ahe,aaO]at b2
  rw[aaO,ahS]
  show aau E M _ (d::R.reverse)/\aaf E _ (d::R.reverse)=t
  obtain⟨-,-,a3,a4,a5,a6,-⟩:=aaq.1 he.fit.2
  have hmx:dX=1152921504606846976:=rfl
  have hel:=he.len
  obtain⟨k1,k2,k3⟩:=afd (v:=v) he.nil he.fit.2 (by omega)
  rw[<-d1]at k1 k2 k3
  have EX:(edU (aaf E t L) e).length<=N:=by
   unfold edU
   split
   .exact agb _
   .rw[agB,agp];omega
  have e1:edT (edT (aaf E t L) (txt E e.id) e) (txt E d.id) d=aaf E t L:=by rw[d2.txt];exact k3
  refine⟨aau.cons ⟨⟨k1,k2⟩,by rw[d2.txt];exact d2,by rw[d2.txt];omega⟩ (by rw[e1];exact i1),?_⟩
  show aaf E (edT _ (txt E d.id) d) R.reverse=t
  rw[e1];exact i2
end M
end Go.Proofs.YtgbhohfabhilgaaGreatDoor
namespace Go.Proofs.YtgbhohfabhilgaaGreatDoor
open Go.RowKit Go.Lib
namespace M
attribute [local go_sem] Oper.semAt_some
variable{X:List Nat}{T b0 i m:Nat}{v:Value}{W:World}
structure Nd where
 id:Nat
 par:Int
 pre:Int
 dep:Int
 ca:Option Addr
 cl:Nat
 cc:Nat
def abI(e:Nd):List Value:=[.int .i64 e.id,.int .i64 e.par,.int .i64 e.pre,.int .i64 e.dep,.slice e.ca e.cl e.cc]
theorem aaG(e:Nd):(abI e).length=5:=rfl
theorem acI(e:Nd):∀u∈abI e,u.oneCell'=true:=by simp[abI,Value.oneCell']
theorem akT:Elem Tryz.prog 175 174 5 56:=gP Tryz.underlying175 (z:=.agg #[.int .i64 0,.int .i64 0,.int .i64 0,.int .i64 0,.slice none 0 0]) (by kernel_rfl) rfl (by decide) (by decide)
def abW(X:List Nat)(L:List Nd):Prop:=L.length=X.length/\∀j (h:j<L.length) (h2:j<X.length),L[j].id=X[j]/\L[j].par=(j:Int)-1/\L[j].pre=(if j+1<X.length then(j:Int)+1 else -1)/\(j+1=X.length->L[j].ca=none/\L[j].cl=0/\L[j].cc=0)
def nd0(x:Nat)(p d:Int):Nd:=⟨x,p, -1,d,none,0,0⟩
theorem abW.one(x:Nat):abW [x] [nd0 x (-1) 0]:=⟨rfl,λj h h2=>by
 obtain rfl:j=0:=by simp at h;omega
 exact⟨rfl,rfl,rfl,λ_=>⟨rfl,rfl,rfl⟩⟩⟩
theorem abW.snoc{L:List Nd}(h:abW X L)(hm:m+1=X.length)(kM:m<L.length)(x:Nat)(d:Int)(a:Option Addr)(l c:Nat):abW (X++[x]) (L.set m ⟨L[m].id,L[m].par,(m:Int)+1,L[m].dep,a,l,c⟩++[nd0 x m d]):=by
 have hl:=h.1
 refine⟨by simp[hl],λj h1 h2=>?_⟩
 have hXl:(X++[x]).length=X.length+1:=by simp
 rw[hXl]at h2⊢
 by_cases hj:j<X.length
 .obtain⟨a1,a2,a3,-⟩:=h.2 j (by omega) hj
  rw[ajk (by rw[agL];omega),ajk hj,List.getElem_set]
  split
  .next q=>
   subst q
   refine⟨a1,a2,?_,λq=>by omega⟩
   rw[af5 (by omega)]
  .next q=>
   refine⟨a1,a2,?_,λq=>by omega⟩
   rw[a3,af5 (by omega),af5 (by omega)]
 .obtain rfl:j=X.length:=by omega
  rw[ah_ (by rw[agL];omega),ah_ (af7 _)]
  simp only[agL,hl,aiz,List.getElem_singleton]
  refine⟨rfl,?_,?_,λ_=>⟨rfl,rfl,rfl⟩⟩
  .show(m:Int)=_;omega
  .rw[af4 (by omega)];rfl
def aaH(W:World)(T:Nat)(v:Value)(m:Nat):Prop:=W.heap[T]?=some (.cells #[v,.int .i64 m] 177 (0,0))
theorem aaH.cells(h:aaH W T v m):W.cell? ⟨T,0,none⟩=some v/\W.cell? ⟨T,1,none⟩=some (.int .i64 m):=by
 unfold aaH at h
 simp[World.cell?,h]
theorem aaH.free(h:aaH W T v m)(i:Nat):W.frozen? ⟨T,i,none⟩=false:=by
 unfold aaH at h
 simp[World.frozen?,h]
structure aas(b0:Nat)(W:World)(T:Nat)(v:Value)(L:List Nd)(X:List Nat)(m:Nat):Prop where
 box:aaH W T v m
 lie:aP b0 W 174 5 abI v L
 ok:abW X L
 lo:b0<=T
 mx:m<X.length
theorem aas.kd{L:List Nd}{A C:World}(h:aas b0 A T v L X m)(hk:Kd A C):aas b0 C T v L X m:=⟨hk _ (by decide) (by decide) _ _ _ h.box,aP.keep h.lie (λk cs fz e=>hk _ (by decide) (by decide) k cs fz e),h.ok,h.lo,h.mx⟩
theorem aas.at{L:List Nd}(h:aas b0 W T v L X m)(hi:i<X.length):∃g cap d a l c,v=.slice (some ⟨g,0,none⟩) X.length cap/\X.length<=cap/\cap<=maxLen/\b0<=g/\T≠g/\(i+1=X.length->a=none/\l=0/\c=0)/\(∀j,W.frozen? ⟨g,j,none⟩=false)/\∀W':World,(∀(cs:Array Value) (fz:Nat×Nat),W.heap[g]?=some (.cells cs 174 fz)->W'.heap[g]?=some (.cells cs 174 fz))->W'.cell? ⟨g,i*5,none⟩=some (.int .i64 X[i])/\W'.cell? ⟨g,i*5+1,none⟩=some (.int .i64 ((i:Int)-1))/\W'.cell? ⟨g,i*5+2,none⟩=some (.int .i64 (if i+1<X.length then(i:Int)+1 else -1))/\W'.cell? ⟨g,i*5+3,none⟩=some (.int .i64 d)/\W'.cell? ⟨g,i*5+4,none⟩=some (.slice a l c):=by
 have hl:=h.ok.1
 obtain⟨e1,e2,e3,e4⟩:=h.ok.2 i (by omega) hi
 rcases h.lie.shape with⟨-,q⟩|⟨g,cap,rfl,h1,h2⟩
 .rw[q]at hl;simp at hl;omega
 .obtain⟨hb,cur,jN⟩:=h.lie.blk (b:=g) rfl
  have hne:T≠g:=λe=>by
   have:=h.box
   unfold aaH at this
   rw[e,jN]at this
   simp at this
  refine⟨g,cap,L[i].dep,L[i].ca,L[i].cl,L[i].cc,by rw[hl],by omega,h2,hb,hne,e4,λj=>by simp[World.frozen?,jN],λW' hw=>?_⟩
  have h':aP b0 W' 174 5 abI (.slice (some ⟨g,0,none⟩) L.length cap) L:=by
   rcases h.lie.2 with⟨q,-⟩|⟨g',cap',cur',q,hg',hgb,q1,q2,q3,q4⟩
   .cases q
   .cases q
    exact⟨h.lie.1,.inr ⟨_,_,cur',rfl,hg',hw _ _ hgb,q1,q2,q3,q4⟩⟩
  have c:=λ(j:Nat) (hj:j<5)=>aP.cell aaG h' (by omega:i<L.length) (j:=j) hj
  exact⟨by rw[<-e1];exact c 0 (by omega),by rw[<-e2];exact c 1 (by omega),by rw[<-e3];exact c 2 (by omega),c 3 (by omega),c 4 (by omega)⟩
theorem aP.adu{α:Type}{B:Nat}{e:TypeId}{enc:α->List Value}(he:∀a,(enc a).length=5){g cap n:Nat}{l:List α}(h:aP B W e 5 enc (.slice (some ⟨g,0,none⟩) n cap) l)(hi:i<l.length){x':α}{u0 u1 u2 u3 u4:Value}(hx:enc x'=[u0,u1,u2,u3,u4]):
    aP B (((((W.setCell ⟨g,i*5,none⟩ u0).setCell ⟨g,i*5+1,none⟩ u1).setCell ⟨g,i*5+2,none⟩ u2).setCell ⟨g,i*5+3,none⟩ u3).setCell ⟨g,i*5+4,none⟩ u4) e 5 enc (.slice (some ⟨g,0,none⟩) n cap) (l.set i x'):=by
 obtain⟨f,hf⟩:∃f:α->{q:List Value // q.length=5},f=λa=>⟨enc a,he a⟩:=⟨_,rfl⟩
 have hraw:∀{W:World} {m:List α},aP B W e 5 enc (.slice (some ⟨g,0,none⟩) n cap) m↔aP B W e 5 (λq:{q:List Value // q.length=5}=>q.1) (.slice (some ⟨g,0,none⟩) n cap) (m.map f):=by
  intro W m
  unfold aP
  rw[agM,List.flatMap_map,hf]
 have hr:=hraw.1 h
 have hl:(l.map f).length=l.length:=agM _
 have hgi:(l.map f)[i]'(by rw[hl];exact hi)=f l[i]:=aiK _
 have h0:=aP.setAt (λq:{q:List Value // q.length=5}=>q.2) hr (i:=i) (j:=0) (by rw[hl];exact hi) (by omega) (x':=⟨(enc l[i]).set 0 u0,by rw[agL];exact he _⟩) (u:=u0) (by rw[hgi,hf])
 have h1:=aP.setAt (λq:{q:List Value // q.length=5}=>q.2) h0 (i:=i) (j:=1) (by rw[agL,hl];exact hi) (by omega) (x':=⟨((enc l[i]).set 0 u0).set 1 u1,by rw[agL,agL];exact he _⟩) (u:=u1) (by rw[ajY])
 have h2:=aP.setAt (λq:{q:List Value // q.length=5}=>q.2) h1 (i:=i) (j:=2) (by rw[agL,agL,hl];exact hi) (by omega) (x':=⟨(((enc l[i]).set 0 u0).set 1 u1).set 2 u2,by rw[agL,agL,agL];exact he _⟩) (u:=u2) (by rw[ajY])
 have h3:=aP.setAt (λq:{q:List Value // q.length=5}=>q.2) h2 (i:=i) (j:=3) (by rw[agL,agL,agL,hl];exact hi) (by omega) (x':=⟨((((enc l[i]).set 0 u0).set 1 u1).set 2 u2).set 3 u3,by rw[agL,agL,agL,agL];exact he _⟩) (u:=u3) (by rw[ajY])
 have h4:=aP.setAt (λq:{q:List Value // q.length=5}=>q.2) h3 (i:=i) (j:=4) (by rw[agL,agL,agL,agL,hl];exact hi) (by omega) (x':=⟨(((((enc l[i]).set 0 u0).set 1 u1).set 2 u2).set 3 u3).set 4 u4,by rw[agL,agL,agL,agL,agL];exact he _⟩) (u:=u4) (by rw[ajY])
 rw[akl,akl,akl,akl]at h4
 refine hraw.2 ?_
 have e5:(l.set i x').map f=(l.map f).set i ⟨(((((enc l[i]).set 0 u0).set 1 u1).set 2 u2).set 3 u3).set 4 u4,by rw[agL,agL,agL,agL,agL];exact he _⟩:=by
  rw[ai_]
  congr 1
  rw[hf]
  refine Subtype.ext ?_
  show enc x'=_
  rw[hx]
  show[u0,u1,u2,u3,u4]=(((((enc l[i]).set 0 u0).set 1 u1).set 2 u2).set 3 u3).set 4 u4
  obtain⟨q,hq⟩:=ay (enc l[i])
  have hql:q.length=5:=by rw[<-hq];exact he _
  rw[hq]
  match q,hql with
  | [a,b,c,d,z],_=>rfl
 rw[e5]
 exact h4
end M
end Go.Proofs.YtgbhohfabhilgaaGreatDoor
