import Derived.Test.YtgbhohfabhilgaaGreatDoorBase11
set_option maxRecDepth 100000
set_option maxHeartbeats 8000000
set_option linter.unusedVariables false
set_option linter.unusedSimpArgs false
namespace Go.Proofs.YtgbhohfabhilgaaGreatDoor
section
open Go.RowKit Go.Lib
namespace M
attribute [local go_sem] Oper.semAt_some
variable{E:List En}{L:List bH}{B b0 g i k most n n0:Nat}{x y:Sy}{v:Value}{W:World}
def w_(c:bH):List Value:=[.int .i64 c.pos,.int .i64 c.n,.int .i64 c.id]
theorem iV(c:bH):(w_ c).length=3:=rfl
abbrev mg(B:Nat)(W:World)(v:Value)(L:List bH):Prop:=aP B W 107 3 w_ v L
theorem vg:Elem Tryz.prog 62 107 3 24:=gP Tryz.underlying62 (z:=.agg #[.int .i64 0,.int .i64 0,.int .i64 0]) (by kernel_rfl) rfl (by decide) (by decide)
theorem mg.at(h:mg B W v L)(hi:i<L.length):
    ∃g cap,v=.slice (some ⟨g,0,none⟩) L.length cap/\L.length<=cap/\cap<=maxLen/\∀(W':World),Below W.heap.size W W'->∀i (hi:i<L.length),W'.cell? ⟨g,i*3,none⟩=some (.int .i64 L[i].pos)/\W'.cell? ⟨g,i*3+1,none⟩=some (.int .i64 L[i].n)/\W'.cell? ⟨g,i*3+2,none⟩=some (.int .i64 L[i].id):=by
 rcases h.shape with⟨-,rfl⟩|⟨g,cap,rfl,h1,h2⟩
 .simp at hi
 .refine⟨g,cap,rfl,h1,h2,λW' hb i hi=>?_⟩
  have h':=h.below hb
  have c:=λ(j:Nat) (hj:j<3)=>aP.cell iV h' hi (j:=j) hj
  exact⟨c 0 (by omega),c 1 (by omega),c 2 (by omega)⟩
def IG(W:World)(g:Nat)(c:bH):Prop:=W.heap[g]?=some (.cells #[.int .i64 c.pos,.int .i64 c.n,.int .i64 c.id] 107 (0,0))
theorem IG.cells{c:bH}(h:IG W g c):W.cell? ⟨g,0,none⟩=some (.int .i64 c.pos)/\W.cell? ⟨g,1,none⟩=some (.int .i64 c.n)/\W.cell? ⟨g,2,none⟩=some (.int .i64 c.id):=by
 unfold IG at h
 simp[World.cell?,h]
theorem IG.free{c:bH}(h:IG W g c)(i:Nat):W.frozen? ⟨g,i,none⟩=false:=by
 unfold IG at h
 simp[World.frozen?,h]
theorem xg(w:World)(c:bH):∃wz w2,w.alloc (.cells #[.int .i64 0,.int .i64 0,.int .i64 0] 107)=wz/\
    ((wz.setCell ⟨w.heap.size,0,none⟩ (.int .i64 c.pos)).setCell ⟨w.heap.size,1,none⟩ (.int .i64 c.n)).setCell ⟨w.heap.size,2,none⟩ (.int .i64 c.id)=w2/\IG w2 w.heap.size c/\Below w.heap.size w w2/\
    (wz.cell? ⟨w.heap.size,0,none⟩=some (.int .i64 0)/\wz.cell? ⟨w.heap.size,1,none⟩=some (.int .i64 0)/\wz.cell? ⟨w.heap.size,2,none⟩=some (.int .i64 0))/\(wz.frozen? ⟨w.heap.size,0,none⟩=false/\wz.frozen? ⟨w.heap.size,1,none⟩=false/\wz.frozen? ⟨w.heap.size,2,none⟩=false):=by
 have k0:IG (w.alloc (.cells #[.int .i64 0,.int .i64 0,.int .i64 0] 107)) w.heap.size ⟨0,0,0⟩:=aD _ _
 have b0:Below w.heap.size w (w.alloc (.cells #[.int .i64 0,.int .i64 0,.int .i64 0] 107)):=(af6 _ _).alloc (af7 _) _
 exact⟨_,_,rfl,rfl,aC _ (aC _ (aC _ k0)),((b0.setCell (p:=⟨w.heap.size,0,none⟩) (af7 _) _).setCell (p:=⟨w.heap.size,1,none⟩) (af7 _) _).setCell (p:=⟨w.heap.size,2,none⟩) (af7 _) _,k0.cells,k0.free 0,k0.free 1,k0.free 2⟩
theorem FP(h:n<=9223372036854775807):IM.In (n:Int):=by
 simp[IM.In,Lit.wf,IntKind.min,IntKind.max,IntKind.signed,IntKind.bits];omega
theorem uI(hs:aW n0 W B most E)(hE:E.length<=1048576)(hC:mg b0 W v L)(hT:zZ E L)(OC:L.length<=1000000):
    Calls Tryz.prog 109 #[.pointer (some ⟨B,0,none⟩),v] W λe w'=>e=.returned .nilIface/\Below W.heap.size W w':=by
 have hmm:= @akr Tryz.prog
 have HS:=ak hs;have HC:=ak hC;have HT:=ak hT
 obtain⟨va,vc,rfl⟩:=hC.len
 have hcc:L.length<=vc/\vc<=maxLen\/L.length=0:=by
  rcases hC.shape with⟨-,h⟩|⟨g,c,h,h1,h2⟩
  .right;rw[h];rfl
  .left;cases h;exact⟨h1,h2⟩
 obtain⟨W1,hW1⟩:=ay (W.alloc (.map #[] 0))
 have b1:Below W.heap.size W W1:=by rw[<-hW1];exact(af6 _ _).alloc (af7 _) _
 have Vm:aA (IM.MapAt Value.bool W1 W.heap.size []):=ak (by rw[<-hW1];exact IM.MapAt.made Value.bool W)
 have HB1:=ak b1
 clear hs hC hT b1 hcc
 go_enter Tryz.func109,Tryz.ntmps109
 go_wp2_with fail
 clear hW1 hmm
 go_loopw [13] (λiv wr=>∃(i:Nat) (l:List (Int×Bool)),iv=.int .i64 i/\i<=L.length/\IM.MapAt Value.bool wr W.heap.size l/\l.length<=i/\Below W.heap.size W wr) (λiv _=>L.length-(intOf iv).toNat)
 case atStart=>exact⟨0,[],rfl,agb _,Vm.o,af7 _,HB1.o⟩
 case round=>
  clear Vm HB1
  obtain⟨i,l,rfl,hi,hm,hl,hB⟩:=hrel
  have HM:=ak hm;have HB:=ak hB;have HL:=ak hl
  clear hm hB hl
  by_cases hlt:i<L.length
  .have hlt2:(i:Int)<(L.length:Int):=by omega
   have hlt3:(0:Int)<=(i:Int):=by omega
   obtain⟨g,cap,hv,-,-,hc⟩:=HC.o.at hlt
   simp only[agn]at hv
   obtain⟨rfl,-,rfl⟩:=hv
   obtain⟨q0,q1,q2⟩:=hc wr HB.o i hlt
   obtain⟨hid,hev⟩:=HT.o L[i] (ag0 hlt)
   generalize L[i]=c at *
   obtain⟨wz,w1,hz,hs1,kc,bc,⟨p0,p1,p2⟩,f0,f1,f2⟩:=xg wr c
   obtain⟨gc,hgc⟩:=ay (wr.heap.size)
   rw[hgc]at hs1 p0 p1 p2 f0 f1 f2 kc
   obtain⟨y0,y1,y2⟩:=kc.cells
   have hin:IM.In (c.id:Int):=FP (by omega)
   have Vm:=ak (HM.o.below bc)
   have hzv:∀w,(zeroValue 4).run Tryz.prog w=.ok (.bool false) w:=λw=>by kernel_rfl
   obtain⟨bb,hlk⟩:∃b,(Instr.lookup 257 (.map (some W.heap.size)) (.int .i64 (c.id:Int)) false).run Tryz.prog w1=.ok (.bool b) w1:=by
    have h:=IM.MapAt.look (P:=Tryz.prog) (t:=257) (k:=27) (e:=4) false Vm.o Tryz.underlying27 Tryz.underlying257 (hzv w1) hin
    cases hg:IM.dQ (c.id:Int) l with
    |none=>exact⟨false,by rw[hg]at h;simpa using h⟩
    |some a=>exact⟨a,by rw[hg]at h;simpa using h⟩
   have Vl:=ak (λw hw=>qy ((HS.o.below HB.o).below hw) hid hE (W:=w))
   rw[hev]at Vl
   have HB1:=ak (Below.after HB.o bc)
   have um:=ak bc;have KC:=ak kc
   have HIN:=ak hin
   clear hc bc kc hev hin
   cases bb with
   |true=>
    go_wp2_with fail
    clear hz hs1 p0 p1 p2 f0 f1 f2 q0 q1 q2 y0 y1 y2 hgc hlk
    go_roundw
    case rel=>exact⟨i+1,l,by go_num,by omega,Vm.o,by have:=HL.o;omega,HB1.o⟩
    case measure=>first|(simp[intOf];omega)|simp[intOf]
   |false=>
    go_wp2_with fail
    refine(Vl.o w1 um.o).mono ?_;rintro e w2 ⟨rfl,b2⟩
    have kZ:=ak (Vm.o.below b2)
    obtain⟨w3,hup,hm3,hg3,hz3⟩:=IM.MapAt.put (P:=Tryz.prog) (t:=257) (k:=27) (e:=4) kZ.o Tryz.underlying27 Tryz.underlying257 (by have:=HL.o;unfold maxLen;omega) HIN.o true
    have yQ:=ak hm3
    have tN:aA (Below W.heap.size W w3):=ak ((Below.after HB1.o b2).grown hg3 (Below.after HB1.o b2).size (λk e=>by cases e;exact af7 _))
    obtain⟨z0,z1,z2⟩:=IG.cells (show IG w2 gc c from au b2 KC.o)
    clear hz hs1 p0 p1 p2 f0 f1 f2 q0 q1 q2 y0 y1 y2 hgc hlk b2 hm3 hg3 hz3
    go_wp2_with fail
    clear hup z0 z1 z2
    go_roundw
    case rel=>exact⟨i+1,_,by go_num,by omega,yQ.o,by have:=HL.o;have:=(IM.nS (s:=(c.id:Int)) (a:=true) (l:=l)).2;omega,tN.o⟩
    case measure=>first|(simp[intOf];omega)|simp[intOf]
  .have hlt2:¬(i:Int)<(L.length:Int):=by omega
   go_wp2_with fail
   go_ret
   exact⟨rfl,HB.o⟩
theorem MS(W:World)(f n l:Int):Calls Tryz.prog 117 #[.int .i64 f,.int .i64 n,.int .i64 l] W λe w'=>e=.returned (if rF f n l then .nilIface else err 1)/\w'=W:=by
 have HV:=ak (yu W l)
 by_cases h0:0<=l/\l<=1152921504606846976
 .rw[agw h0]at HV
  by_cases h1:f<0
  .have e:rF f n l=false:=by
    cases hh:rF f n l with
    |false=>rfl
    |true=>have:=dJ.1 hh;omega
   rw[e,af4 (by simp)]
   go_enter Tryz.func117,Tryz.ntmps117
   go_wp2_with fail
   refine HV.o.mono ?_;rintro e w ⟨rfl,h⟩;rw[h];clear h w
   go_wp2_with fail
   go_ret
   exact⟨rfl,rfl⟩
  .by_cases h2:n<0
   .have e:rF f n l=false:=by
     cases hh:rF f n l with
     |false=>rfl
     |true=>have:=dJ.1 hh;omega
    rw[e,af4 (by simp)]
    go_enter Tryz.func117,Tryz.ntmps117
    go_wp2_with fail
    refine HV.o.mono ?_;rintro e w ⟨rfl,h⟩;rw[h];clear h w
    go_wp2_with fail
    go_ret
    exact⟨rfl,rfl⟩
   .by_cases h3:f>l
    .have e:rF f n l=false:=by
      cases hh:rF f n l with
      |false=>rfl
      |true=>have:=dJ.1 hh;omega
     rw[e,af4 (by simp)]
     go_enter Tryz.func117,Tryz.ntmps117
     go_wp2_with fail
     refine HV.o.mono ?_;rintro e w ⟨rfl,h⟩;rw[h];clear h w
     go_wp2_with fail
     go_ret
     exact⟨rfl,rfl⟩
    .have hw:IntKind.i64.wrap (l-f)=l-f:=by rw[agd];omega
     by_cases h4:n>l-f
     .have e:rF f n l=false:=by
       cases hh:rF f n l with
       |false=>rfl
       |true=>have:=dJ.1 hh;omega
      rw[e,af4 (by simp)]
      go_enter Tryz.func117,Tryz.ntmps117
      go_wp2_with fail
      refine HV.o.mono ?_;rintro e w ⟨rfl,h⟩;rw[h];clear h w
      go_wp2_with fail
      go_ret
      exact⟨rfl,rfl⟩
     .have e:rF f n l=true:=dJ.2 ⟨h0.1,by unfold dX;omega,by omega,by omega,by omega,by omega⟩
      rw[e,af5 rfl]
      go_enter Tryz.func117,Tryz.ntmps117
      go_wp2_with fail
      refine HV.o.mono ?_;rintro e w ⟨rfl,h⟩;rw[h];clear h w
      go_wp2_with fail
      go_ret
      exact⟨rfl,rfl⟩
 .rw[agD h0]at HV
  have e:rF f n l=false:=by
   cases hh:rF f n l with
   |false=>rfl
   |true=>have h:=dJ.1 hh;unfold dX at h;omega
  rw[e,af4 (by simp)]
  go_enter Tryz.func117,Tryz.ntmps117
  go_wp2_with fail
  refine HV.o.mono ?_;rintro e w ⟨rfl,h⟩;rw[h];clear h w
  go_wp2_with fail
  go_ret
  exact⟨rfl,rfl⟩
theorem OD(hs:aW n0 W B most E)(hE:E.length<=1048576)(hC:mg b0 W v L)(hT:zZ E L)(OC:L.length<=1000000)(len:Int):
    Calls Tryz.prog 114 #[.pointer (some ⟨B,0,none⟩),.int .i64 len,v] W λe w'=>e=.returned (lS (wP len L))/\Below W.heap.size W w':=by
 have HS:=ak hs;have HC:=ak hC;have HT:=ak hT
 have HV:=ak (yu W len)
 have ZR:=ak (λw hw=>uI (hs.below hw) hE (hC.below hw) hT OC (W:=w))
 obtain⟨va,vc,rfl⟩:=hC.len
 obtain⟨res,hres⟩:=ay (wP len L)
 have HR:=ak hres
 rw[hres]
 clear hs hC hT hres
 by_cases h0:0<=len/\len<=1152921504606846976
 .rw[agw h0]at HV
  have HH0:=ak h0
  clear h0
  go_enter Tryz.func114,Tryz.ntmps114
  go_wp2_with fail
  refine HV.o.mono ?_;rintro e w ⟨rfl,h⟩;rw[h];clear h w
  go_wp2_with fail
  go_loopw [21] (λiv wr=>∃i:Nat,iv=.int .i64 i/\i<=L.length/\Below W.heap.size W wr) (λiv _=>L.length-(intOf iv).toNat)
  case atStart=>exact⟨0,rfl,agb _,af6 _ _⟩
  case round=>
   obtain⟨i,rfl,hi,hB⟩:=hrel
   have HB:=ak hB
   clear hB
   by_cases hlt:i<L.length
   .have hlt2:(i:Int)<(L.length:Int):=by omega
    have hlt3:(0:Int)<=(i:Int):=by omega
    obtain⟨g,cap,hv,-,-,hc⟩:=HC.o.at hlt
    simp only[agn]at hv
    obtain⟨rfl,-,rfl⟩:=hv
    obtain⟨q0,q1,q2⟩:=hc wr HB.o i hlt
    obtain⟨hid,-⟩:=HT.o L[i] (ag0 hlt)
    generalize L[i]=c at *
    obtain⟨wz,w1,hz,hs1,kc,bc,⟨p0,p1,p2⟩,f0,f1,f2⟩:=xg wr c
    obtain⟨gc,hgc⟩:=ay (wr.heap.size)
    rw[hgc]at hs1 p0 p1 p2 f0 f1 f2 kc
    obtain⟨y0,y1,y2⟩:=kc.cells
    have HUK:=ak (IC ((HS.o.below HB.o).below bc) hid)
    have HB1:=ak (Below.after HB.o bc)
    clear hc bc kc
    go_wp2_with fail
    refine HUK.o.mono ?_;rintro e w ⟨rfl,h⟩;rw[h];clear h w
    clear hz hs1 p0 p1 p2 f0 f1 f2 q0 q1 q2 y0 y1 y2 hgc
    go_wp2_with fail
    go_roundw
    case rel=>exact⟨i+1,by go_num,by omega,HB1.o⟩
    case measure=>first|(simp[intOf];omega)|simp[intOf]
   .have hlt2:¬(i:Int)<(L.length:Int):=by omega
    clear hlt hi
    go_wp2_with fail
    go_loopw [9,33] (λlv iv wr=>∃(j:Nat) (last:Int),iv=.int .i64 j/\lv=.int .i64 last/\j<=L.length/\last=yE (-1) (L.take j)/\bC len (-1) (L.take j)=true/\ -1<=last/\last<=len/\Below W.heap.size W wr) (λ_ iv _=>L.length-(intOf iv).toNat)
    case atStart=>exact⟨0, -1,rfl,rfl,agb _,rfl,rfl,by omega,by have:=HH0.o;omega,HB.o⟩
    case round=>
     clear HB
     obtain⟨j,last,rfl,rfl,hj,hlast,hform,hl1,hl2,hB⟩:=hrel
     have HB:=ak hB;have Vn:=ak hlast;have HFO:=ak hform
     clear hB hlast hform
     by_cases hlt:j<L.length
     .have hlt2:(j:Int)<(L.length:Int):=by omega
      have hlt3:(0:Int)<=(j:Int):=by omega
      obtain⟨g,cap,hv,-,-,hc⟩:=HC.o.at hlt
      simp only[agn]at hv
      obtain⟨rfl,-,rfl⟩:=hv
      obtain⟨q0,q1,q2⟩:=hc wr HB.o j hlt
      have kH:aA (bC len (-1) (L.take (j+1))=eQ len last L[j]/\yE (-1) (L.take (j+1))=L[j].pos+L[j].n):=ak (by
       rw[kI hlt,BG,HFO.o,<-Vn.o,Ef]
       exact⟨by simp,rfl⟩)
      generalize L[j]=c at *
      obtain⟨wz,w1,hz,hs1,kc,bc,⟨p0,p1,p2⟩,f0,f1,f2⟩:=xg wr c
      obtain⟨gc,hgc⟩:=ay (wr.heap.size)
      rw[hgc]at hs1 p0 p1 p2 f0 f1 f2 kc
      obtain⟨y0,y1,y2⟩:=kc.cells
      have PZ:=ak (MS w1 c.pos c.n len)
      have HB1:=ak (Below.after HB.o bc)
      have HBAD:aA (eQ len last c=false->res=4):=ak (λhb=>by
       have h1:=kH.o.1
       rw[hb]at h1
       have h2:bC len (-1) L=false:=by
        cases hh:bC len (-1) L with
        |false=>rfl
        |true=>rw[uW hh (j+1)]at h1;cases h1
       rw[<-HR.o]
       unfold wP dX
       rw[af4 (by have:=HH0.o;omega),h2];rfl)
      clear hc bc kc
      cases hrg:rF c.pos c.n len with
      |false=>
       rw[hrg]at PZ
       have e4:=HBAD.o (by unfold eQ;rw[hrg];rfl)
       have U3:=ak e4
       simp only[aii,ahu]at PZ
       unfold err at PZ
       clear hrg e4
       go_wp2_with fail
       refine PZ.o.mono ?_;rintro e w ⟨rfl,h⟩;rw[h];clear h w
       go_wp2_with fail
       go_ret
       exact⟨by rw[U3.o];rfl,HB1.o⟩
      |true=>
       rw[hrg]at PZ
       simp only[ahv]at PZ
       obtain⟨r1,r2,r3,r4,r5,r6⟩:=dJ.1 hrg
       unfold dX at r2
       have hws:IntKind.i64.wrap (c.pos+c.n)=c.pos+c.n:=by rw[agd];omega
       by_cases hpl:c.pos<=last
       .have e4:=HBAD.o (by unfold eQ;rw[hrg,agw hpl];rfl)
        have U3:=ak e4
        clear hrg e4 r1 r2 r3 r4 r5 r6 hws
        go_wp2_with fail
        refine PZ.o.mono ?_;rintro e w ⟨rfl,h⟩;rw[h];clear h w
        go_wp2_with fail
        go_ret
        exact⟨by rw[U3.o];rfl,HB1.o⟩
       .by_cases hn0:c.n=0
        .have hnb:(c.n==0)=true:=by simp[hn0]
         by_cases hi0:c.id=0
         .have hib:((c.id:Int)==0)=true:=by simp[hi0]
          have e4:=HBAD.o (by unfold eQ;rw[hrg,agw hn0,agw hi0];simp)
          have U3:=ak e4
          clear hrg e4 r1 r2 r3 r4 r5 r6 hws hn0 hi0
          go_wp2_with fail
          refine PZ.o.mono ?_;rintro e w ⟨rfl,h⟩;rw[h];clear h w
          go_wp2_with fail
          go_ret
          exact⟨by rw[U3.o];rfl,HB1.o⟩
         .have hib:((c.id:Int)==0)=false:=by simp[hi0]
          have mF:aA (eQ len last c=true):=ak (by unfold eQ;rw[hrg,agD hpl,agD hi0];simp)
          have HRB:aA (-1<=c.pos+c.n/\c.pos+c.n<=len):=ak ⟨by omega,by omega⟩
          clear hrg r1 r2 r3 r4 r5 r6 hn0 hi0
          go_wp2_with fail
          refine PZ.o.mono ?_;rintro e w ⟨rfl,h⟩;rw[h];clear h w
          go_wp2_with fail
          clear hz hs1 p0 p1 p2 f0 f1 f2 q0 q1 q2 y0 y1 y2 hgc hws
          go_roundw
          case rel=>exact⟨j+1,c.pos+c.n,by go_num,rfl,by omega,kH.o.2.symm,by rw[kH.o.1];exact mF.o,HRB.o.1,HRB.o.2,HB1.o⟩
          case measure=>first|(simp[intOf];omega)|simp[intOf]
        .have hnb:(c.n==0)=false:=by simp[hn0]
         have mF:aA (eQ len last c=true):=ak (by unfold eQ;rw[hrg,agD hpl,agD hn0];simp)
         have HRB:aA (-1<=c.pos+c.n/\c.pos+c.n<=len):=ak ⟨by omega,by omega⟩
         clear hrg r1 r2 r3 r4 r5 r6 hn0
         go_wp2_with fail
         refine PZ.o.mono ?_;rintro e w ⟨rfl,h⟩;rw[h];clear h w
         go_wp2_with fail
         clear hz hs1 p0 p1 p2 f0 f1 f2 q0 q1 q2 y0 y1 y2 hgc hws
         go_roundw
         case rel=>exact⟨j+1,c.pos+c.n,by go_num,rfl,by omega,kH.o.2.symm,by rw[kH.o.1];exact mF.o,HRB.o.1,HRB.o.2,HB1.o⟩
         case measure=>first|(simp[intOf];omega)|simp[intOf]
     .have hlt2:¬(j:Int)<(L.length:Int):=by omega
      have HE0:aA (res=0):=ak (by
       have h:=HFO.o
       rw[agI (by omega)]at h
       rw[<-HR.o]
       unfold wP dX
       rw[af4 (by have:=HH0.o;omega),h];rfl)
      clear hlt hl1 hl2
      go_wp2_with fail
      refine(ZR.o wr HB.o).mono ?_;rintro e w2 ⟨rfl,b2⟩
      have HB2:=ak (Below.after HB.o b2)
      clear b2
      go_wp2_with fail
      go_ret
      exact⟨by rw[HE0.o];rfl,HB2.o⟩
 .rw[agD h0]at HV
  have HE1:aA (res=1):=ak (by rw[<-HR.o];unfold wP dX;rw[af5 h0])
  clear h0
  go_enter Tryz.func114,Tryz.ntmps114
  go_wp2_with fail
  refine HV.o.mono ?_;rintro e w ⟨rfl,h⟩;rw[h];clear h w
  go_wp2_with fail
  go_ret
  exact⟨by rw[HE1.o];rfl,af6 _ _⟩
theorem rR(hs:aW n0 W B most E)(hwf:Wf E)(hE:E.length<=1048576)(hC:mg b0 W v L)(hT:zZ E L)(OC:L.length<=1000000)(len:Int):
    Calls Tryz.prog 72 #[.pointer (some ⟨B,0,none⟩),.int .i64 len,v] W λe w'=>e=.returned (.tuple #[.int .i64 (gK E len L).1,lS (gK E len L).2])/\Below W.heap.size W w':=by
 have HS:=ak hs;have HC:=ak hC;have HT:=ak hT;have gW:=ak hwf
 have Dr:=ak (OD hs hE hC hT OC len)
 obtain⟨va,vc,rfl⟩:=hC.len
 obtain⟨res,hres⟩:=ay (gK E len L)
 have HR:=ak hres
 rw[hres]
 clear hs hC hT hres hwf
 by_cases hck:wP len L=0
 case' _=>
  rw[hck]at Dr
  have hH:0<=len/\len<=1152921504606846976/\bC len (-1) L=true:=by
   unfold wP dX at hck
   split at hck
   .cases hck
   .rename_i h1
    split at hck
    .rename_i h2;exact⟨by omega,by omega,h2⟩
    .cases hck
  have HH:=ak hH
  have HD:aA (∀j,0<=fZ (L.take j)/\fZ (L.take j)<=len):=ak (λj=>yF hH.1 (uW hH.2.2 j))
  have HRR:aA (res=if len-fZ L+dN E L<=1152921504606846976 then(len-fZ L+dN E L,0)else(0,2)):=ak (by
   rw[<-HR.o];unfold gK dX;rw[af4 (by rw[hck];simp)])
  obtain⟨kp,hkp⟩:∃k:Nat,len-fZ L=(k:Int):=⟨(len-fZ L).toNat,by have:=HD.o L.length;rw[ahe]at this;omega⟩
  have hkb:kp<=1152921504606846976:=by have:=HD.o L.length;rw[ahe]at this;omega
  rw[hkp]at HRR
  have HKP:=ak hkp;have P5:=ak hkb
  have hlb2:len<=1152921504606846976:=hH.2.1
  clear hck hH hkp hkb
  unfold lS at Dr
  rw[af5 rfl]at Dr
 rotate_left
 case' _=>
  obtain⟨cd,hcd⟩:=ay (wP len L)
  have HE2:aA (res=(0,cd)):=ak (by rw[<-HR.o];unfold gK;rw[af5 hck,hcd])
  have Un:aA (lS cd=err cd):=ak (by unfold lS;rw[af4 (by rw[<-hcd];exact hck)])
  rw[hcd,Un.o]at Dr
  unfold err at Dr
  clear hck hcd
 rotate_left
 all_goals
  go_enter Tryz.func72,Tryz.ntmps72
  go_wp2_with fail
  refine Dr.o.mono ?_;rintro e w0 ⟨rfl,b0'⟩
  have HB0:=ak b0'
  clear b0' Dr
  go_wp2_with fail
 .go_loopw [1,24] (λlv iv wr=>∃(j:Nat) (x:Int),iv=.int .i64 j/\lv=.int .i64 x/\j<=L.length/\x=len-fZ (L.take j)/\Below W.heap.size W wr) (λ_ iv _=>L.length-(intOf iv).toNat)
  case atStart=>exact⟨0,len,rfl,rfl,agb _,by show len=len-0;omega,HB0.o⟩
  case round=>
   clear HB0
   obtain⟨j,x,rfl,rfl,hj,hx,hB⟩:=hrel
   have HB:=ak hB;have HX:=ak hx
   clear hB hx
   by_cases hlt:j<L.length
   .have hlt2:(j:Int)<(L.length:Int):=by omega
    have hlt3:(0:Int)<=(j:Int):=by omega
    obtain⟨g,cap,hv,-,-,hc⟩:=HC.o.at hlt
    simp only[agn]at hv
    obtain⟨rfl,-,rfl⟩:=hv
    obtain⟨q0,q1,q2⟩:=hc wr HB.o j hlt
    have hnx:x-L[j].n=len-fZ (L.take (j+1)):=by rw[kI hlt,Eh];have:=HX.o;omega
    have hws:IntKind.i64.wrap (x-L[j].n)=x-L[j].n:=by have:=HD.o (j+1);rw[agd];omega
    generalize L[j]=c at *
    obtain⟨wz,w1,hz,hs1,kc,bc,⟨p0,p1,p2⟩,f0,f1,f2⟩:=xg wr c
    obtain⟨gc,hgc⟩:=ay (wr.heap.size)
    rw[hgc]at hs1 p0 p1 p2 f0 f1 f2 kc
    obtain⟨y0,y1,y2⟩:=kc.cells
    have HB1:=ak (Below.after HB.o bc);have kH:=ak hnx
    clear hc bc kc hnx
    go_wp2_with fail
    clear hz hs1 p0 p1 p2 f0 f1 f2 q0 q1 q2 y0 y1 y2 hgc hws
    go_roundw
    case rel=>exact⟨j+1,x-c.n,by go_num,rfl,by omega,kH.o,HB1.o⟩
    case measure=>first|(simp[intOf];omega)|simp[intOf]
   .have hlt2:¬(j:Int)<(L.length:Int):=by omega
    have hxk:x=(kp:Int):=by have h:=HX.o;rw[agI (by omega)]at h;have:=HKP.o;omega
    subst hxk
    clear hlt hj HX
    go_wp2_with fail
    go_loopw [1,35] (λlv iv wr=>∃(j y:Nat),iv=.int .i64 j/\lv=.int .i64 y/\j<=L.length/\y=kp+dN E (L.take j)/\y<=1152921504606846976/\Below W.heap.size W wr) (λ_ iv _=>L.length-(intOf iv).toNat)
    case atStart=>exact⟨0,kp,rfl,rfl,agb _,rfl,P5.o,HB.o⟩
    case round=>
     clear HB
     obtain⟨j,y,rfl,rfl,hj,hy,hyb,hB⟩:=hrel
     have HB:=ak hB;have HY:=ak hy
     clear hB hy
     by_cases hlt:j<L.length
     .have hlt2:(j:Int)<(L.length:Int):=by omega
      have hlt3:(0:Int)<=(j:Int):=by omega
      obtain⟨g,cap,hv,-,-,hc⟩:=HC.o.at hlt
      simp only[agn]at hv
      obtain⟨rfl,-,rfl⟩:=hv
      obtain⟨q0,q1,q2⟩:=hc wr HB.o j hlt
      have kH:aA (y+(txt E L[j].id).length=kp+dN E (L.take (j+1))):=ak (by rw[kI hlt,Ei];have:=HY.o;omega)
      have HIT:=ak (wQ E L (j+1))
      obtain⟨hid,-⟩:=HT.o L[j] (ag0 hlt)
      generalize L[j]=c at *
      obtain⟨wz,w1,hz,hs1,kc,bc,⟨p0,p1,p2⟩,f0,f1,f2⟩:=xg wr c
      obtain⟨gc,hgc⟩:=ay (wr.heap.size)
      rw[hgc]at hs1 p0 p1 p2 f0 f1 f2 kc
      obtain⟨y0,y1,y2⟩:=kc.cells
      obtain⟨hw,hwl⟩:=gW.o.len hid
      have IK:=ak (tL ((HS.o.below HB.o).below bc) hid hE)
      obtain⟨tl,htl⟩:=ay ((txt E c.id).length)
      have bU:(aF E c.id).w.len=tl:=by rw[hw,<-htl];rfl
      rw[bU]at IK
      rw[htl]at kH hwl
      have HAD:=ak (λw=>lD w hyb hwl)
      have HB1:=ak (Below.after HB.o bc)
      clear hc bc kc hw bU htl
      by_cases hsum:y+tl<=1152921504606846976
      case' _=>
       simp only[af5 hsum]at HAD
      rotate_left
      case' _=>
       simp only[af4 hsum]at HAD
       unfold err at HAD
       have HE2:aA (res=(0,2)):=ak (by rw[HRR.o,af4 (by have:=kH.o;have:=HIT.o;omega)])
       clear hsum
      rotate_left
      all_goals
       go_wp2_with fail
       refine IK.o.mono ?_;rintro e w2 ⟨rfl,b2⟩
       have HB2:=ak (Below.after HB1.o b2)
       clear b2
       clear hz hs1 p0 p1 p2 f0 f1 f2 q0 q1 q2 y0 y1 y2 hgc
       go_wp2_with fail
       refine(HAD.o w2).mono ?_;rintro e w ⟨rfl,h⟩;rw[h];clear h w
       go_wp2_with fail
      .go_roundw
       case rel=>exact⟨j+1,y+tl,by go_num,rfl,by omega,kH.o,hsum,HB2.o⟩
       case measure=>first|(simp[intOf];omega)|simp[intOf]
      .go_ret2
       exact⟨by rw[HE2.o];rfl,HB2.o⟩
     .have hlt2:¬(j:Int)<(L.length:Int):=by omega
      have HE2:aA (res=((y:Int),0)):=ak (by
       have h:=HY.o
       rw[agI (by omega)]at h
       rw[HRR.o,af5 (by omega)]
       congr 1
       omega)
      clear hlt hj hyb
      go_wp2_with fail
      go_ret2
      exact⟨by rw[HE2.o];rfl,HB.o⟩
 .go_ret2
  exact⟨by rw[HE2.o];show _=Ending.returned (.tuple #[.int .i64 0,lS cd]);rw[Un.o];rfl,HB0.o⟩
theorem qA{len:Int}(h:(gK E len L).2=0):0<=len/\len<=1152921504606846976/\bC len (-1) L=true/\len-fZ L+dN E L<=1152921504606846976/\(gK E len L).1=len-fZ L+dN E L:=by
 unfold gK at h⊢
 by_cases h1:wP len L=0
 .rw[af4 (by rw[h1];simp)]at h⊢
  have h1':=h1
  unfold wP at h1
  unfold dX at *
  split at h1
  .cases h1
  .rename_i h2
   split at h1
   .rename_i h3
    split at h
    .rename_i h4
     rw[af5 h4]
     exact⟨by omega,by omega,h3,h4,rfl⟩
    .cases h
   .cases h1
 .rw[af5 h1]at h
  exact absurd h h1
theorem tO{len:Int}:∀(L:List bH) (last:Int),bC len last L=true->∀c∈L,0<=c.pos/\0<=c.n/\c.pos+c.n<=len
 | [],_,_,c,hc=>by cases hc
 |a::L,last,h,c,hc=>by
  simp only[bC,eQ,agy]at h
  obtain⟨⟨⟨h3,-⟩,-⟩,h5⟩:=h
  obtain⟨-,-,x,y,e,f⟩:=dJ.1 h3
  rcases agm.1 hc with rfl|hc
  .exact⟨x,y,by omega⟩
  .exact tO L _ h5 c hc
theorem aW.set'(h:aW n0 W B most E){cs:Array Value}{t:TypeId}{fz:Nat×Nat}(hb:W.heap[g]?=some (.cells cs t fz))(h1:t≠140)(h2:t≠136)(v:Value):aW n0 (W.setCell ⟨g,i,none⟩ v) B most E:=by
 obtain⟨lv,mb,k1,k2,k3,k4⟩:=h
 refine⟨lv,mb,aB (λe=>?_) k1,aP.setCell k2 v (a:=⟨g,i,none⟩) hb h2,jY.of_block k3 (agU _ _ _ _ (λe=>?_)),k4⟩
 .subst e;unfold yC at k1;rw[hb]at k1;simp at k1;exact h1 k1.2.1
 .have e:mb=g:=e
  subst e
  obtain⟨es,c,h5,-⟩:=k3
  rw[hb]at h5;cases h5
theorem aW.app'{n1:Nat}{w0 w':World}{α:Type}{e:TypeId}{size:Nat}{enc:α->List Value}{l:List α}{cs:Array Value}(h:aW n0 w0 B most E)(hS:aP n1 w0 e size enc v l)(hg:(w0.alloc (.cells cs e)).grownBy w' v.ownBlock)(h1:140≠e)(h2:136≠e):aW n0 w' B most E:=by
 obtain⟨lv,mb,k1,k2,k3,k4⟩:=h
 refine⟨lv,mb,g_ hS hg k1 h1,aP.keep k2 (λk cs fz h=>g_ hS hg h h2),?_,k4⟩
 obtain⟨es,c,h5,h6⟩:=k3
 exact⟨es,c,(lQ hS hg).same _ _ h5 rfl,h6⟩
theorem Ov(W:World)(low x y:Nat)(hl:low<=1099511627776)(hx:x<2305843009213693952)(hy:y<2305843009213693952)(hT:Tab W):
    Calls Tryz.prog 150 #[.int .i64 low,.int .u64 x,.int .u64 y] W λe w'=>e=.returned (.int .i64 (after low x y:Nat))/\w'=W:=by
 have hc:low/2%123<=122:=by omega
 have F1:=ak (zG W (low/2%123) x y hc hx hy hT)
 have F2:=ak (zG W 0 x y (by omega) hx hy hT)
 have e0:=UV (low:=low) hx hy
 unfold Zk at e0
 have hs1:=sW hc hx hy
 have hs2:=sW (agb 122) hx hy
 have c1:(low:Int)/2+1=((low/2+1:Nat):Int):=by omega
 have c2:(((low/2+1:Nat):Int)-1)%123=((low/2%123:Nat):Int):=by omega
 obtain⟨j,hj⟩:=ay (low/2+1)
 obtain⟨c,hcc⟩:=ay (low/2%123)
 rw[hj]at c1 c2 e0
 rw[hcc]at c2 e0 F1 hs1 hc
 have hjb:j<=1099511627776:=by omega
 have hcj:c<=j:=by omega
 generalize after low x y=R at *
 generalize uf c x y=f1 at *
 generalize uf 0 x y=f2 at *
 have b1: -1<=f1/\f1<=122:=by rcases hs1 with⟨e,-⟩|⟨r,e,-,h,-⟩<;>omega
 have b2: -1<=f2/\f2<=122:=by rcases hs2 with⟨e,-⟩|⟨r,e,-,h,-⟩<;>omega
 clear hs1 hs2 hj hcc hT hx hy
 by_cases h1:0<=f1
 .rw[af5 h1]at e0
  rw[<-e0]
  have t1:f1>=0:=h1
  clear e0 F2
  go_enter Tryz.func150,Tryz.ntmps150
  go_wp2_with fail
  refine F1.o.mono ?_;rintro e w1 ⟨rfl,h⟩;rw[h];clear h w1
  go_wp2_with fail
  go_ret
  exact⟨rfl,rfl⟩
 .rw[af4 h1]at e0
  have t1:¬f1>=0:=h1
  by_cases h2:0<=f2
  case' _=>
   rw[af5 h2]at e0
   rw[<-e0]
   have t2:f2>=0:=h2
  rotate_left
  case' _=>
   rw[af4 h2]at e0
   rw[<-e0]
   have t2:¬f2>=0:=h2
  all_goals
   clear e0
   go_enter Tryz.func150,Tryz.ntmps150
   go_wp2_with fail
   refine F1.o.mono ?_;rintro e w1 ⟨rfl,h⟩;rw[h];clear h w1
   go_wp2_with fail
   refine F2.o.mono ?_;rintro e w1 ⟨rfl,h⟩;rw[h];clear h w1
   go_wp2_with fail
   go_ret
   exact⟨rfl,rfl⟩
structure Rw where
 key:Nat
 aQ:Int
 known:Bool
abbrev rwV(r:Rw):Value:=.agg #[.int .u64 r.key,.int .i64 r.aQ,.bool r.known]
def uG(r:Rw):List Value:=[.int .u64 r.key,.int .i64 r.aQ,.bool r.known]
theorem Es(r:Rw):(uG r).length=3:=rfl
theorem Ow(r:Rw):∀u∈uG r,u.oneCell'=true:=by simp[uG,Value.oneCell']
abbrev KO(B:Nat)(W:World)(v:Value)(L:List Rw):Prop:=aP B W 142 3 uG v L
theorem ZK:Elem Tryz.prog 125 142 3 24:=gP Tryz.underlying125 (z:=.agg #[.int .u64 0,.int .i64 0,.bool false]) (by kernel_rfl) rfl (by decide) (by decide)
theorem KO.at{L:List Rw}(h:KO B W v L)(hne:0<L.length):
    ∃g cap,v=.slice (some ⟨g,0,none⟩) L.length cap/\L.length<=cap/\cap<=maxLen/\∀(W':World),Below W.heap.size W W'->∀i (hi:i<L.length),W'.cell? ⟨g,i*3,none⟩=some (.int .u64 L[i].key)/\W'.cell? ⟨g,i*3+1,none⟩=some (.int .i64 L[i].aQ)/\W'.cell? ⟨g,i*3+2,none⟩=some (.bool L[i].known):=by
 rcases h.shape with⟨-,rfl⟩|⟨g,cap,rfl,h1,h2⟩
 .simp at hne
 .refine⟨g,cap,rfl,h1,h2,λW' hb i hi=>?_⟩
  have h':=h.below hb
  have c:=λ(j:Nat) (hj:j<3)=>aP.cell Es h' hi (j:=j) hj
  exact⟨c 0 (by omega),c 1 (by omega),c 2 (by omega)⟩
def dB(W:World)(g:Nat)(r:Rw):Prop:=W.heap[g]?=some (.cells #[.int .u64 r.key,.int .i64 r.aQ,.bool r.known] 142 (0,0))
theorem dB.cells{r:Rw}(h:dB W g r):W.cell? ⟨g,0,none⟩=some (.int .u64 r.key)/\W.cell? ⟨g,1,none⟩=some (.int .i64 r.aQ)/\W.cell? ⟨g,2,none⟩=some (.bool r.known):=by
 unfold dB at h
 simp[World.cell?,h]
theorem dB.free{r:Rw}(h:dB W g r)(i:Nat):W.frozen? ⟨g,i,none⟩=false:=by
 unfold dB at h
 simp[World.frozen?,h]
def jm(W:World)(g:Nat)(r:Rw):World:=((W.setCell ⟨g,0,none⟩ (.int .u64 r.key)).setCell ⟨g,1,none⟩ (.int .i64 r.aQ)).setCell ⟨g,2,none⟩ (.bool r.known)
theorem dB.set{r:Rw}(h:dB W g r)(s:Rw):dB (jm W g s) g s:=by
 unfold dB at h⊢
 exact aC _ (aC _ (aC _ h))
theorem fM{A:World}(h:Below n A W)(hg:n<=g)(r:Rw):Below n A (jm W g r):=
 ((h.setCell (p:=⟨g,0,none⟩) hg _).setCell (p:=⟨g,1,none⟩) hg _).setCell (p:=⟨g,2,none⟩) hg _
theorem dB.other{r s:Rw}(hk:k≠g)(h:dB W k r):dB (jm W g s) k r:=by
 unfold dB jm at *
 exact aB hk (aB hk (aB hk h))
def mH:Rw:=⟨0,0,false⟩
theorem Rn(w:World)(r:Rw):∃wz w2,w.alloc (.cells #[.int .u64 0,.int .i64 0,.bool false] 142)=wz/\
    ((wz.setCell ⟨w.heap.size,0,none⟩ (.int .u64 r.key)).setCell ⟨w.heap.size,1,none⟩ (.int .i64 r.aQ)).setCell ⟨w.heap.size,2,none⟩ (.bool r.known)=w2/\
    dB w2 w.heap.size r/\Below w.heap.size w w2/\(wz.cell? ⟨w.heap.size,0,none⟩=some (.int .u64 0)/\wz.cell? ⟨w.heap.size,1,none⟩=some (.int .i64 0)/\wz.cell? ⟨w.heap.size,2,none⟩=some (.bool false))/\
    (wz.frozen? ⟨w.heap.size,0,none⟩=false/\wz.frozen? ⟨w.heap.size,1,none⟩=false/\wz.frozen? ⟨w.heap.size,2,none⟩=false):=by
 have k0:dB (w.alloc (.cells #[.int .u64 0,.int .i64 0,.bool false] 142)) w.heap.size mH:=aD _ _
 have b0:Below w.heap.size w (w.alloc (.cells #[.int .u64 0,.int .i64 0,.bool false] 142)):=(af6 _ _).alloc (af7 _) _
 exact⟨_,_,rfl,rfl,k0.set r,fM b0 (af7 _) r,k0.cells,k0.free 0,k0.free 1,k0.free 2⟩
open Classical in
noncomputable def mY(y:Sy):Int:=if jF y then(aQ y:Int)else -1
noncomputable def rowOf(y:Sy):Rw:=⟨key y,mY y,true⟩
theorem tH:0<=mY y↔jF y:=by
 unfold mY
 by_cases h:jF y
 .rw[af5 h];simp[h]
 .rw[af4 h];simp[h]
theorem lZ(h:jF y):mY y=aQ y:=by unfold mY;rw[af5 h]
theorem ML(h:¬jF y):mY y= -1:=by unfold mY;rw[af4 h]
def oF(r:Ru)(a b:Rw):Rw:=
 if r.kind=1 then⟨qL 1 r.letter 0,0,true⟩
 else if r.kind=2 then⟨qL 2 a.key b.key,if r.left≠r.right/\0<=a.aQ/\0<=b.aQ then(after (max a.aQ b.aQ).toNat a.key b.key:Nat)else -1,true⟩
 else⟨qL 3 a.key r.times,if 0<=a.aQ/\a.aQ%2=0 then a.aQ+1 else -1,true⟩
theorem KP(b:Nat)(x y:Rw):oF ⟨1,b,0,0,0⟩ x y=rowOf (.lt b):=by
 unfold oF rowOf
 rw[af5 rfl,lZ (y:=.lt b) trivial]
 rfl
theorem Ro{l r:Nat}(h:l=r↔x=y):oF ⟨2,0,l,r,0⟩ (rowOf x) (rowOf y)=rowOf (.pr x y):=by
 unfold oF
 rw[af4 (by show ¬(2:Nat)=1;omega),af5 rfl]
 show(⟨qL 2 (key x) (key y),if l≠r/\0<=mY x/\0<=mY y then(after (max (mY x) (mY y)).toNat (key x) (key y):Nat)else -1,true⟩:Rw)=⟨key (.pr x y),mY (.pr x y),true⟩
 by_cases hc:jF (.pr x y)
 .have hc':jF x/\jF y/\x≠y:=hc
  rw[af5 ⟨λq=>hc'.2.2 (h.1 q),tH.2 hc'.1,tH.2 hc'.2.1⟩,lZ hc,lZ hc'.1,lZ hc'.2.1]
  have:(max (aQ x:Int) (aQ y:Int)).toNat=max (aQ x) (aQ y):=by omega
  rw[this];rfl
 .have hc':¬(l≠r/\0<=mY x/\0<=mY y):=λ⟨q1,q2,q3⟩=>hc ⟨tH.1 q2,tH.1 q3,λq=>q1 (h.2 q)⟩
  rw[af4 hc',ML hc];rfl
theorem Ox{a:Nat}(hk:2<=k)(b:Rw):oF ⟨3,0,a,0,k⟩ (rowOf x) b=rowOf (.pw x k):=by
 unfold oF
 rw[af4 (by show ¬(3:Nat)=1;omega),af4 (by show ¬(3:Nat)=2;omega)]
 show(⟨qL 3 (key x) k,if 0<=mY x/\mY x%2=0 then mY x+1 else -1,true⟩:Rw)=⟨key (.pw x k),mY (.pw x k),true⟩
 by_cases hc:jF (.pw x k)
 .have hc':jF x/\aQ x%2=0/\2<=k:=hc
  rw[af5 ⟨tH.2 hc'.1,by rw[lZ hc'.1];omega⟩,lZ hc,lZ hc'.1];rfl
 .have hc':¬(0<=mY x/\mY x%2=0):=λ⟨q1,q2⟩=>by
   have ho:=tH.1 q1
   rw[lZ ho]at q2
   exact hc ⟨ho,by omega,hk⟩
  rw[af4 hc',ML hc];rfl
end M
end
end Go.Proofs.YtgbhohfabhilgaaGreatDoor
