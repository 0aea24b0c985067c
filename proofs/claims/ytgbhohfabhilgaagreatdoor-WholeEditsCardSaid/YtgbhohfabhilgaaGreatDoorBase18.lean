import Derived.Test.YtgbhohfabhilgaaGreatDoorBase16
set_option maxRecDepth 100000
set_option maxHeartbeats 8000000
set_option linter.unusedVariables false
set_option linter.unusedSimpArgs false
namespace Go.Proofs.YtgbhohfabhilgaaGreatDoor
section
open Go.RowKit Go.Lib
namespace M
attribute [local go_sem] Oper.semAt_some
variable{E:List En}{B g most n0:Nat}{W:World}
theorem aW.nodup{n0 B most:Nat}{W:World}{E:List En}(h:aW n0 W B most E):(E.map En.ru).Nodup:=by
 obtain⟨lv,mb,-,-,h3,-⟩:=h
 exact h3.nodup
abbrev Ae:List TypeId:=[127,142]
def Z5(n0 g B id b4:Nat)(E:List En)(W w:World):Prop:=∃gr cap rows,n_ w g B (.slice (some ⟨gr,0,none⟩) rows.length cap)/\KO n0 w (.slice (some ⟨gr,0,none⟩) rows.length cap) rows/\id<rows.length/\rows.length<=E.length+1/\gU E rows/\Below n0 W w/\bS Ae W w/\W.heap.size<w.heap.size/\dB w b4 mH/\gr≠b4
def FW(n0 n1 g B id b4 gr cap N:Nat)(E:List En)(W:World)(k:Nat)(tv:Value)(w:World):Prop:=∃(T:List Nat) (rows:List Rw),k=gL rows*(E.length+2)+(E.length+1-T.length)/\Ids n1 w tv T/\n_ w g B (.slice (some ⟨gr,0,none⟩) N cap)/\KO n0 w (.slice (some ⟨gr,0,none⟩) N cap) rows/\rows.length=N/\gU E rows/\xk E rows T/\((∃r,rows[id]?=some r/\r.known=true)\/T.head?=some id)/\Below n0 W w/\bS Ae W w/\dB w b4 mH/\n1<=w.heap.size
theorem M9(hs:aW n0 W B most E)(hwf:Wf E)(hE:E.length<=1048576)(hk:jV n0 W g B E){id:Nat}(h0:0<id)(hid:id<=E.length):
    Calls Tryz.prog 65 #[.pointer (some ⟨g,0,none⟩),.int .i64 id] W λe w'=>e=.returned (.tuple #[rwV (rowOf (sym E id)),.nilIface])/\jV n0 w' g B E/\Below n0 W w'/\bS Ae W w':=by
 have HF:∀f,Fence.wide.fn f:=λ_=>trivial;have hn0:=hs.lt;obtain⟨v0,rW,ht0,hr0,Xz,hok0⟩:=hk.tb;obtain⟨a0,c0,rfl⟩:=hr0.len;have acX:g<W.heap.size:=(aga.1 ht0).1;have RP:=ak hk;have gW:=ak hwf;have HS:=ak hs;have HE:=ak hE;have M_:=ak (And.intro h0 hid);have gJ:=ak hn0;have I6:=ak acX;obtain⟨b4,hb4⟩:=ay (W.heap.size);obtain⟨W1,hW1⟩:=ay (W.alloc (.cells #[.int .u64 0,.int .i64 0,.bool false] 142));have k4:dB W1 b4 mH:=by rw[<-hW1,<-hb4];exact aD W _
 have Na:Below W.heap.size W W1:=by rw[<-hW1];exact(af6 _ _).alloc (af7 _) _
 have cB:=ak hb4;have uF:=ak k4;have DR:=ak Na;have ht1:n_ W1 g B (.slice a0 rW.length c0):=au Na ht0;have hr1:KO n0 W1 (.slice a0 rW.length c0) rW:=hr0.below Na;have oG:=ak (wY (hs.below Na));have HOW:=ak (λk (h:(Value.slice a0 rW.length c0).ownBlock=some k)=>show k<W.heap.size from hr0.Fu h);have hsz1:W.heap.size<W1.heap.size:=by rw[hb4];exact(aga.1 k4).1
 have i1:¬(id:Int)<1:=by omega
 have i2:¬(id:Int)>(E.length:Int):=by omega
 have i3:id<=1048576:=by omega
 have i4:decide (E.length<id)=false:=agD (by omega);obtain⟨m0,m1,m2⟩:=ht1.cells;have Z6:=ak hsz1;have HT1:=ak ht1;have HR1:=ak hr1;have Uo:=ak Xz;have HO0:=ak hok0;obtain⟨L0,hL0⟩:=ay (rW.length);rw[hL0]at m1 HT1 HR1 Uo HOW;have H6:=ak hL0;have m2':=m2 1;clear hs hwf hE hk hid hn0 ht0 hr0 Xz hok0 acX hb4 k4 Na ht1 hr1 hsz1 hL0 m2 h0;go_enter Tryz.func65,Tryz.ntmps65;go_wp2_with fail
 refine oG.o.mono ?_;rintro e w ⟨rfl,h⟩;rw[h];clear h w;go_upto_if 40 with(fail);clear hW1;go_cut [] from 40 (λw=>Z5 n0 g B id b4 E W w)
 case first=>
  by_cases hge:L0<=id
  .have hgi:(id:Int)>=(L0:Int):=by omega
   obtain⟨n1,hn1⟩:=ay (id+1);obtain⟨kz,hkz⟩:=ay (n1-L0);have q1:IntKind.i64.wrap ((id:Int)+1)=(n1:Int):=by rw[agd];omega
   have q2:IntKind.i64.wrap ((n1:Int)-(L0:Int))=(kz:Int):=by rw[agd];omega
   go_wp2_with fail
   obtain⟨wd,hwd⟩:=ay (W1.drew);have bd:Below W1.heap.size W1 wd:=by rw[<-hwd];exact(af6 _ _).drew
   refine bM (λw=>n_ w g B (.slice a0 L0 c0)) (by kernel_rfl) ?_;rw[hwd];clear hwd;have T0:n_ wd g B (.slice a0 L0 c0):=au bd HT1.o;have m3:∀w,n_ w g B (.slice a0 L0 c0)->w.cell? ⟨g,1,none⟩=some (.slice a0 L0 c0):=λw hw=>(n_.cells hw).2.1;have R0:=ak (show KO n0 wd (.slice a0 L0 c0) rW from HR1.o.below bd);have BD:=ak (Below.after DR.o bd);have SD:=ak (ahm Z6.o bd.size);have K4D:=ak (show dB wd b4 mH from au bd uF.o);clear bd m0 m1 m2';refine bJ 0 1 2 3 4 5 ?_;refine bJ 6 7 8 9 10 11 ?_;refine tk1 12 ?_;have hL:=H6.o;obtain⟨v',w3,hrun,hS',hg⟩:=RG ZK Tryz.underlying3 Es Ow 125 .i64 R0.o mH (λi z h1 h2=>by
    have e1:Tryz.prog.info? 142=some i:=h1;have:(Tryz.prog.info? 142).bind (·.zero)=some z:=(by rw[e1];exact h2);have k:(Tryz.prog.info? 142).bind (·.zero)=some (.agg #[.int .u64 0,.int .i64 0,.bool false]):=(by kernel_rfl);rw[k]at this;cases this;rfl) kz (by omega) (by have:=Uo.o;have:=HE.o;omega) (by have:=Uo.o;have:=HE.o;unfold maxLen;omega) (af9 gJ.o BD.o.size)
   have hz1:n_ w3 g B (.slice a0 L0 c0):=qY R0.o hg (by decide) _ _ _ T0;have hz4:dB w3 b4 mH:=by
    have h:=K4D.o;unfold dB at h⊢;rw[hg.block _ (aga.1 h).1 (λe=>by have:=HOW.o _ e.symm;have:=cB.o;omega)];exact h
   have hlow:Below n0 wd w3:=oM R0.o hg (af9 gJ.o BD.o.size);have hon:bS Ae wd w3:=bS.own (w0:=wd) R0.o (af6 _ _) hg (by simp[Ae]);obtain⟨va,vc,rfl⟩:=hS'.len;have hlen':(rW++List.replicate kz mH).length=n1:=by rw[af8,ahF];omega
   have AO:=ak hS';have OO:=ak hlow;have FX:=ak hon;have HZ4:=ak hz4;have HLN':=ak hlen';rw[hlen']at hrun AO;refine aT 13 λK hK=>?_;simp[execOp,resolve,invoke,builtin,hrun,Result.andThen,Act.eval,Oper.uponIn];refine hK _ _ hz1 ?_;clear hK K hrun hg hS' hlow hon hz4 hlen' hL;refine tk2 14 15 ?_;refine aJ.cK 16 (by kernel_rfl) ?_;simp only[agr,agj];obtain⟨-,z1,z2⟩:=hz1.cells;have z2':=z2 1;obtain⟨w4,hw4⟩:=ay (w3.setCell ⟨g,1,none⟩ (.slice va n1 vc));have HX:aA (Z5 n0 g B id b4 E W w4):=ak (by
    have t4:n_ w4 g B (.slice va n1 vc):=(by rw[<-hw4];exact aC _ hz1);have hbb:b4≠g:=(by have:=I6.o;have:=cB.o;omega);have r4:dB w4 b4 mH:=(by rw[<-hw4];exact aB hbb HZ4.o);have s4:KO n0 w4 (.slice va n1 vc) (rW++List.replicate kz mH):=(by rw[<-hw4];exact aP.setCell AO.o _ (a:=⟨g,1,none⟩) hz1 (by decide));have hon:bS Ae W w4:=by
     have h1:bS Ae W w3:=(bS.of BD.o).trans FX.o;rw[<-hw4];exact h1.trans (bS.set (a:=⟨g,1,none⟩) hz1 (by simp[Ae]) _)
    have hlow:Below n0 W w4:=by
     rw[<-hw4];exact((BD.o.mono gJ.o).trans OO.o).setCell (p:=⟨g,1,none⟩) RP.o.lo _
    have hlen:(rW++List.replicate kz mH).length=n1:=HLN'.o;have hsh:=s4.shape;rw[hlen]at hsh;rcases hsh with⟨-,h⟩|⟨gr,cap,he,h1,h2⟩
    .rw[h]at hlen;simp at hlen;omega
    rw[he]at t4 s4;rw[<-hlen]at t4 s4;refine⟨gr,cap,rW++List.replicate kz mH,t4,s4,by omega,by have:=M_.o;omega,HO0.o.zeros kz,hlow,hon,ahm SD.o (by have:=FX.o.size;rw[<-hw4];simpa[World.setCell]using this),r4,λe=>?_⟩;subst e;unfold dB at r4;rcases s4.2 with⟨q,-⟩|⟨g',c',cur,q,-,hgb,q1,q2,q3,-⟩
    .cases q
    simp only[agn,agG,ahp]at q;obtain⟨⟨rfl,-⟩,-,rfl⟩:=q;rw[hgb]at r4;simp only[agG,ahY]at r4;have:=agC Array.size r4.1;simp at this;rw[hlen]at q1;have:=M_.o;omega)
   clear T0 m3 hz1 z2 HZ4 AO FX OO;gi_wp2_with fail
   refine NP.normal ?_;clear hw4 z1 z2';go_wp2_with fail
   go_meet
   case rel=>exact HX.o
  have hgi:¬(id:Int)>=(L0:Int):=by omega
  have HX:aA (Z5 n0 g B id b4 E W W1):=ak (by
   have hL:=H6.o;have hsh:=HR1.o.shape;have t4:=HT1.o;have s4:=HR1.o;rw[hL]at hsh;rcases hsh with⟨-,h⟩|⟨gr,cap,he,h1,h2⟩
   .rw[h]at hL;simp at hL;omega
   rw[he]at t4 s4;rw[<-hL]at t4 s4;refine⟨gr,cap,rW,t4,s4,by omega,by have:=Uo.o;omega,HO0.o,DR.o.mono gJ.o,bS.of DR.o,Z6.o,uF.o,λe=>?_⟩;have:=HOW.o gr (by rw[he];rfl);have:=cB.o;omega)
  go_wp2_with fail
  go_meet
  case rel=>exact HX.o
 obtain⟨gr,cap,rows,t1,r1,hl1,hl2,hok,hlow,hon,hsz,hk4,hgb⟩:=hcut;clear m0 m1 m2' oG HT1 HR1 Uo HO0 H6 HOW uF DR Z6;obtain⟨N,hN⟩:=ay (rows.length);have hrd:∃r,rows[id]?=some r:=⟨rows[id],agt hl1⟩;obtain⟨r,hr⟩:=hrd;obtain⟨gr',cap',e1,-,-,hcl⟩:=r1.at (by omega);simp only[agn,agG,ahp]at e1;obtain⟨⟨rfl,-⟩,-,rfl⟩:=e1;have kc:=(hcl wc (af6 _ _) id hl1).2.2;rw[show rows[id]=r from agQ ((agt hl1).symm.trans hr)]at kc;obtain⟨-,m1,-⟩:=t1.cells;have HT1:=ak t1;have HR1:=ak r1;have mF:=ak hok;have OO:=ak hlow;have FX:=ak hon;have iF:=ak hsz;have uF:=ak hk4;have G5:=ak hgb;have HR:=ak hr;have HN:=ak hN;rw[hN]at m1 HT1 HR1;have i5:(id:Int)<(N:Int):=by omega
 have i6:(0:Int)<=(id:Int):=by omega
 have xu:=ak (show id<N/\N<=E.length+1 by omega);obtain⟨n1,hn1⟩:=ay (W.heap.size);have J3:=ak hn1;clear t1 r1 hl1 hl2 hok hlow hon hsz hk4 hgb hr hN hcl hn1;go_upto_if 65 with(fail);go_cut [6] from 57 (λtv w=>∃k,FW n0 n1 g B id b4 gr cap N E W k tv w)
 case first=>
  cases hkn:r.known with
  |true=>
   rw[hkn]at kc;have HX:aA (∃k,FW n0 n1 g B id b4 gr cap N E W k (.slice none 0 0) wc):=ak ⟨_,[],rows,rfl,aP.nil _ _ _ _ _,HT1.o,HR1.o,HN.o,mF.o,⟨λi x h=>(by simp at h),List.Pairwise.nil⟩,.inl ⟨r,HR.o,hkn⟩,OO.o,FX.o,uF.o,by have:=iF.o;have:=J3.o;omega⟩;clear hkn;go_wp2_with fail
   go_meet
   case rel=>exact HX.o
  |false=>
   rw[hkn]at kc;have HRK:=ak (mF.o.unknown HR.o hkn);have hbase:n1<=wc.heap.size:=by have:=iF.o;have:=J3.o;omega
   clear hkn;go_wp2_with (first
    | (at_builtin;refine bP (v:=.slice none 0 0) elemId bX rfl _ _ rfl rfl (aP.nil n1 wc _ _ _) id rfl rfl ?c1 ?c2 hbase ?_))
   case c1=>simp[gF,Value.oneCell']
   case c2=>simp
   intro v5 w5 hS5 hg5 hb5;have HX:aA (∃k,FW n0 n1 g B id b4 gr cap N E W k v5 w5):=ak (by
    have hw:Below wc.heap.size wc w5:=by
     have:=hg5;have h2:Below wc.heap.size (wc.alloc (.cells #[.int .i64 id] 27)) w5:=(af6 _ _).grown hg5 (by simp) (λk e=>by cases e);exact((af6 _ wc).alloc (af7 _) _).trans h2
    refine⟨_,[id],rows,rfl,hS5,au hw HT1.o,HR1.o.below hw,HN.o,mF.o,⟨λi x h=>?_,by simp⟩,.inr rfl,OO.o.trans (hw.mono (by have:=gJ.o;have:=iF.o;omega)),FX.o.trans (bS.of hw),au hw uF.o,af9 hbase hw.size⟩;cases i with
    |zero=>simp at h;subst h;exact⟨M_.o.1,by have:=M_.o;omega,by rw[HR.o,HRK.o]⟩
    |succ i=>simp at h)
   clear hS5 hg5 hb5 hbase;go_wp2_with fail
   go_meet
   case rel=>exact HX.o
 obtain⟨k,hJ⟩:=hcut;clear HT1 HR1 mF OO FX iF uF HR HN kc m1;go_wp2_with fail
 go_loopg [6] k (λk tv wr=>FW n0 n1 g B id b4 gr cap N E W k tv wr)
 case atStart=>exact hJ
 clear hJ;obtain⟨T,rows,hk,hI,hT,hR,hN,hok,hst,RQ,hlow,hon,hb4,hn1⟩:=hrel;rcases agR T with rfl|⟨T',x,rfl⟩
 .obtain⟨ta,tc,rfl⟩:=hI.len;obtain⟨q,hq,hqk⟩:∃r,rows[id]?=some r/\r.known=true:=by
   rcases RQ with h|h
   .exact h
   cases h
  obtain⟨-,-,rfl⟩:=hok.known hq hqk;have hlt:id<rows.length:=by rw[hN];exact xu.o.1
  obtain⟨gr',cap',e1,-,-,hcl⟩:=hR.at (by omega);simp only[agn,agG,ahp]at e1;obtain⟨⟨rfl,-⟩,-,rfl⟩:=e1;obtain⟨x0,x1,x2⟩:=hcl wr (af6 _ _) id hlt;rw[show rows[id]=rowOf (sym E id) from agQ ((agt hlt).symm.trans hq)]at x0 x1 x2;obtain⟨R,hRR⟩:=ay (rowOf (sym E id));rw[hRR]at x0 x1 x2;have HRR:=ak hRR;have z4:dB wr W.heap.size mH:=by rw[cB.o];exact hb4
  obtain⟨-,m1,-⟩:=hT.cells;obtain⟨o0,o1,o2⟩:=z4.cells;have f0:=z4.free 0;have f1:=z4.free 1;have f2:=z4.free 2;simp only[mH]at o0 o1 o2;obtain⟨w9,dI⟩:∃w',jm wr W.heap.size R=w':=⟨_,rfl⟩;have k9:dB w9 W.heap.size R:=by rw[<-dI];exact z4.set R
  have b9:Below W.heap.size wr w9:=by rw[<-dI];exact fM (af6 _ _) (af7 _) R
  have dR:aA (jV n0 w9 g B E/\Below n0 W w9/\bS Ae W w9):=ak (by
   have hgl:=I6.o;have hgb:gr≠W.heap.size:=by rw[cB.o];exact G5.o
   have hrk:w9.heap[gr]?=wr.heap[gr]?:=by
    rw[<-dI];unfold jm;rw[agU _ _ _ _ (by exact hgb),agU _ _ _ _ (by exact hgb),agU _ _ _ _ (by exact hgb)]
   have ht9:n_ w9 g B (.slice (some ⟨gr,0,none⟩) N cap):=by
    unfold n_ at hT⊢;rw[b9.block g hgl];exact hT
   have hl9:Below n0 W w9:=hlow.trans (b9.mono gJ.o);exact⟨⟨⟨_,rows,ht9,aP.same hR hrk,by rw[hN];exact xu.o.2,hok⟩,RP.o.lo,RP.o.tab.below hl9 RP.o.g0,RP.o.g0⟩,hl9,hon.then b9⟩)
  have K9:=ak k9;simp only[jm]at dI;clear hk hI hT hR hN hok hst RQ hlow hon hb4 hn1 hq hqk hlt hcl z4 k9 b9 hRR;go_wp2_with fail
  clear dI x0 x1 x2 o0 o1 o2 f0 f1 f2 m1;obtain⟨c0,c1,c2⟩:=K9.o.cells;exact af_ (v:=.tuple #[.agg #[.int .u64 R.key,.int .i64 R.aQ,.bool R.known],.nilIface]) (by simp[results,Tryz.results65,go_sem,c0,c1,c2]) rfl ⟨by rw[HRR.o],dR.o⟩
 rw[agO]at hk hI hst RQ;obtain⟨ta,tc,rfl⟩:=hI.len;rw[af8,agk]at hI⊢;obtain⟨j,hj⟩:=ay (T'.length);have Z7:=hst.len;rw[af8,agk,hj]at Z7;rw[hj]at hI⊢;have hsh:=hI.shape;rw[af8,agk,hj]at hsh;obtain⟨gt,rfl,hjc⟩:∃g,ta=some ⟨g,0,none⟩/\j+1<=tc:=by
  rcases hsh with⟨-,h⟩|⟨g,cap,h,h1,h2⟩
  .simp at h
  simp only[agn]at h;obtain⟨rfl,-,rfl⟩:=h;exact⟨g,rfl,h1⟩
 have q0:=aP.cell bX hI (i:=j) (by simp[hj]) (j:=0) (by omega);rw[show(T'++[x])[j]'(by simp[hj])=x by simp[<-hj],ag3,ahC]at q0;replace q0:wr.cell? ⟨gt,j,none⟩=some (.int .i64 x):=q0;obtain⟨hx0,hxj,hxu⟩:=hst.el T'.length x (by simp);rw[hj]at hxj;have XA:x<=E.length:=by omega
 have hxl:x<rows.length:=(agA.1 hxu).1;have acZ:aW n0 wr B most E:=HS.o.OG hon (by decide) (by decide);obtain⟨r,hr⟩:=ay ((aF E x).ru);obtain⟨⟨hok1,hlx,hrx,hkd,hlet⟩,hsel⟩:=Vt gW.o HS.o.nodup hok hx0 XA hxl hr HE.o;have pX:=ak (iK acZ hx0 XA HE.o);rw[hr]at pX;unfold qN at pX;obtain⟨mb,m1,-⟩:=hT.cells;have hj1:(j:Int)<((j+1:Nat):Int):=by omega
 have hj2:(j:Int)<=(tc:Int):=by omega
 have hj3:j<=tc:=by omega
 have hj4:IntKind.i64.wrap (((j+1:Nat):Int)-1)=(j:Int):=by have:=HE.o;rw[agd];omega
 have hj5:wrap64 (j:Int)=(j:Int):=by have:=HE.o;unfold wrap64;omega
 have HT:=ak hT;have HR:=ak hR;have HN:=ak hN;have mF:=ak hok;have HST:=ak hst;have RS:=ak RQ;have OO:=ak hlow;have FX:=ak hon;have HB0:=ak hb4;have J4:=ak hn1;have HI:=ak hI;have HK:=ak hk;have HJ:=ak hj;have HX:=ak (And.intro hx0 (And.intro XA (And.intro hxu (And.intro hxl hxj))));have P9:=ak (And.intro hlx (And.intro hrx (And.intro hkd (And.intro hlet hok1))));have HSEL:=ak hsel;have Z8:=ak Z7;clear hk hI hT hR hN hok hst RQ hlow hon hb4 hn1 hj hsh hjc hx0 hxj hxu XA hxl acZ hok1 hlx hrx hkd hlet hsel hr Z7;go_wp2_with fail
 refine pX.o.mono ?_;rintro e w3 ⟨rfl,b3⟩;obtain⟨wz,w4,hz,hs1,kr,br,⟨r0,r1,r2,r3,r4⟩,e0,e1,e2,e3,e4⟩:=pF w3 r;obtain⟨gc,hgc⟩:=ay (w3.heap.size);rw[hgc]at hs1 kr r0 r1 r2 r3 r4 e0 e1 e2 e3 e4;have hb4:=Below.after b3 br;have I7:=ak hb4;have KR:=ak kr;have G6:=ak (af6 w4.heap.size w4);have qG:=ak (show n_ w4 g B (.slice (some ⟨gr,0,none⟩) N cap) from au hb4 HT.o);have HI4:=ak (HI.o.below hb4);have RL:aA (∀w,Below w4.heap.size w4 w->∀(i:Nat) (q:Rw),rows[i]?=some q->w.cell? ⟨gr,i*3+2,none⟩=some (.bool q.known)):=ak (λw hw i q hi=>by
  have hlt:=(agA.1 hi).1;obtain⟨gr',cap',e1,-,-,hcl⟩:=HR.o.at (by omega);simp only[agn,agG,ahp]at e1;obtain⟨⟨rfl,-⟩,-,rfl⟩:=e1;have:=(hcl w (Below.after hb4 hw) i hlt).2.2;rw[(agA.1 hi).2]at this;exact this)
 have HNr:=HN.o;have HNx:=HX.o.2.2.2.1;clear b3 br hb4 kr;rcases HSEL.o with⟨hl0,hlu⟩|⟨hl0,hr0,mW,a,hla,hak⟩|⟨a,b,hla,hrb,hcmp,hcs⟩
 .have Vn:=ak hlu;have z1:((r.left:Int) !=0)=true:=by simp;omega
  have l1:(0:Int)<=(r.left:Int):=by omega
  have l2:(r.left:Int)<(N:Int):=by have:=P9.o.1;omega
  have y2:∀w,Below w4.heap.size w4 w->w.cell? ⟨gc,2,none⟩=some (.int .i64 r.left):=λw hw=>(eP.cells (au (Below.after G6.o hw) KR.o)).2.2.1;have mt:∀w,Below w4.heap.size w4 w->w.cell? ⟨g,1,none⟩=some (.slice (some ⟨gr,0,none⟩) N cap):=λw hw=>(n_.cells (au (Below.after G6.o hw) qG.o)).2.1;have mk:∀w,Below w4.heap.size w4 w->w.cell? ⟨gr,r.left*3+2,none⟩=some (.bool false):=λw hw=>by
   have:=RL.o w (Below.after G6.o hw) _ _ Vn.o;exact this
  go_wp2_with fail
  clear hz hs1 r0 r1 r2 r3 r4 e0 e1 e2 e3 e4 q0 m1 mb hgc;refine aU (Below w4.heap.size w4) ?_;have S0:Below w4.heap.size w4 w4.drew:=(af6 _ _).drew;refine bJ 0 1 2 3 4 5 ?_;refine bJ 6 7 8 9 10 11 ?_;refine tk4 12 13 14 15 ?_;refine aO ?_;obtain⟨w5,eH⟩:=ay (w4.drew);rw[eH]at S0⊢;have DT:=ak (Below.after G6.o S0);clear S0 eH;clear y2 mt mk;have y2:∀w,Below w5.heap.size w5 w->w.cell? ⟨gc,2,none⟩=some (.int .i64 r.left):=λw hw=>(eP.cells (au (Below.after DT.o hw) KR.o)).2.2.1;have hbase:n1<=w5.heap.size:=by have h1:=J4.o;have h2:=DT.o.size;have h3:=I7.o.size;omega
  have OP:=ak (show Ids n1 w5 (.slice (some ⟨gt,0,none⟩) (j+1) tc) (T'++[x]) from HI4.o.below DT.o);have HJJ:aA ((T'++[x]).length=j+1):=ak (by simp[HJ.o]);have gv:w5.cell? ⟨gc,2,none⟩=some (.int .i64 r.left):=y2 _ (af6 _ _);clear y2;go_wp2_with (first
   | (at_builtin;refine bP (v:=.slice (some ⟨gt,0,none⟩) (j+1) tc) elemId bX rfl _ _ rfl rfl OP.o r.left rfl rfl ?c1 ?c2 hbase ?_))
  case c1=>simp[gF,Value.oneCell']
  case c2=>rw[HJJ.o];have:=Z8.o;have:=HE.o;omega
  intro v5 w7 fB Ad oI;have HX7:aA (FW n0 n1 g B id b4 gr cap N E W (gL rows*(E.length+2)+(E.length+1-(j+2))) v5 w7):=ak (by
   have hw0:Below wr.heap.size wr w5:=Below.after I7.o DT.o;have Z9:bS Ae W w5:=FX.o.trans (bS.of hw0);have FI:Below n1 w5 w7:=oI;have Z_:bS Ae W w7:=Z9.then (by rw[J3.o];exact FI);have aac:Below n0 W w7:=(OO.o.trans (hw0.mono (by have:=gJ.o;have:=FX.o.size;omega))).trans (FI.mono (by have:=gJ.o;have:=J3.o;omega));have own:∀(k:Nat) (o:Obj),w5.heap[k]?=some o->(∀cs t fz,o=.cells cs t fz->t≠27)->w7.heap[k]?=some o:=λk o ho hne=>by
    have hk:=(aga.1 ho).1;rw[Ad.block k (by simp;omega) ?_,ahM _ _ _ hk]
    .exact ho
    rcases OP.o.2 with⟨h,-⟩|⟨g',c',cur,h,-,hgb,-⟩
    .cases h
    simp only[agn,agG,ahp]at h;obtain⟨⟨rfl,-⟩,-⟩:=h;intro e';have e2:k=gt:=(by simpa[Value.ownBlock]using e');rw[e2,hgb]at ho;cases ho;exact hne _ _ _ rfl rfl
   refine⟨T'++[x]++[r.left],rows,by rw[af8,af8,agk,agk,HJ.o],by simpa using fB,?_,?_,HN.o,mF.o,HST.o.push (by omega) P9.o.1 Vn.o,?_,aac,Z_,?_,af9 hbase FI.size⟩
   .exact own _ _ (au DT.o qG.o) (λcs t fz e=>by cases e;decide)
   .exact(HR.o.below hw0).keep (λk cs fz e=>own _ _ e (λcs' t ZN e'=>by cases e';decide))
   .rcases RS.o with h|h
    .exact .inl h
    right;cases T' with
    |nil=>exact h
    |cons a l=>exact h
   exact own _ _ (au hw0 HB0.o) (λcs t fz e=>by cases e;decide))
  have FU:=HK.o;clear fB Ad oI hbase;go_wp2_with fail
  go_roundg (gL rows*(E.length+2)+(E.length+1-(j+2)))
  case measure=>rw[af8,agk,HJ.o]at FU;have:=Z8.o;generalize gL rows*(E.length+2)=uu at *;omega
  case rel=>exact HX7.o
 .have Vn:=ak hla;have HRA:=ak mW;have HAK:=ak hak;have z1:((r.left:Int) !=0)=true:=by simp;omega
  have z2:((r.right:Int) !=0)=true:=by simp;omega
  have l1:(0:Int)<=(r.left:Int):=by omega
  have l2:(r.left:Int)<(N:Int):=by have:=P9.o.1;omega
  have l3:(0:Int)<=(r.right:Int):=by omega
  have l4:(r.right:Int)<(N:Int):=by have:=P9.o.2.1;omega
  clear hak hla mW;have y2:∀w,Below w4.heap.size w4 w->w.cell? ⟨gc,2,none⟩=some (.int .i64 r.left):=λw hw=>(eP.cells (au (Below.after G6.o hw) KR.o)).2.2.1;have mt:∀w,Below w4.heap.size w4 w->w.cell? ⟨g,1,none⟩=some (.slice (some ⟨gr,0,none⟩) N cap):=λw hw=>(n_.cells (au (Below.after G6.o hw) qG.o)).2.1;have mk:∀w,Below w4.heap.size w4 w->w.cell? ⟨gr,r.left*3+2,none⟩=some (.bool true):=λw hw=>by
   have:=RL.o w (Below.after G6.o hw) _ _ Vn.o;rw[HAK.o]at this;exact this
  go_wp2_with fail
  clear hz hs1 r0 r1 r2 r3 r4 e0 e1 e2 e3 e4 q0 m1 mb hgc;refine aU (Below w4.heap.size w4) ?_;have S0:Below w4.heap.size w4 w4.drew:=(af6 _ _).drew;refine bJ 0 1 2 3 4 5 ?_;refine bJ 6 7 8 9 10 11 ?_;refine tk4 12 13 14 15 ?_;refine aO ?_;obtain⟨w5,eH⟩:=ay (w4.drew);rw[eH]at S0⊢;have DT:=ak (Below.after G6.o S0);clear S0 eH;clear y2 mt mk;have y3:∀w,Below w5.heap.size w5 w->w.cell? ⟨gc,3,none⟩=some (.int .i64 r.right):=λw hw=>(eP.cells (au (Below.after DT.o hw) KR.o)).2.2.2.1;have mt:∀w,Below w5.heap.size w5 w->w.cell? ⟨g,1,none⟩=some (.slice (some ⟨gr,0,none⟩) N cap):=λw hw=>(n_.cells (au (Below.after DT.o hw) qG.o)).2.1;have mk:∀w,Below w5.heap.size w5 w->w.cell? ⟨gr,r.right*3+2,none⟩=some (.bool false):=λw hw=>by
   have:=RL.o w (Below.after DT.o hw) _ _ HRA.o;exact this
  go_wp2_with fail
  refine aU (Below w5.heap.size w5) ?_;have S0:Below w5.heap.size w5 w5.drew:=(af6 _ _).drew;refine bJ 0 1 2 3 4 5 ?_;refine bJ 6 7 8 9 10 11 ?_;refine tk4 12 13 14 15 ?_;refine aO ?_;obtain⟨w6,dH⟩:=ay (w5.drew);rw[dH]at S0⊢;have Ez:=ak (Below.after DT.o S0);clear S0 dH;clear y3 mt mk;have y3:∀w,Below w6.heap.size w6 w->w.cell? ⟨gc,3,none⟩=some (.int .i64 r.right):=λw hw=>(eP.cells (au (Below.after Ez.o hw) KR.o)).2.2.2.1;have hbase:n1<=w6.heap.size:=by have h1:=J4.o;have h2:=Ez.o.size;have h3:=I7.o.size;omega
  have OP:=ak (show Ids n1 w6 (.slice (some ⟨gt,0,none⟩) (j+1) tc) (T'++[x]) from HI4.o.below Ez.o);have HJJ:aA ((T'++[x]).length=j+1):=ak (by simp[HJ.o]);have gv:w6.cell? ⟨gc,3,none⟩=some (.int .i64 r.right):=y3 _ (af6 _ _);clear y3;go_wp2_with (first
   | (at_builtin;refine bP (v:=.slice (some ⟨gt,0,none⟩) (j+1) tc) elemId bX rfl _ _ rfl rfl OP.o r.right rfl rfl ?c1 ?c2 hbase ?_))
  case c1=>simp[gF,Value.oneCell']
  case c2=>rw[HJJ.o];have:=Z8.o;have:=HE.o;omega
  intro v5 w7 fB Ad oI;have HX7:aA (FW n0 n1 g B id b4 gr cap N E W (gL rows*(E.length+2)+(E.length+1-(j+2))) v5 w7):=ak (by
   have hw0:Below wr.heap.size wr w6:=Below.after I7.o Ez.o;have Z9:bS Ae W w6:=FX.o.trans (bS.of hw0);have FI:Below n1 w6 w7:=oI;have Z_:bS Ae W w7:=Z9.then (by rw[J3.o];exact FI);have aac:Below n0 W w7:=(OO.o.trans (hw0.mono (by have:=gJ.o;have:=FX.o.size;omega))).trans (FI.mono (by have:=gJ.o;have:=J3.o;omega));have own:∀(k:Nat) (o:Obj),w6.heap[k]?=some o->(∀cs t fz,o=.cells cs t fz->t≠27)->w7.heap[k]?=some o:=λk o ho hne=>by
    have hk:=(aga.1 ho).1;rw[Ad.block k (by simp;omega) ?_,ahM _ _ _ hk]
    .exact ho
    rcases OP.o.2 with⟨h,-⟩|⟨g',c',cur,h,-,hgb,-⟩
    .cases h
    simp only[agn,agG,ahp]at h;obtain⟨⟨rfl,-⟩,-⟩:=h;intro e';have e2:k=gt:=(by simpa[Value.ownBlock]using e');rw[e2,hgb]at ho;cases ho;exact hne _ _ _ rfl rfl
   refine⟨T'++[x]++[r.right],rows,by rw[af8,af8,agk,agk,HJ.o],by simpa using fB,?_,?_,HN.o,mF.o,HST.o.push (by omega) P9.o.2.1 HRA.o,?_,aac,Z_,?_,af9 hbase FI.size⟩
   .exact own _ _ (au Ez.o qG.o) (λcs t fz e=>by cases e;decide)
   .exact(HR.o.below hw0).keep (λk cs fz e=>own _ _ e (λcs' t ZN e'=>by cases e';decide))
   .rcases RS.o with h|h
    .exact .inl h
    right;cases T' with
    |nil=>exact h
    |cons a l=>exact h
   exact own _ _ (au hw0 HB0.o) (λcs t fz e=>by cases e;decide))
  have FU:=HK.o;clear fB Ad oI hbase;go_wp2_with fail
  go_roundg (gL rows*(E.length+2)+(E.length+1-(j+2)))
  case measure=>rw[af8,agk,HJ.o]at FU;have:=Z8.o;generalize gL rows*(E.length+2)=uu at *;omega
  case rel=>exact HX7.o
 have Vn:=ak hla;have HRA:=ak hrb;have HCMP:=ak hcmp;have l1:(0:Int)<=(r.left:Int):=by omega
 have l2:(r.left:Int)<(N:Int):=by have:=P9.o.1;omega
 have l3:(0:Int)<=(r.right:Int):=by omega
 have l4:(r.right:Int)<(N:Int):=by have:=P9.o.2.1;omega
 have l5:(0:Int)<=(x:Int):=by omega
 have l6:(x:Int)<(N:Int):=by omega
 have hba:=mF.o.bnd gW.o HE.o hla;have hbb:=mF.o.bnd gW.o HE.o hrb;have HCM:aA (∀w,Below w4.heap.size w4 w->Calls Tryz.prog 107 #[.pointer (some ⟨g,0,none⟩),.agg #[.int .i64 r.kind,.int .u8 r.letter,.int .i64 r.left,.int .i64 r.right,.int .i64 r.times]] w λe w'=>e=.returned (rwV (rowOf (sym E x)))/\Below w.heap.size w w'):=ak (λw hw=>by
  have hw0:Below wr.heap.size wr w:=Below.after I7.o hw;rw[<-HCMP.o];have hlow:Below n0 W w:=OO.o.trans (hw0.mono (by have:=gJ.o;have:=FX.o.size;omega));exact Iy (RP.o.tab.below hlow RP.o.g0) (show n_ w g B _ from au hw qG.o) (HR.o.below hw0) P9.o.2.2.2.2 (by have:=P9.o.1;omega) (by have:=P9.o.2.1;omega) P9.o.2.2.1 (agA.1 hla).2 (agA.1 hrb).2 hba.1 hbb.1 hba.2 hbb.2 P9.o.2.2.2.1)
 obtain⟨R,hRR⟩:=ay (rowOf (sym E x));have HRR:=ak hRR;rw[hRR]at HCM;have qD:aA (R.known=true):=ak (by rw[<-hRR];rfl);have Qy:=ak hcs;clear hba hbb hcmp hcs hRR hrb hla;rcases Qy.o with⟨hl0,hr0⟩|⟨hl0,hak,hr0⟩|⟨hl0,hak,hr0,hbk⟩
 case' _=>
  have HZl:=ak hl0;clear hl0;have HZr:=ak hr0;clear hr0;have y2:∀w,Below w4.heap.size w4 w->w.cell? ⟨gc,2,none⟩=some (.int .i64 0):=λw hw=>by
   have:=(eP.cells (au (Below.after G6.o hw) KR.o)).2.2.1;rw[HZl.o]at this;exact this
  go_wp2_with fail
  clear hz hs1 r0 r1 r2 r3 r4 e0 e1 e2 e3 e4 q0 m1 mb hgc;refine aU (Below w4.heap.size w4) ?_;have S0:Below w4.heap.size w4 w4.drew:=(af6 _ _).drew;refine tk4 0 1 2 3 ?_;refine aJ.sk 4 ?_;refine aJ.sk 5 ?_;refine aJ.sk 6 ?_;refine aJ.sk 7 ?_;refine aJ.sk 8 ?_;refine aJ.sk 9 ?_;refine aJ.sk 10 ?_;refine aJ.sk 11 ?_;refine aJ.sk 12 ?_;refine aJ.sk 13 ?_;refine tk2 14 15 ?_;refine aO ?_;obtain⟨w5,eH⟩:=ay (w4.drew);rw[eH]at S0⊢;have DT:=ak (Below.after G6.o S0);clear S0 eH;clear y2;have y3:∀w,Below w5.heap.size w5 w->w.cell? ⟨gc,3,none⟩=some (.int .i64 0):=λw hw=>by
   have:=(eP.cells (au (Below.after DT.o hw) KR.o)).2.2.2.1;rw[HZr.o]at this;exact this
  go_wp2_with fail
  refine aU (Below w5.heap.size w5) ?_;have S0:Below w5.heap.size w5 w5.drew:=(af6 _ _).drew;refine tk4 0 1 2 3 ?_;refine aJ.sk 4 ?_;refine aJ.sk 5 ?_;refine aJ.sk 6 ?_;refine aJ.sk 7 ?_;refine aJ.sk 8 ?_;refine aJ.sk 9 ?_;refine aJ.sk 10 ?_;refine aJ.sk 11 ?_;refine aJ.sk 12 ?_;refine aJ.sk 13 ?_;refine tk2 14 15 ?_;refine aO ?_;obtain⟨w6,dH⟩:=ay (w5.drew);rw[dH]at S0⊢;have Ez:=ak (Below.after DT.o S0);clear S0 dH;clear y3
 rotate_left
 case' _=>
  have z1:((r.left:Int) !=0)=true:=by simp;omega
  have HZr:=ak hr0;clear hr0;have HAK:=ak hak;clear hak;have y2:∀w,Below w4.heap.size w4 w->w.cell? ⟨gc,2,none⟩=some (.int .i64 r.left):=λw hw=>(eP.cells (au (Below.after G6.o hw) KR.o)).2.2.1;have mt:∀w,Below w4.heap.size w4 w->w.cell? ⟨g,1,none⟩=some (.slice (some ⟨gr,0,none⟩) N cap):=λw hw=>(n_.cells (au (Below.after G6.o hw) qG.o)).2.1;have mk:∀w,Below w4.heap.size w4 w->w.cell? ⟨gr,r.left*3+2,none⟩=some (.bool true):=λw hw=>by
   have:=RL.o w (Below.after G6.o hw) _ _ Vn.o;rw[HAK.o]at this;exact this
  go_wp2_with fail
  clear hz hs1 r0 r1 r2 r3 r4 e0 e1 e2 e3 e4 q0 m1 mb hgc;refine aU (Below w4.heap.size w4) ?_;have S0:Below w4.heap.size w4 w4.drew:=(af6 _ _).drew;refine bJ 0 1 2 3 4 5 ?_;refine bJ 6 7 8 9 10 11 ?_;refine tk4 12 13 14 15 ?_;refine aO ?_;obtain⟨w5,eH⟩:=ay (w4.drew);rw[eH]at S0⊢;have DT:=ak (Below.after G6.o S0);clear S0 eH;clear y2 mt mk;have y3:∀w,Below w5.heap.size w5 w->w.cell? ⟨gc,3,none⟩=some (.int .i64 0):=λw hw=>by
   have:=(eP.cells (au (Below.after DT.o hw) KR.o)).2.2.2.1;rw[HZr.o]at this;exact this
  go_wp2_with fail
  refine aU (Below w5.heap.size w5) ?_;have S0:Below w5.heap.size w5 w5.drew:=(af6 _ _).drew;refine tk4 0 1 2 3 ?_;refine aJ.sk 4 ?_;refine aJ.sk 5 ?_;refine aJ.sk 6 ?_;refine aJ.sk 7 ?_;refine aJ.sk 8 ?_;refine aJ.sk 9 ?_;refine aJ.sk 10 ?_;refine aJ.sk 11 ?_;refine aJ.sk 12 ?_;refine aJ.sk 13 ?_;refine tk2 14 15 ?_;refine aO ?_;obtain⟨w6,dH⟩:=ay (w5.drew);rw[dH]at S0⊢;have Ez:=ak (Below.after DT.o S0);clear S0 dH;clear y3
 rotate_left
 case' _=>
  have z1:((r.left:Int) !=0)=true:=by simp;omega
  have z2:((r.right:Int) !=0)=true:=by simp;omega
  have HAK:=ak hak;clear hak;have Uq:=ak hbk;clear hbk;have y2:∀w,Below w4.heap.size w4 w->w.cell? ⟨gc,2,none⟩=some (.int .i64 r.left):=λw hw=>(eP.cells (au (Below.after G6.o hw) KR.o)).2.2.1;have mt:∀w,Below w4.heap.size w4 w->w.cell? ⟨g,1,none⟩=some (.slice (some ⟨gr,0,none⟩) N cap):=λw hw=>(n_.cells (au (Below.after G6.o hw) qG.o)).2.1;have mk:∀w,Below w4.heap.size w4 w->w.cell? ⟨gr,r.left*3+2,none⟩=some (.bool true):=λw hw=>by
   have:=RL.o w (Below.after G6.o hw) _ _ Vn.o;rw[HAK.o]at this;exact this
  go_wp2_with fail
  clear hz hs1 r0 r1 r2 r3 r4 e0 e1 e2 e3 e4 q0 m1 mb hgc;refine aU (Below w4.heap.size w4) ?_;have S0:Below w4.heap.size w4 w4.drew:=(af6 _ _).drew;refine bJ 0 1 2 3 4 5 ?_;refine bJ 6 7 8 9 10 11 ?_;refine tk4 12 13 14 15 ?_;refine aO ?_;obtain⟨w5,eH⟩:=ay (w4.drew);rw[eH]at S0⊢;have DT:=ak (Below.after G6.o S0);clear S0 eH;clear y2 mt mk;have y3:∀w,Below w5.heap.size w5 w->w.cell? ⟨gc,3,none⟩=some (.int .i64 r.right):=λw hw=>(eP.cells (au (Below.after DT.o hw) KR.o)).2.2.2.1;have mt:∀w,Below w5.heap.size w5 w->w.cell? ⟨g,1,none⟩=some (.slice (some ⟨gr,0,none⟩) N cap):=λw hw=>(n_.cells (au (Below.after DT.o hw) qG.o)).2.1;have mk:∀w,Below w5.heap.size w5 w->w.cell? ⟨gr,r.right*3+2,none⟩=some (.bool true):=λw hw=>by
   have:=RL.o w (Below.after DT.o hw) _ _ HRA.o;rw[Uq.o]at this;exact this
  go_wp2_with fail
  refine aU (Below w5.heap.size w5) ?_;have S0:Below w5.heap.size w5 w5.drew:=(af6 _ _).drew;refine bJ 0 1 2 3 4 5 ?_;refine bJ 6 7 8 9 10 11 ?_;refine tk4 12 13 14 15 ?_;refine aO ?_;obtain⟨w6,dH⟩:=ay (w5.drew);rw[dH]at S0⊢;have Ez:=ak (Below.after DT.o S0);clear S0 dH;clear y3 mt mk
 all_goals
  have y6:∀w,Below w6.heap.size w6 w->eP w gc r:=λw hw=>au (Below.after Ez.o hw) KR.o;have g0:∀w,Below w6.heap.size w6 w->w.cell? ⟨gc,0,none⟩=some (.int .i64 r.kind):=λw hw=>(y6 w hw).cells.1;have g1:∀w,Below w6.heap.size w6 w->w.cell? ⟨gc,1,none⟩=some (.int .u8 r.letter):=λw hw=>(y6 w hw).cells.2.1;have g2:∀w,Below w6.heap.size w6 w->w.cell? ⟨gc,2,none⟩=some (.int .i64 r.left):=λw hw=>(y6 w hw).cells.2.2.1;have g3:∀w,Below w6.heap.size w6 w->w.cell? ⟨gc,3,none⟩=some (.int .i64 r.right):=λw hw=>(y6 w hw).cells.2.2.2.1;have g4:∀w,Below w6.heap.size w6 w->w.cell? ⟨gc,4,none⟩=some (.int .i64 r.times):=λw hw=>(y6 w hw).cells.2.2.2.2;have mt:∀w,Below w6.heap.size w6 w->w.cell? ⟨g,1,none⟩=some (.slice (some ⟨gr,0,none⟩) N cap):=λw hw=>(n_.cells (au (Below.after Ez.o hw) qG.o)).2.1;clear y6;go_wp2_with fail
  refine aU (Below w6.heap.size w6) ?_;have S0:Below w6.heap.size w6 w6.drew:=(af6 _ _).drew;refine bJ 0 1 2 3 4 5 ?_;refine tk1 6 ?_;refine aT 7 λK hK=>?_;go_simp
  try with_reducible refine⟨rfl,?_⟩
  refine agq.2 ((HCM.o _ (Below.after Ez.o S0)).mono ?_);rintro e w7 ⟨rfl,b7⟩;have S7:=Below.after S0 b7;refine hK _ _ S7 ?_;clear hK K;refine tk1 8 ?_;refine aJ.cK 9 (by kernel_rfl) ?_;simp only[agr,agj];clear g0 g1 g2 g3 g4 mt;have hw0:Below wr.heap.size wr w7:=Below.after I7.o (Below.after Ez.o S7);have R7:KO n0 w7 (.slice (some ⟨gr,0,none⟩) N cap) rows:=HR.o.below hw0;have hxl:x<rows.length:=by omega
  obtain⟨gr',cap',e1,-,-,hcl⟩:=R7.at (by omega);simp only[agn,agG,ahp]at e1;obtain⟨⟨rfl,-⟩,-,rfl⟩:=e1;obtain⟨v0,v1,v2⟩:=hcl w7 (af6 _ _) x hxl;rw[show rows[x]=mH from agQ ((agt hxl).symm.trans HX.o.2.2.1)]at v0 v1 v2;simp only[mH]at v0 v1 v2;obtain⟨hput,⟨Nc,rX⟩,xw,hfr⟩:=R7.put hxl R;have f0:=hfr (x*3);have f1:=hfr (x*3+1);have f2:=hfr (x*3+2);obtain⟨w8,hw8⟩:=ay (((w7.setCell ⟨gr,x*3,none⟩ (.int .u64 R.key)).setCell ⟨gr,x*3+1,none⟩ (.int .i64 R.aQ)).setCell ⟨gr,x*3+2,none⟩ (.bool R.known));have XB:aA (FW n0 n1 g B id b4 gr cap N E W ((gL rows-1)*(E.length+2)+(E.length+1-j)) (.slice (some ⟨gt,0,none⟩) j tc) w8/\0<gL rows):=ak (by
   have hoth:∀k,k≠gr->w8.heap[k]?=w7.heap[k]?:=λk hk=>by
    rw[<-hw8,agU _ _ _ _ (by exact hk),agU _ _ _ _ (by exact hk),agU _ _ _ _ (by exact hk)]
   have hgl:gr<w7.heap.size:=(aga.1 rX).1;have ac2:w8.heap.size=w7.heap.size:=by rw[<-hw8];simp[World.setCell]
   have FY:Ids n1 w7 (.slice (some ⟨gt,0,none⟩) j tc) T':=by
    have:=aP.pop bX (HI.o.below hw0) HJ.o;exact this
   have RU:bS Ae W w8:=by
    refine(FX.o.trans (bS.of hw0)).trans ⟨by rw[<-hw8];rfl,by rw[<-hw8];rfl,by rw[<-hw8];rfl,by omega,λk o ho hne=>?_⟩;by_cases e:k=gr
    .subst e;rw[rX]at ho;cases ho;exact absurd (show 142∈Ae by simp[Ae]) (hne _ _ _ rfl)
    rw[hoth k e];exact ho
   have RV:Below n0 W w8:=by
    have h7:Below n0 W w7:=OO.o.trans (hw0.mono (by have:=gJ.o;have:=FX.o.size;omega));rw[<-hw8];exact((h7.setCell (p:=⟨gr,x*3,none⟩) xw _).setCell (p:=⟨gr,x*3+1,none⟩) xw _).setCell (p:=⟨gr,x*3+2,none⟩) xw _
   have hne:gr≠gt:=by
    intro e;obtain⟨⟨cs,hc⟩,-,-⟩:=aP.free FY;rw[<-e,rX]at hc;simp only[agG,ahY]at hc;exact absurd hc.2.1 (by decide)
   have hgg:gr≠g:=by
    intro e;have ht:n_ w7 g B (.slice (some ⟨gr,0,none⟩) N cap):=au hw0 HT.o;unfold n_ at ht;rw[<-e,rX]at ht;simp only[agG,ahY]at ht;exact absurd ht.2.1 (by decide)
   have hun:=xq (s:=R) HX.o.2.2.1 rfl qD.o;refine⟨⟨T',rows.set x R,?_,aP.same FY (hoth _ (λe=>hne e.symm)),?_,by rw[<-hw8];exact hput,by rw[agL];exact HN.o,?_,HST.o.pop R,?_,RV,RU,?_,?_⟩,by omega⟩
   .rw[HJ.o,show gL (rows.set x R)=gL rows-1 by omega]
   .have ht:n_ w7 g B (.slice (some ⟨gr,0,none⟩) N cap):=au hw0 HT.o;unfold n_ at ht⊢;rw[hoth g (λe=>hgg e.symm)];exact ht
   .rw[<-HRR.o];exact mF.o.put HX.o.1 HX.o.2.1
   .rcases RS.o with⟨q,h1,h2⟩|h
    .left;by_cases e:x=id
     .subst e;exact⟨R,by rw[aiC hxl],qD.o⟩
     exact⟨q,by rw[aiZ e];exact h1,h2⟩
    cases T' with
    |nil=>
     left;have e:x=id:=(by simpa using h);subst e;exact⟨R,by rw[aiC hxl],qD.o⟩
    |cons a l=>right;simpa using h
   .have h4:dB w7 b4 mH:=au hw0 HB0.o;unfold dB at h4⊢;rw[hoth b4 (λe=>G5.o e.symm)];exact h4
   have:=J4.o;have:=hw0.size;omega)
  have FU:=HK.o;clear hput rX xw hfr hcl R7 hw0 hxl S7 b7 S0;gi_wp2_with fail
  clear v0 v1 v2 f0 f1 f2 hw8;go_wp2_with fail
  go_roundg ((gL rows-1)*(E.length+2)+(E.length+1-j))
  case measure=>
   have h1:=XB.o.2;rw[af8,agk,HJ.o]at FU;have h2:gL rows*(E.length+2)=(gL rows-1)*(E.length+2)+(E.length+2):=by
    obtain⟨u,hu⟩:∃u,gL rows=u+1:=⟨gL rows-1,by omega⟩;rw[hu,ahU,ag6]
   have:=Z8.o;rw[h2]at FU;generalize(gL rows-1)*(E.length+2)=uu at *;omega
  case rel=>exact XB.o.1
def KyP(n0 g B:Nat)(E:List En)(W w':World):Prop:=jV n0 w' g B E/\Below n0 W w'/\bS Ae W w'
theorem KyP.after{w w':World}(h:KyP n0 g B E W w)(hb:Below w.heap.size w w')(hn:n0<=W.heap.size):KyP n0 g B E W w':=
 ⟨h.1.below hb,h.2.1.trans (hb.mono (af9 hn h.2.2.size)),h.2.2.trans (bS.of hb)⟩
theorem Vv(hs:aW n0 W B most E)(hwf:Wf E)(hE:E.length<=1048576)(hk:jV n0 W g B E){id:Nat}(h0:0<id)(hid:id<=E.length):
    Calls Tryz.prog 171 #[.pointer (some ⟨g,0,none⟩),.int .i64 id] W λe w'=>e=.returned (.tuple #[.int .u64 (key (sym E id):Nat),.nilIface])/\KyP n0 g B E W w':=by
 have HR:=ak (M9 hs hwf hE hk h0 hid)
 have hn0:=ak hs.lt
 obtain⟨R,hR⟩:=ay (rowOf (sym E id))
 have HK:aA (R.key=key (sym E id)):=ak (by rw[<-hR];rfl)
 rw[hR]at HR
 rw[<-HK.o]
 clear hs hwf hE hk h0 hid hR
 go_enter Tryz.func171,Tryz.ntmps171
 go_wp2_with fail
 refine HR.o.mono ?_
 rintro e w1 ⟨rfl,h1,h2,h3⟩
 obtain⟨wz,w2,hz,hs1,kr,br,⟨r0,r1,r2⟩,q0,q1,q2⟩:=Rn w1 R
 have HP:=ak (KyP.after (W:=W) ⟨h1,h2,h3⟩ br hn0.o)
 obtain⟨c0,-,-⟩:=kr.cells
 clear h1 h2 h3 kr br
 go_wp2_with fail
 go_ret2
 exact⟨rfl,HP.o⟩
theorem OQ(hs:aW n0 W B most E)(hwf:Wf E)(hE:E.length<=1048576)(hk:jV n0 W g B E){id:Nat}(h0:0<id)(hid:id<=E.length)(hok:jF (sym E id)):
    Calls Tryz.prog 20 #[.pointer (some ⟨g,0,none⟩),.int .i64 id] W λe w'=>e=.returned (.tuple #[.int .i64 (aQ (sym E id):Nat),.nilIface])/\KyP n0 g B E W w':=by
 have HR:=ak (M9 hs hwf hE hk h0 hid)
 have hn0:=ak hs.lt
 obtain⟨R,hR⟩:=ay (rowOf (sym E id))
 have hK:R.aQ=(aQ (sym E id):Nat):=by rw[<-hR];exact lZ hok
 rw[hR]at HR
 obtain⟨l,hl⟩:=ay (aQ (sym E id))
 rw[hl]at hK⊢
 obtain⟨k,lv,kn⟩:=R
 simp only at hK
 subst hK
 clear hs hwf hE hk h0 hid hR hl hok
 have l0:¬(l:Int)<0:=by omega
 go_enter Tryz.func20,Tryz.ntmps20
 go_wp2_with fail
 refine HR.o.mono ?_
 rintro e w1 ⟨rfl,h1,h2,h3⟩
 obtain⟨wz,w2,hz,hs1,kr,br,⟨r0,r1,r2⟩,q0,q1,q2⟩:=Rn w1 ⟨k,l,kn⟩
 have HP:=ak (KyP.after (W:=W) ⟨h1,h2,h3⟩ br hn0.o)
 obtain⟨-,c1,-⟩:=kr.cells
 clear h1 h2 h3 kr br
 go_wp2_with fail
 go_ret2
 exact⟨rfl,HP.o⟩
end M
end
end Go.Proofs.YtgbhohfabhilgaaGreatDoor
