import Derived.Test.YtgbhohfabhilgaaGreatDoorPart26
set_option maxRecDepth 100000
set_option maxHeartbeats 8000000
set_option linter.unusedVariables false
set_option linter.unusedSimpArgs false
namespace Go.Proofs.YtgbhohfabhilgaaGreatDoor
section
open Go.RowKit Go.Lib
namespace M
attribute [local go_sem] Oper.semAt_some
theorem iq.top{W:World}{E:List En}{T:TypeId}{lo sb o pa:Nat}{b:Bool}{y:Sy}{h:Nat}{q:gI}{i k:Nat}{cs:Array Value}{v:Value}(hr:iq W E T lo sb o pa b ((y,h)::q) i k cs v):∃gb cap,v=.slice (some ⟨gb,0,none⟩) (q.length+1) cap/\v.ownBlock=some gb/\q.length+1<=cap/\cap<=maxLen/\∀j,j<8->W.cell? ⟨gb,q.length*8+j,none⟩=(zL E (y,h))[j]?:=by
 have hp:=hr.path
 rcases hp.shape with⟨-,e⟩|⟨gb,cap,rfl,h1,h2⟩
 .simp at e
 .have hl:((y,h)::q).reverse.length=q.length+1:=by simp
  rw[hl]at h1
  refine⟨gb,cap,by rw[hl],rfl,h1,h2,λj hj=>?_⟩
  have hc:=aP.cell (tY E) hp (i:=q.length) (by rw[hl];omega) hj
  rw[hc]
  have e2:((y,h)::q).reverse[q.length]'(by rw[hl];omega)=(y,h):=by
   simp only[ah3]
   rw[ah_ (by simp)]
   simp
  rw[e2]
theorem iq.nil{W:World}{E:List En}{T:TypeId}{lo sb o pa:Nat}{b:Bool}{i k:Nat}{cs:Array Value}{v:Value}(hr:iq W E T lo sb o pa b [] i k cs v):∃a cap,v=.slice a 0 cap:=by
 obtain⟨a,cap,h⟩:=hr.path.len
 exact⟨a,cap,h⟩
theorem d9{W:World}{E:List En}{T:TypeId}{lo sb o pa:Nat}{b:Bool}{p:gI}{i k n:Nat}{cs:Array Value}{v:Value}(hr:iq W E T lo sb o pa b p i k cs v)(hl:p.length<=1000000)(hn:∀y h q,p=(y,h)::q->aQ y≠n):
    Calls Tryz.prog 184 #[.pointer (some ⟨sb,o,none⟩),vI n] W λe w'=>e=.returned (.pointer none)/\w'=W:=by
 obtain⟨-,-,c2,-,-,-⟩:=hr.cells
 cases p with
 |nil=>
  obtain⟨a,cap,rfl⟩:=hr.nil
  clear hr hl hn
  go_enter Tryz.func184,Tryz.ntmps184
  go_wp2_with fail
  exact af_ (v:=.pointer none) (by simp[results,Tryz.results184,go_sem]) rfl ⟨rfl,rfl⟩
 |cons f q=>
  obtain⟨y,h⟩:=f
  obtain⟨gb,cap,rfl,-,h1,h2,hc⟩:=hr.top
  have c6:W.cell? ⟨gb,q.length*8+6,none⟩=some (vI (aQ y)):=hc 6 (by omega)
  have hne:=hn y h q rfl
  obtain⟨m,hm⟩:=ay (q.length)
  obtain⟨ly,pK⟩:=ay (aQ y)
  have hm1:m<=1000000:=by rw[agc]at hl;omega
  rw[hm]at c2 c6
  rw[pK]at c6 hne
  have l1:¬(ly:Int)=(n:Int):=by omega
  clear hr hl hn hc hne hm pK h1 h2
  go_enter Tryz.func184,Tryz.ntmps184
  go_wp2_with fail
  exact af_ (v:=.pointer none) (by simp[results,Tryz.results184,go_sem]) rfl ⟨rfl,rfl⟩
theorem dw{W:World}{E:List En}{T:TypeId}{lo sb o pa:Nat}{b:Bool}{y:Sy}{h:Nat}{q:gI}{i k n:Nat}{cs:Array Value}{cap gb:Nat}(hr:iq W E T lo sb o pa b ((y,h)::q) i k cs (.slice (some ⟨gb,0,none⟩) (q.length+1) cap))(hl:q.length+1<=1000000)(hn:aQ y=n):
    Calls Tryz.prog 184 #[.pointer (some ⟨sb,o,none⟩),vI n] W λe w'=>e=.returned (.pointer (some ⟨gb,q.length*8,none⟩))/\w'=W:=by
 obtain⟨-,-,c2,-,-,-⟩:=hr.cells
 obtain⟨gb',cap',e,-,h1,h2,hc⟩:=hr.top
 simp only[agn,agG,ahp,aht,ajf]at e
 obtain⟨rfl,rfl⟩:=e
 have c6:W.cell? ⟨gb,q.length*8+6,none⟩=some (vI (aQ y)):=hc 6 (by omega)
 obtain⟨m,hm⟩:=ay (q.length)
 have hm1:m<=1000000:=by omega
 rw[hm]at c2 c6⊢
 rw[hn]at c6
 have l1:(n:Int)=(n:Int):=rfl
 clear hr hl hc hm h1 h2 hn
 go_enter Tryz.func184,Tryz.ntmps184
 go_wp2_with fail
 exact af_ (v:=.pointer (some ⟨gb,m*8,none⟩)) (by simp[results,Tryz.results184,go_sem]) rfl ⟨rfl,rfl⟩
theorem iq.jo{W:World}{E:List En}{T:TypeId}{lo sb o pa:Nat}{b:Bool}{y:Sy}{h:Nat}{q:gI}{i k:Nat}{cs:Array Value}{cap gb:Nat}(hr:iq W E T lo sb o pa b ((y,h)::q) i k cs (.slice (some ⟨gb,0,none⟩) (q.length+1) cap)):W.cell? ⟨gb,q.length*8,none⟩=some (vI (num E y))/\W.cell? ⟨gb,q.length*8+1,none⟩=some (.int .i64 (yP E y).kind)/\W.cell? ⟨gb,q.length*8+2,none⟩=some (.int .u8 (yP E y).letter)/\W.cell? ⟨gb,q.length*8+3,none⟩=some (.int .i64 (yP E y).left)/\W.cell? ⟨gb,q.length*8+4,none⟩=some (.int .i64 (yP E y).right)/\
    W.cell? ⟨gb,q.length*8+5,none⟩=some (.int .i64 (yP E y).times)/\W.cell? ⟨gb,q.length*8+6,none⟩=some (vI (aQ y))/\W.cell? ⟨gb,q.length*8+7,none⟩=some (vI h)/\∀j,W.frozen? ⟨gb,j,none⟩=false:=by
 obtain⟨gb',cap',e,e2,h1,h2,hc⟩:=hr.top
 simp only[agn,agG,ahp,aht,ajf]at e
 obtain⟨rfl,rfl⟩:=e
 obtain⟨-,cur,jN⟩:=hr.path.blk e2
 exact⟨hc 0 (by omega),hc 1 (by omega),hc 2 (by omega),hc 3 (by omega),hc 4 (by omega),hc 5 (by omega),hc 6 (by omega),hc 7 (by omega),λj=>by simp[World.frozen?,jN]⟩
theorem Nq{W:World}{E:List En}{T:TypeId}{lo sb o pa:Nat}{b:Bool}{p:gI}{i k n:Nat}{cs:Array Value}{v:Value}(hr:iq W E T lo sb o pa b p i k cs v)(hl:p.length<=1000000)(hy:∀y h q,p=(y,h)::q->aQ y=n->∃a t,y=.pw a t):
    Calls Tryz.prog 208 #[.pointer (some ⟨sb,o,none⟩),vI n] W λe w'=>e=.returned (.tuple #[vI (kD n p).1,.bool (kD n p).2])/\Below W.heap.size W w':=by
 have HF:∀f,Fence.wide.fn f:=λ_=>trivial
 by_cases hn:∀y h q,p=(y,h)::q->aQ y≠n
 .have jg:=ak (d9 hr hl hn)
  have ht:kD n p=(1,false):=by
   cases p with
   |nil=>rfl
   |cons f q=>
    obtain⟨y,h⟩:=f
    show(if aQ y=n then _ else _)=_
    rw[af4 (hn y h q rfl)]
  rw[ht]
  clear hr hl hn hy ht
  go_enter Tryz.func208,Tryz.ntmps208
  go_wp2_with fail
  refine jg.o.mono ?_
  rintro e w1 ⟨rfl,rfl⟩
  go_wp2_with fail
  exact af_ (v:=.tuple #[.int .i64 1,.bool false]) (by simp[results,Tryz.results208,go_sem]) rfl ⟨rfl,af6 _ _⟩
 .cases p with
  |nil=>exact absurd (λy h q e=>by cases e) hn
  |cons f q=>
   obtain⟨y,h⟩:=f
   have pK:aQ y=n:=by
    apply ahk
    intro hne
    exact hn λy' h' q' e=>by
     injection e with e1 _
     injection e1 with e3 _
     rw[<-e3];exact hne
   obtain⟨a,t,rfl⟩:=hy y h q rfl pK
   obtain⟨gb,cap,rfl,-,-,-,-⟩:=hr.top
   have hl2:q.length+1<=1000000:=by simpa using hl
   have jg:=ak (dw hr hl2 pK)
   have ht:kD n ((.pw a t,h)::q)=(h,decide (h<t)):=by
    show(if aQ (.pw a t)=n then(h,decide (h<(aZ (.pw a t)).length))else _)=_
    rw[af5 pK]
    show(h,decide (h<(List.replicate t a).length))=_
    rw[ahF]
   rw[ht]
   obtain⟨m,hm⟩:=ay (q.length)
   have e5:∀w,Below W.heap.size W w->w.cell? ⟨gb,m*8+5,none⟩=some (.int .i64 t):=λw hw=>by rw[<-hm];exact(hr.below hw).jo.2.2.2.2.2.1
   have e7:∀w,Below W.heap.size W w->w.cell? ⟨gb,m*8+7,none⟩=some (.int .i64 h):=λw hw=>by rw[<-hm];exact(hr.below hw).jo.2.2.2.2.2.2.2.1
   rw[hm]at jg hl2
   clear hr hl hn hy ht pK hm
   go_enter Tryz.func208,Tryz.ntmps208
   go_wp2_with fail
   refine jg.o.mono ?_
   rintro e w1 ⟨rfl,rfl⟩
   go_wp2_with fail
   refine aU (Below w1.heap.size w1) ?_
   have S0:Below w1.heap.size w1 w1.drew:=(af6 _ _).drew
   obtain⟨we,bU⟩:=ay (w1.drew)
   rw[bU]at S0⊢
   refine bJ 0 1 2 3 4 5 ?_
   refine bJ 6 7 8 9 10 11 ?_
   refine tk4 12 13 14 15 ?_
   refine aO ?_
   go_wp2_with fail
   exact af_ (v:=.tuple #[.int .i64 h,.bool (decide (h<t))]) (by simp[results,Tryz.results208,go_sem]) rfl ⟨rfl,S0⟩
theorem rZ{n0 B most g:Nat}{F:List Sy}{E:List En}{W:World}(h:gV n0 B most g F E W){p:Nat}(hp:iW W p B g){i:Nat}(hi:i<=E.length):
    Calls Tryz.prog 57 #[ku p,vI i] W λe w'=>e=.returned (vI (aF E i).w.len)/\Below W.heap.size W w':=by
 have HW:=ak (dS h.st hi (by have:=h.room;omega))
 have HS:=ak (iQ hp)
 obtain⟨u,hu⟩:=ay ((aF E i).w)
 rw[hu]at HW⊢
 clear h hp hi hu
 go_enter Tryz.func57,Tryz.ntmps57
 go_wp2_with fail
 refine HS.o.mono ?_
 rintro e wn ⟨rfl,rfl⟩
 go_wp2_with fail
 refine HW.o.mono ?_
 rintro e w1 ⟨rfl,b1⟩
 obtain⟨wz,w2,hz,hs,k2,b2,⟨q0,q1,q2,q3,q4,q5⟩,r0,r1,r2,r3,r4,r5⟩:=kE w1 u
 have HB:=ak (Below.after b1 b2);have HK:=ak k2
 clear b1 b2 k2
 have x0:=HK.o.cells.1
 go_wp2_with fail
 exact af_ (v:=.int .i64 u.len) (by simp[results,Tryz.results57,go_sem]) rfl ⟨rfl,HB.o⟩
theorem He.same{n0 B most g:Nat}{F:List Sy}{E:List En}{W w':World}{T:TypeId}{lo sb o pa:Nat}{b:Bool}{cs:Array Value}{v:Value}{e:Ed}(h:gV n0 B most g F E W)(he:J6 W E T lo sb o pa b e cs v)(hb:Below W.heap.size W w'):He n0 B most g F E W T lo sb o pa b cs v e w':=
 ⟨cs,v,he.below hb,lV.refl _ _,vB _ _,Gw.of h hb⟩
theorem iq.pop{W:World}{E:List En}{T:TypeId}{lo sb o pa:Nat}{b:Bool}{y:Sy}{h:Nat}{q:gI}{i k:Nat}{cs:Array Value}{cap gb:Nat}(hr:iq W E T lo sb o pa b ((y,h)::q) i k cs (.slice (some ⟨gb,0,none⟩) (q.length+1) cap))(hT:T≠289):
    iq (W.setCell ⟨sb,o+2,none⟩ (.slice (some ⟨gb,0,none⟩) q.length cap)) E T lo sb o pa b q i k (cs.setIfInBounds (o+2) (.slice (some ⟨gb,0,none⟩) q.length cap)) (.slice (some ⟨gb,0,none⟩) q.length cap):=by
 have hp:=hr.path
 unfold G9 at hp
 rw[ah3]at hp
 exact hr.slice hT (aP.pop (tY E) hp (by simp)) λf hf=>hr.mem f (agK _ hf)
theorem Lh{n0 B most g:Nat}{F:List Sy}{E:List En}{W:World}(h:gV n0 B most g F E W){T:TypeId}{lo sb o pa:Nat}{b:Bool}{n:Nat}{e:Ed}{cs:Array Value}{v:Value}(hl:EdL n0 lo sb T)(hp:iW W pa B g)(he:J6 W E T lo sb o pa b e cs v)(hn0:0<n)(hsz:(EF e).length<=1000000)(hk:∀y h q,EF e=(y,h)::q->h<=(aZ y).length):
    Calls Tryz.prog 146 #[.pointer (some ⟨sb,o,none⟩),vI n] W λr w'=>r=.returned (.tuple #[])/\He n0 B most g F E W T lo sb o pa b cs v (oD n e) w':=by
 have HF:∀f,Fence.wide.fn f:=λ_=>trivial
 by_cases hn:∀y h q,EF e=(y,h)::q->aQ y≠n
 .have jg:=ak (d9 he.r hsz hn)
  have hu:oD n e=e:=by
   cases e with
   |none=>rfl
   |some s=>
    obtain⟨p,x⟩:=s
    cases p with
    |nil=>rfl
    |cons f q=>
     obtain⟨y,h'⟩:=f
     rw[jS,af4 (λq'=>hn y h' q rfl q'.1)]
  have HE:aA (∀w',Below W.heap.size W w'->He n0 B most g F E W T lo sb o pa b cs v (oD n e) w'):=ak λw' hb=>by rw[hu];exact He.same h he hb
  clear h hl hp he hsz hk hn hu
  go_enter Tryz.func146,Tryz.ntmps146
  go_wp2_with fail
  refine jg.o.mono ?_
  rintro r w1 ⟨rfl,rfl⟩
  go_wp2_with fail
  refine dD (S:=Below w1.heap.size w1) ((af6 _ _).drew) λwe S0=>?_
  refine tk3 0 1 2 ?_
  refine aJ.sk 3 ?_
  refine aJ.sk 4 ?_
  refine aJ.sk 5 ?_
  refine aJ.sk 6 ?_
  refine aJ.sk 7 ?_
  refine aJ.sk 8 ?_
  refine aJ.sk 9 ?_
  refine aJ.sk 10 ?_
  refine aJ.sk 11 ?_
  refine aJ.sk 12 ?_
  refine tk1 13 ?_
  refine aO ?_
  go_wp2_with fail
  exact af_ (v:=.tuple #[]) (by simp[results,Tryz.results146,go_sem]) rfl ⟨rfl,HE.o _ S0⟩
 .cases e with
  |none=>exact absurd (λy h q e=>by cases e) hn
  |some s=>
   obtain⟨p,x⟩:=s
   cases p with
   |nil=>exact absurd (λy h q e=>by cases e) hn
   |cons f q=>
    obtain⟨y,h'⟩:=f
    have pK:aQ y=n:=by
     apply ahk
     intro hne
     exact hn λy' h'' q' e=>by
      have e:(y,h')::q=(y',h'')::q':=e
      injection e with e1 _
      injection e1 with e3 _
      rw[<-e3];exact hne
    have hkk:=hk y h' q rfl
    have hr:iq W E T lo sb o pa b ((y,h')::q) (num E x) (key x) cs v:=he.r
    obtain⟨gb,cap,rfl,-,hc1,hc2,-⟩:=hr.top
    have hl2:q.length+1<=1000000:=by
     have h9:((y,h')::q).length<=1000000:=hsz
     rw[agc]at h9;exact h9
    have jg:=ak (dw hr hl2 pK)
    have hwk:=zN (y:=y) (n:=0) (by omega)
    obtain⟨r,mW⟩:=ay (yP E y)
    obtain⟨t,ht⟩:=ay (dK y)
    have HW:aA (∀w,Calls Tryz.prog 185 #[.agg #[.int .i64 r.kind,.int .u8 r.letter,.int .i64 r.left,.int .i64 r.right,.int .i64 r.times]] w λe w'=>e=.returned (vI t)/\Below w.heap.size w w'):=ak λw=>by rw[<-ht,<-mW];exact EG E y
    obtain⟨m,hm⟩:=ay (q.length)
    have e1:∀w,Below W.heap.size W w->w.cell? ⟨gb,m*8+1,none⟩=some (.int .i64 r.kind):=λw hw=>by rw[<-hm,<-mW];exact(hr.below hw).jo.2.1
    have e2:∀w,Below W.heap.size W w->w.cell? ⟨gb,m*8+2,none⟩=some (.int .u8 r.letter):=λw hw=>by rw[<-hm,<-mW];exact(hr.below hw).jo.2.2.1
    have e3:∀w,Below W.heap.size W w->w.cell? ⟨gb,m*8+3,none⟩=some (.int .i64 r.left):=λw hw=>by rw[<-hm,<-mW];exact(hr.below hw).jo.2.2.2.1
    have e4:∀w,Below W.heap.size W w->w.cell? ⟨gb,m*8+4,none⟩=some (.int .i64 r.right):=λw hw=>by rw[<-hm,<-mW];exact(hr.below hw).jo.2.2.2.2.1
    have e5:∀w,Below W.heap.size W w->w.cell? ⟨gb,m*8+5,none⟩=some (.int .i64 r.times):=λw hw=>by rw[<-hm,<-mW];exact(hr.below hw).jo.2.2.2.2.2.1
    have e7:∀w,Below W.heap.size W w->w.cell? ⟨gb,m*8+7,none⟩=some (.int .i64 h'):=λw hw=>by rw[<-hm];exact(hr.below hw).jo.2.2.2.2.2.2.2.1
    by_cases hw:h'<t
    case' _=>
     have hu:oD n (some ((y,h')::q,x))=some ((y,h')::q,x):=by rw[jS,af4 (λq'=>by omega)]
     have HE:aA (∀w',Below W.heap.size W w'->He n0 B most g F E W T lo sb o pa b cs (.slice (some ⟨gb,0,none⟩) (m+1) cap) (oD n (some ((y,h')::q,x))) w'):=ak λw' hb=>by rw[hu,<-hm];exact He.same h he hb
     have lw:(h':Int)<(t:Int):=by omega
     rw[hm]at jg⊢
     clear h hl hp he hsz hk hn hu hr hkk hwk ht mW pK hm hl2 hw
    rotate_left
    case' _=>
     have lw:¬(h':Int)<(t:Int):=by omega
     have hht:h'=(aZ y).length:=by omega
     have hu:oD n (some ((y,h')::q,x))=some (q,y):=by rw[jS,af5 ⟨pK,hht⟩]
     obtain⟨iy,Ga⟩:=ay (num E y)
     obtain⟨ky,hky⟩:=ay (key y)
     have e0:∀w,Below W.heap.size W w->w.cell? ⟨gb,m*8,none⟩=some (.int .i64 iy):=λw hw=>by rw[<-hm,<-Ga];exact(hr.below hw).jo.1
     have hym:=hr.mem (y,h') (by simp)
     rw[hu]
     rw[hm]at jg hr⊢
     have HR:=ak hr;have HP:=ak h;have fV:=ak hp;have HL:=ak hl;have HX:=ak (hr.pa hl hp)
     have HY:=ak (And.intro hym (And.intro Ga (And.intro hky hm)))
     have oG:=ak (show lo<=gb/\gb<W.heap.size from hr.Ux rfl)
     have HKE:aA (∀w,Gw n0 B most g F (λq=>q=sb) E E W w->Calls Tryz.prog 171 #[.pointer (some ⟨g,0,none⟩),.int .i64 iy] w λr w'=>r=.returned (.tuple #[vK ky,.nilIface])/\Gw n0 B most g F (λ_=>False) E E w w'):=ak λw hw=>by
      have:=Ci hw.st hym.1
      rw[Ga,hky]at this
      exact this
     have hmb:m<=1000000:=by omega
     have hmc:m+1<=cap:=by omega
     have hcm:cap<=9223372036854775807:=by unfold maxLen at hc2;omega
     clear h hl hp he hsz hk hn hu hr hkk hwk ht mW pK hm hw hym Ga hky hc1 hc2 hht
    rotate_left
    all_goals
     go_enter Tryz.func146,Tryz.ntmps146
     go_wp2_with fail
     refine jg.o.mono ?_
     rintro r' w1 ⟨rfl,rfl⟩
     go_wp2_with fail
     refine dD (S:=Below w1.heap.size w1) ((af6 _ _).drew) λwe S0=>?_
     refine bJ 0 1 2 3 4 5 ?_
     refine zD 6 7 8 9 10 ?_
     refine aT 11 λK hK=>?_
     go_simp
     try with_reducible refine⟨rfl,?_⟩
     refine agq.2 ((HW.o _).mono ?_)
    case' _=>
     rintro e wn ⟨rfl,bn⟩
    rotate_left
    case' _=>
     rintro e w2 ⟨rfl,bn⟩
    rotate_left
    all_goals
     replace S0:=Below.after S0 bn
     refine hK _ _ S0 ?_
     clear hK K bn
     refine tk2 12 13 ?_
     refine aO ?_
    .go_wp2_with fail
     exact af_ (v:=.tuple #[]) (by simp[results,Tryz.results146,go_sem]) rfl ⟨rfl,HE.o _ S0⟩
    .have c0:=e0 _ S0
     have hr2:=HR.o.below S0
     obtain⟨-,-,-,c3,-,f6⟩:=hr2.cells
     have f3:=f6 (o+3)
     obtain⟨w3,hw3⟩:=ay (w2.setCell ⟨sb,o+3,none⟩ (.int .i64 iy))
     have hr3:=hr2.id HL.o.t2 iy
     have hg3:w2.grownBy w3 (some sb):=by rw[<-hw3];exact aK _ _ _
     have adt:iq w3 E T lo sb o pa b ((y,h')::q) iy (key x) (cs.setIfInBounds (o+3) (vI iy)) (.slice (some ⟨gb,0,none⟩) (m+1) cap):=by rw[<-hw3];exact hr3
     have qJ:aA (Gw n0 B most g F (λq=>q=sb) E E w1 w3):=ak ((Gw.of HP.o S0).trans (Gw.put (HP.o.below S0) hg3 hr2.blk HL.o.t1 (by have:=HL.o.l0;have:=HL.o.l1;omega) rfl))
     have HR3:=ak adt
     clear e0 e1 e2 e3 e4 e5 e7 hr2 f6 hr3 adt hg3 S0
     go_wp2_with fail
     clear c0 c3 f3 hw3
     have e0:∀w,Uz n0 B most g F E w3 T lo sb o pa b ((y,h')::q) iy (.slice (some ⟨gb,0,none⟩) (m+1) cap) w->w.cell? ⟨sb,o,none⟩=some (ku pa):=λw hw=>by
      obtain⟨-,k2,c2,h2⟩:=hw
      exact h2.cells.1
     have e3:∀w,Uz n0 B most g F E w3 T lo sb o pa b ((y,h')::q) iy (.slice (some ⟨gb,0,none⟩) (m+1) cap) w->w.cell? ⟨sb,o+3,none⟩=some (vI iy):=λw hw=>by
      obtain⟨-,k2,c2,h2⟩:=hw
      exact h2.cells.2.2.2.1
     refine aU (Uz n0 B most g F E w3 T lo sb o pa b ((y,h')::q) iy (.slice (some ⟨gb,0,none⟩) (m+1) cap)) ?_
     obtain⟨we,bU⟩:=ay (w3.drew)
     have S0:Gw n0 B most g F (λ_=>False) E E w3 we:=by rw[<-bU];exact Gw.of qJ.o.st (af6 _ _).drew
     have T0:Uz n0 B most g F E w3 T lo sb o pa b ((y,h')::q) iy (.slice (some ⟨gb,0,none⟩) (m+1) cap) we:=⟨S0.free,_,_,HR3.o.gw S0 HP.o.wf.wf HL.o.t1 (λq=>q) (λ_ _ q=>q)⟩
     rw[bU]
     clear bU
     refine bJ 0 1 2 3 4 6 ?_
     refine tk3 7 8 9 ?_
     refine aT 5 λK hK=>?_
     go_simp
     try with_reducible refine⟨rfl,?_⟩
     refine agq.2 ((kT ((fV.o.kp qJ.o.kp (λq=>HX.o (.inl q))).kp S0.kp (λq=>q))).mono ?_)
     rintro e wn ⟨rfl,rfl⟩
     refine hK _ _ T0 ?_
     clear hK K
     refine aT 10 λK hK=>?_
     go_simp
     try with_reducible refine⟨rfl,?_⟩
     refine agq.2 ((HKE.o _ (qJ.o.trans S0.free)).mono ?_)
     rintro e w4 ⟨rfl,bn⟩
     replace S0:=S0.trans bn
     have h3:=HR3.o.gw S0 HP.o.wf.wf HL.o.t1 (λq=>q) (λ_ _ q=>q)
     have T3:Uz n0 B most g F E w3 T lo sb o pa b ((y,h')::q) iy (.slice (some ⟨gb,0,none⟩) (m+1) cap) w4:=⟨S0.free,_,_,h3⟩
     refine hK _ _ T3 ?_
     have H3:=ak h3
     clear hK K bn T0 h3
     refine zD 11 12 13 14 15 ?_
     refine aT 16 λK hK=>?_
     go_simp
     obtain⟨-,-,-,-,c4,f6⟩:=H3.o.cells
     have f4:=f6 (o+4)
     obtain⟨w5,eH⟩:=ay (w4.setCell ⟨sb,o+4,none⟩ (.int .u64 ky))
     have h4:=H3.o.key HL.o.t2 ky
     have hg4:w4.grownBy w5 (some sb):=by rw[<-eH];exact aK _ _ _
     have hG4:=Gw.put (F:=F) (X:=λq=>q=sb) S0.st hg4 H3.o.blk HL.o.t1 (by have:=HL.o.l0;have:=HL.o.l1;omega) rfl
     have h4':iq w5 E T lo sb o pa b ((y,h')::q) iy ky ((cs.setIfInBounds (o+3) (vI iy)).setIfInBounds (o+4) (vK ky)) (.slice (some ⟨gb,0,none⟩) (m+1) cap):=by rw[<-eH];exact h4
     go_simp
     refine hK _ _ ⟨S0.free.trans hG4,_,_,h4'⟩ ?_
     have H4:=ak h4';have xZ:=ak ((qJ.o.trans S0.free).trans hG4)
     clear hK K f6 h4 h4' hg4 hG4 eH c4 f4
     refine aO ?_
     clear e0 e3 S0 T3 H3 qJ HR3
     have e2:∀w,Below w5.heap.size w5 w->w.cell? ⟨sb,o+2,none⟩=some (.slice (some ⟨gb,0,none⟩) (m+1) cap):=λw hw=>(H4.o.below hw).cells.2.2.1
     go_wp2_with fail
     refine aU (Below w5.heap.size w5) ?_
     obtain⟨we,bU⟩:=ay (w5.drew)
     have S0:Below w5.heap.size w5 we:=by rw[<-bU];exact(af6 _ _).drew
     rw[bU]
     clear bU
     have l0:(0:Int)<=(m:Int):=by omega
     have lc:(m:Int)<=(cap:Int):=by omega
     have lm:IntKind.i64.wrap (m:Int)=(m:Int):=by rw[agd];omega
     refine bJ 0 1 2 3 4 5 ?_
     refine bJ 6 7 8 9 10 11 ?_
     refine tk2 12 13 ?_
     refine aJ.cK 14 (by kernel_rfl) ?_
     simp only[agr,agj]
     have XL:iq we E T lo sb o pa b ((y,h')::q) iy ky ((cs.setIfInBounds (o+3) (vI iy)).setIfInBounds (o+4) (vK ky)) (.slice (some ⟨gb,0,none⟩) (q.length+1) cap):=by rw[HY.o.2.2.2];exact H4.o.below S0
     have hr6:=XL.pop HL.o.t2
     rw[HY.o.2.2.2]at XL hr6
     obtain⟨-,-,c2,-,-,f6⟩:=XL.cells
     have f2:=f6 (o+2)
     obtain⟨w6,dH⟩:=ay (we.setCell ⟨sb,o+2,none⟩ (.slice (some ⟨gb,0,none⟩) m cap))
     rw[dH]at hr6
     have lu:we.grownBy w6 (some sb):=by rw[<-dH];exact aK _ _ _
     have zY:aA (He n0 B most g F E w1 T lo sb o pa b cs (.slice (some ⟨gb,0,none⟩) (m+1) cap) (some (q,y)) w6):=ak (by
      refine⟨_,.slice (some ⟨gb,0,none⟩) m cap,⟨?_,λp2 x2 e=>?_⟩,((lV.set (cs:=cs) (o:=o) (j:=o+3) (by omega) (by omega) (vI iy)).trans (lV.set (o:=o) (j:=o+4) (by omega) (by omega) (vK ky))).trans (lV.set (o:=o) (j:=o+2) (by omega) (by omega) (.slice (some ⟨gb,0,none⟩) m cap)),.inl rfl,?_⟩
      .show iq w6 E T lo sb o pa b q (num E y) (key y) _ _
       rw[HY.o.2.1,HY.o.2.2.1];exact hr6
      .injection e with e
       injection e with e1 e2
       rw[<-e2];exact HY.o.1
      .exact((xZ.o.trans (Gw.of xZ.o.st S0)).trans (Gw.put (xZ.o.st.below S0) lu XL.blk HL.o.t1 (by have:=HL.o.l0;have:=HL.o.l1;omega) rfl)).mono λq' _ hq=> .inl hq)
     clear XL hr6 f6 lu S0 e2
     gi_wp2_with fail
     clear dH c2 f2
     go_wp2_with fail
     go_end0
     exact⟨rfl,zY.o⟩
def EK(p:gI):Prop:=∀f∈p,1<=f.2/\f.2<=(aZ f.1).length/\f.2<=1152921504606846976
theorem He.after{n0 B most g:Nat}{F:List Sy}{E:List En}{W w w':World}{T:TypeId}{lo sb o pa:Nat}{b:Bool}{cs cs1:Array Value}{v v1:Value}{e:Ed}(h:He n0 B most g F E w T lo sb o pa b cs1 v1 e w')(hg:Gw n0 B most g F (G_ sb v W.heap.size) E E W w)(hb:lV o cs cs1)(ho:pE W.heap.size v v1):He n0 B most g F E W T lo sb o pa b cs v e w':=by
 obtain⟨cs',v',h1,h2,h3,h4⟩:=h
 exact⟨cs',v',h1,hb.trans h2,zM ho h3 hg.below.size,hg.trans (h4.mono λq _ hq=>O8 ho hg.below.size q hq)⟩
theorem iq.have'{W:World}{E:List En}{T:TypeId}{lo sb o pa:Nat}{b:Bool}{y:Sy}{h:Nat}{q:gI}{i k:Nat}{cs:Array Value}{cap gb:Nat}(hr:iq W E T lo sb o pa b ((y,h)::q) i k cs (.slice (some ⟨gb,0,none⟩) (q.length+1) cap))(hT:T≠289)(h2:Nat):
    iq (W.setCell ⟨gb,q.length*8+7,none⟩ (vI h2)) E T lo sb o pa b ((y,h2)::q) i k cs (.slice (some ⟨gb,0,none⟩) (q.length+1) cap):=by
 have hne:gb≠sb:=hr.ne hT rfl
 have hp:=hr.path
 unfold G9 at hp
 have hl:((y,h)::q).reverse.length=q.length+1:=by simp
 have hs:=aP.setAt (tY E) hp (i:=q.length) (j:=7) (by rw[hl];omega) (by omega) (x':=(y,h2)) (u:=vI h2) (by
  have e2:((y,h)::q).reverse[q.length]'(by rw[hl];omega)=(y,h):=by
   simp only[ah3]
   rw[ah_ (by simp)]
   simp
  rw[e2];rfl)
 have e3:((y,h)::q).reverse.set q.length (y,h2)=((y,h2)::q).reverse:=by
  rw[ah3,ah3,aiY _ _ (by simp)]
  simp
 rw[e3]at hs
 exact⟨by rw[agU _ _ _ _ (by exact λe=>hne e.symm)];exact hr.blk,hr.c0,hr.c1,hr.c2,hr.c3,hr.c4,hs,λf hf=>by
  rcases agm.1 hf with rfl|hf
  .exact hr.mem (y,h) (by simp)
  .exact hr.mem f (agK _ hf)⟩
theorem Cq{b:Bool}{n t:Nat}{y:Sy}{h:Nat}{p:gI}:bE b n t ((y,h)::p)=if t<h then some (bD b n ((y,h-t)::p) (AA b y (h-t)))else bE b n 1 p:=by
 conv=>lhs;unfold bE
theorem gZ{n0 B most g:Nat}{F:List Sy}{E:List En}{W:World}(h:gV n0 B most g F E W){T:TypeId}{lo sb o pa:Nat}{b:Bool}{n t:Nat}{p:gI}{x:Sy}{cs:Array Value}{v:Value}(hl:EdL n0 lo sb T)(hp:iW W pa B g)(he:J6 W E T lo sb o pa b (some (p,x)) cs v)(hok:EK p)(ht:∀y h q,p=(y,h)::q->t<=h)(hlen:∀y h q,p=(y,h)::q->p.length+aQ y<=1000000)(hmax:∀f∈p,aQ f.1+p.length<=1000000):
    Calls Tryz.prog 210 #[.pointer (some ⟨sb,o,none⟩),vI t,vI n] W λr w'=>r=.returned (.tuple #[])/\He n0 B most g F E W T lo sb o pa b cs v (bE b n t p) w':=by
 have HF:∀f,Fence.wide.fn f:=λ_=>trivial
 have HP:=ak h;have fV:=ak hp;have HL:=ak hl;have HM:=ak hmax
 have hr:iq W E T lo sb o pa b p (num E x) (key x) cs v:=he.r
 have HX:=ak (hr.pa hl hp)
 obtain⟨-,-,-,c3,c4,f6⟩:=hr.cells
 have f3:=f6 (o+3);have f4:=f6 (o+4)
 have h1:=hr.id hl.t2 0
 have h2:=h1.key hl.t2 0
 obtain⟨w1,hw1⟩:=ay ((W.setCell ⟨sb,o+3,none⟩ (.int .i64 0)).setCell ⟨sb,o+4,none⟩ (.int .u64 0))
 have hg1:W.grownBy w1 (some sb):=by rw[<-hw1];exact aM (aK _ _ _) (aK _ ⟨sb,o+4,none⟩ _)
 have hgw1:Gw n0 B most g F (G_ sb v W.heap.size) E E W w1:=Gw.put h hg1 hr.blk hl.t1 (by have:=hl.l0;have:=hl.l1;omega) (.inl rfl)
 have h2':iq w1 E T lo sb o pa b p 0 0 ((cs.setIfInBounds (o+3) (vI 0)).setIfInBounds (o+4) (vK 0)) v:=by rw[<-hw1];exact h2
 have HB1:aA (lV o cs ((cs.setIfInBounds (o+3) (vI 0)).setIfInBounds (o+4) (vK 0))):=ak ((lV.set (cs:=cs) (o:=o) (j:=o+3) (by omega) (by omega) (vI 0)).trans (lV.set (o:=o) (j:=o+4) (by omega) (by omega) (vK 0)))
 have HG1:=ak hgw1;have HR1:=ak h2'
 have mF:=ak (And.intro hok ht)
 have uq:aA (p.length<=1000000):=ak (by
  cases p with
  |nil=>exact agb _
  |cons f q=>have:=hlen f.1 f.2 q rfl;omega)
 have gW:=ak h.wf.wf
 obtain⟨a0,m0,cap0,hv⟩:∃a m c,v=.slice a m c:=by obtain⟨a,c,e⟩:=hr.path.len;exact⟨_,_,_,e⟩
 obtain⟨-,-,d2,-,-,-⟩:=h2'.cells
 have hvl:(m0:Nat)=p.length:=by
  obtain⟨a,c,e⟩:=hr.path.len
  rw[hv]at e
  simp only[agn,ajw]at e
  exact e.2.1
 rw[hv]at d2
 have HV:=ak (And.intro hv hvl)
 clear h hp he hok ht hlen hmax hr h1 h2 h2' hg1 hgw1 f6 hl hv hvl
 go_enter Tryz.func210,Tryz.ntmps210
 go_wp2_with fail
 clear hw1 c3 c4 f3 f4 d2
 go_loopw [1,6] (λtv nv wr=>∃(p':gI) (t':Nat) (cs':Array Value) (v':Value) (m:Nat),nv=.int .i64 m/\tv=.int .i64 t'/\m=p'.length/\m<=1000000/\iq wr E T lo sb o pa b p' 0 0 cs' v'/\bE b n t' p'=bE b n t p/\Gw n0 B most g F (G_ sb v W.heap.size) E E W wr/\lV o cs cs'/\pE W.heap.size v v'/\EK p'/\(∀y h q,p'=(y,h)::q->t'<=h)/\∀f∈p',aQ f.1+p'.length<=1000000) (λ_ nv _=>(intOf nv).toNat)
 case atStart=>
  exact⟨p,t,_,v,m0,rfl,rfl,HV.o.2,by rw[HV.o.2];exact uq.o,HR1.o,rfl,HG1.o,HB1.o,vB _ _,mF.o.1,mF.o.2,HM.o⟩
 case round=>
  obtain⟨p',t',cs',v',m,rfl,rfl,hm,hmb,hr,hd,hg,hb,ho,hok,ht,hmx⟩:=hrel
  cases p' with
  |nil=>
   obtain rfl:m=0:=hm
   have hdn:bE b n t p=none:=hd.symm
   have HR:aA (He n0 B most g F E W T lo sb o pa b cs v (bE b n t p) wr):=ak (by
    rw[hdn]
    exact⟨cs',v',⟨hr,λ_ _ e=>by cases e⟩,hb,ho,hg⟩)
   clear hmb hr hd hg hb ho hok ht hmx hdn
   go_wp2_with fail
   go_end0
   exact⟨rfl,HR.o⟩
  |cons f q=>
   obtain⟨y,h⟩:=f
   obtain⟨gb,cap,rfl,-,hc1,hc2,-⟩:=hr.top
   obtain⟨o1,o2,o3⟩:1<=h/\h<=(aZ y).length/\h<=1152921504606846976:=hok (y,h) (by simp)
   have hth:=ht y h q rfl
   have hsb:=hr.ne HL.o.t2 (q:=gb) rfl
   obtain⟨h2,KX⟩:=ay (h-t')
   have hr2:=hr.have' HL.o.t2 h2
   obtain⟨mq,vC⟩:=ay (q.length)
   obtain rfl:m=mq+1:=by rw[hm,agc,vC]
   rw[vC]at hr2
   obtain⟨-,-,d2,-,-,-⟩:=hr.cells
   have c7:=hr.jo.2.2.2.2.2.2.2.1
   have f7:=hr.jo.2.2.2.2.2.2.2.2 (q.length*8+7)
   rw[vC]at c7 f7 d2
   obtain⟨w2,hw2⟩:=ay (wr.setCell ⟨gb,mq*8+7,none⟩ (.int .i64 h2))
   have hr2':iq w2 E T lo sb o pa b ((y,h2)::q) 0 0 cs' (.slice (some ⟨gb,0,none⟩) (mq+1) cap):=by rw[<-hw2];exact hr2
   have hg2:wr.grownBy w2 (some gb):=by rw[<-hw2];exact aK _ _ _
   obtain⟨-,cur,jN⟩:=hr.path.blk (b:=gb) rfl
   have SG:Gw n0 B most g F (G_ sb v W.heap.size) E E W w2:=hg.trans (Gw.put hg.st hg2 jN (by decide) (by have:=HL.o.l0;have:=(hr.Ux (q:=gb) rfl).1;omega) (F7 ho rfl))
   have l1:(mq+1:Int)>0:=by omega
   have lh:IntKind.i64.wrap ((h:Int)-(t':Int))=(h2:Int):=by rw[agd];omega
   have lh':wrap64 ((h:Int)-(t':Int))=(h2:Int):=by unfold wrap64;omega
   have HR2:=ak hr2';have HG2:=ak SG;have Q0:=ak (And.intro hb ho)
   have Oy:=ak hd;have HMX:=ak hmx;have HQ:=ak (And.intro vC (And.intro KX hth))
   have Oh:aA (EK q):=ak λf hf=>hok f (agK _ hf)
   have e7:w2.cell? ⟨gb,mq*8+7,none⟩=some (.int .i64 h2):=by rw[<-vC]at hr2'⊢;exact hr2'.jo.2.2.2.2.2.2.2.1
   have hmb2:mq<=1000000:=by omega
   have hcc:mq+1<=cap/\cap<=9223372036854775807:=by unfold maxLen at hc2;omega
   have hcc1:=hcc.1;have hcc2:=hcc.2
   by_cases hz:0<h2
   .have l2:(h2:Int)>0:=by omega
    have hok1:1<=h2/\h2<=(aZ y).length:=by omega
    have hg:=AB (b:=b) (y:=y) (h:=h2) (by omega) hok1.2
    have hmk:AA b y h2∈aZ y:=qp.1 (agE hg)
    have hym:=(hr.mem (y,h) (by simp))
    have hcm:=pz gW.o hym.1 hmk
    have hco:=wS hym.2 hmk
    have hcl:=jQ hmk
    obtain⟨c,hc⟩:=ay (AA b y h2)
    obtain⟨nc,hnc⟩:=ay (num E (AA b y h2))
    obtain⟨f,pW⟩:=ay (frF E y h2)
    have HCH:aA (∀w,Calls Tryz.prog 177 #[.agg #[.int .i64 f.i,.int .i64 f.kd,.int .u8 f.lt,.int .i64 f.l,.int .i64 f.r,.int .i64 f.tm,.int .i64 f.lv,.int .i64 f.h],.bool b] w λe w'=>e=.returned (vI nc)/\Below w.heap.size w w'):=ak λw=>by
     rw[<-pW,<-hnc]
     exact EH (W:=w) E (y:=y) (h:=h2) b hok1.1 hok1.2
    have VV:∀w,Below w2.heap.size w2 w->iq w E T lo sb o pa b ((y,h2)::q) 0 0 cs' (.slice (some ⟨gb,0,none⟩) (q.length+1) cap):=λw hw=>by rw[vC];exact hr2'.below hw
    have g0:∀w,Below w2.heap.size w2 w->w.cell? ⟨gb,mq*8,none⟩=some (.int .i64 f.i):=λw hw=>by rw[<-pW,<-vC];exact(VV w hw).jo.1
    have g1:∀w,Below w2.heap.size w2 w->w.cell? ⟨gb,mq*8+1,none⟩=some (.int .i64 f.kd):=λw hw=>by rw[<-pW,<-vC];exact(VV w hw).jo.2.1
    have g2:∀w,Below w2.heap.size w2 w->w.cell? ⟨gb,mq*8+2,none⟩=some (.int .u8 f.lt):=λw hw=>by rw[<-pW,<-vC];exact(VV w hw).jo.2.2.1
    have g3:∀w,Below w2.heap.size w2 w->w.cell? ⟨gb,mq*8+3,none⟩=some (.int .i64 f.l):=λw hw=>by rw[<-pW,<-vC];exact(VV w hw).jo.2.2.2.1
    have g4:∀w,Below w2.heap.size w2 w->w.cell? ⟨gb,mq*8+4,none⟩=some (.int .i64 f.r):=λw hw=>by rw[<-pW,<-vC];exact(VV w hw).jo.2.2.2.2.1
    have g5:∀w,Below w2.heap.size w2 w->w.cell? ⟨gb,mq*8+5,none⟩=some (.int .i64 f.tm):=λw hw=>by rw[<-pW,<-vC];exact(VV w hw).jo.2.2.2.2.2.1
    have g6:∀w,Below w2.heap.size w2 w->w.cell? ⟨gb,mq*8+6,none⟩=some (.int .i64 f.lv):=λw hw=>by rw[<-pW,<-vC];exact(VV w hw).jo.2.2.2.2.2.2.1
    have g7:∀w,Below w2.heap.size w2 w->w.cell? ⟨gb,mq*8+7,none⟩=some (.int .i64 f.h):=λw hw=>by rw[<-pW,<-vC];exact(VV w hw).jo.2.2.2.2.2.2.2.1
    have e1:∀w,Below w2.heap.size w2 w->w.cell? ⟨sb,o+1,none⟩=some (.bool b):=λw hw=>(HR2.o.below hw).cells.2.1
    have HC:=ak (And.intro hnc (And.intro hcm (And.intro hco hcl)))
    have P_:=ak hz
    have HFH:aA (h2=f.h):=ak (by rw[<-pW])
    clear hr hd hg hb ho hok ht hmx hr2 hr2' hg2 SG jN VV pW hnc hc hcm hco hcl hym hmk hok1 hz o1 o2 o3 hth hcc hm hmb hc1 hc2 hsb vC KX
    go_wp2_with fail
    clear hw2 d2 c7 f7 lh lh' e7 l1 l2
    refine aU (Below w2.heap.size w2) ?_
    obtain⟨we,bU⟩:=ay (w2.drew)
    have S0:Below w2.heap.size w2 we:=by rw[<-bU];exact(af6 _ _).drew
    rw[bU]
    clear bU
    refine bJ 0 1 2 3 4 5 ?_
    refine tk2 6 7 ?_
    refine aT 8 λK hK=>?_
    go_simp
    try with_reducible refine⟨rfl,?_⟩
    refine agq.2 ((HCH.o _).mono ?_)
    rintro e w3 ⟨rfl,bn⟩
    replace S0:=Below.after S0 bn
    refine hK _ _ S0 ?_
    clear hK K bn
    refine tk2 9 10 ?_
    refine aJ.cK 11 (by kernel_rfl) ?_
    simp only[agr,agj]
    clear e1 g0 g1 g2 g3 g4 g5 g6 g7 HCH
    have F9:=HR2.o.below S0
    obtain⟨-,-,-,c3,-,f6⟩:=F9.cells
    have f3:=f6 (o+3)
    have Jg:=F9.id HL.o.t2 nc
    obtain⟨w4,hw4⟩:=ay (w3.setCell ⟨sb,o+3,none⟩ (vI nc))
    rw[hw4]at Jg
    have lu:w3.grownBy w4 (some sb):=by rw[<-hw4];exact aK _ _ _
    have hG4:Gw n0 B most g F (G_ sb v W.heap.size) E E W w4:=(HG2.o.trans (Gw.of HG2.o.st S0)).trans (Gw.put (HG2.o.st.below S0) lu F9.blk HL.o.t1 (by have:=HL.o.l0;have:=HL.o.l1;omega) (.inl rfl))
    rw[<-HC.o.1]at Jg
    have Qe:=ak ((Jf hG4.st HL.o (fV.o.kp hG4.kp HX.o) (n:=n) Jg HC.o.2.1 HC.o.2.2.1 (by
     have q1:aQ y+((y,h)::q).length<=1000000:=HMX.o (y,h) (by simp)
     have q2:=HC.o.2.2.2
     rw[agc]at q1
     show q.length+1+_<=_
     omega)).mono (R':=λe w'=>e=.returned (.tuple #[])/\He n0 B most g F E W T lo sb o pa b cs v (bE b n t p) w') (by
     rintro e w' ⟨rfl,hE⟩
     refine⟨rfl,?_⟩
     rw[<-Oy.o,Cq,af5 (by have:=HQ.o;have:=P_.o;omega),HQ.o.2.1]
     exact hE.after hG4 (Q0.o.1.trans (lV.set (by omega) (by omega) _)) Q0.o.2))
    clear F9 f6 Jg lu hG4 S0
    gi_wp2_with fail
    clear hw4 c3 f3
    go_wp2_with fail
    refine Qe.o.mono ?_
    rintro e w5 ⟨rfl,hE⟩
    have HE:=ak hE
    clear hE Qe
    go_wp2_with fail
    exact af_ (v:=.tuple #[]) (by simp[results,Tryz.results210,go_sem]) rfl ⟨rfl,HE.o⟩
   .have l2:¬(h2:Int)>0:=by omega
    have hr9:iq w2 E T lo sb o pa b ((y,h2)::q) 0 0 cs' (.slice (some ⟨gb,0,none⟩) (q.length+1) cap):=by rw[vC];exact hr2'
    have hr3:=hr9.pop HL.o.t2
    rw[vC]at hr3
    obtain⟨-,-,AR,-,-,f6⟩:=hr2'.cells
    have f2:=f6 (o+2)
    obtain⟨w3,hw3⟩:=ay (w2.setCell ⟨sb,o+2,none⟩ (.slice (some ⟨gb,0,none⟩) mq cap))
    rw[hw3]at hr3
    have hg3:w2.grownBy w3 (some sb):=by rw[<-hw3];exact aK _ _ _
    have qJ:aA (Gw n0 B most g F (G_ sb v W.heap.size) E E W w3):=ak (SG.trans (Gw.put SG.st hg3 hr2'.blk HL.o.t1 (by have:=HL.o.l0;have:=HL.o.l1;omega) (.inl rfl)))
    have HR3:=ak hr3
    obtain⟨-,-,d3,-,-,-⟩:=hr3.cells
    have HD3:aA (bE b n 1 q=bE b n t p):=ak (by rw[<-hd,Cq,af4 (by omega)])
    have HO3:aA (pE W.heap.size v (.slice (some ⟨gb,0,none⟩) mq cap)):=ak ho
    have l3:(mq:Int)<=(cap:Int):=by omega
    clear hr hd hg hb ho hok ht hmx hr2 hr2' hg2 SG jN hz o1 o2 o3 hth hcc hm hmb hc1 hc2 hsb vC KX hr9 hr3 f6 hg3
    go_wp2_with fail
    go_roundw
    case rel=>
     exact⟨q,1,_,_,mq,rfl,rfl,HQ.o.1.symm,hmb2,HR3.o,HD3.o,qJ.o,Q0.o.1.trans (lV.set (by omega) (by omega) _),HO3.o,Oh.o,λy' h' q' e=>(Oh.o (y',h') (by rw[e];simp)).1,λf hf=>by have:=HMX.o f (agK _ hf);rw[agc]at this;omega⟩
    case measure=>simp[intOf]
def O_(W:World)(g:Nat)(a:Value)(b:Bool)(v:Value)(i k:Nat):Prop:=W.heap[g]?=some (.cells #[a,.bool b,v,vI i,vK k] 247 (0,0))
theorem O_.all{W:World}{g:Nat}{a:Value}{b:Bool}{v:Value}{i k:Nat}(h:O_ W g a b v i k):W.cell? ⟨g,0,none⟩=some a/\W.cell? ⟨g,1,none⟩=some (.bool b)/\W.cell? ⟨g,2,none⟩=some v/\W.cell? ⟨g,3,none⟩=some (vI i)/\W.cell? ⟨g,4,none⟩=some (vK k)/\∀j,W.frozen? ⟨g,j,none⟩=false:=by
 unfold O_ at h
 simp[World.cell?,World.frozen?,h]
abbrev adu(W:World)(g:Nat)(a:Value)(b:Bool)(v:Value)(i k:Nat):World:=((((W.setCell ⟨g,0,none⟩ a).setCell ⟨g,1,none⟩ (.bool b)).setCell ⟨g,2,none⟩ v).setCell ⟨g,3,none⟩ (vI i)).setCell ⟨g,4,none⟩ (vK k)
theorem O_.set{W:World}{g:Nat}{a0:Value}{b0:Bool}{v0:Value}{i0 k0:Nat}(h:O_ W g a0 b0 v0 i0 k0)(a:Value)(b:Bool)(v:Value)(i k:Nat):O_ (adu W g a b v i k) g a b v i k:=by
 have q:=aC (i:=4) (vK k) (aC (i:=3) (vI i) (aC (i:=2) v (aC (i:=1) (.bool b) (aC (i:=0) a h))))
 simp only[agx,agu,agv]at q
 exact q
theorem Cr(W:World)(g:Nat)(a:Value)(b:Bool)(v:Value)(i k:Nat):W.grownBy (adu W g a b v i k) (some g):=
 aM (aK _ ⟨g,0,none⟩ _) (aM (aK _ ⟨g,1,none⟩ _) (aM (aK _ ⟨g,2,none⟩ _) (aM (aK _ ⟨g,3,none⟩ _) (aK _ ⟨g,4,none⟩ _))))
theorem VW{n0 lo sb:Nat}(h:n0<=lo)(k:lo<=sb):EdL n0 lo sb 247:=⟨h,k,by decide,by decide,by decide⟩
theorem Li{n0 B most g:Nat}{F:List Sy}{E:List En}{W:World}(h:gV n0 B most g F E W){pa:Nat}(hp:iW W pa B g){y:Sy}(hy:y∈syms E)(hok:jF y){n:Nat}(hn:(aV y).length=n)(adv:aQ y<=1000000)(b:Bool):
    Calls Tryz.prog 144 #[ku pa,vI (num E y),vI n,.bool b] W λr w'=>∃v,r=.returned (.agg #[ku pa,.bool b,v,vI (num E (bD b 0 [] y).2),vK (key (bD b 0 [] y).2)])/\G9 W.heap.size w' E v (bD b 0 [] y).1/\(∀f∈(bD b 0 [] y).1,f.1∈syms E/\jF f.1)/\(bD b 0 [] y).2∈syms E/\jF (bD b 0 [] y).2/\Gw n0 B most g F (λq=>W.heap.size<=q) E E W w':=by
 have HP:=ak h;have fV:=ak hp;have HY:=ak (And.intro hy (And.intro hok adv))
 have hn1:0<n:=by rw[<-hn];exact gY hok
 obtain⟨i,hi⟩:=ay (num E y)
 obtain⟨w1,hw1⟩:=ay (W.alloc (.cells #[.pointer none,.bool false,.slice none 0 0,.int .i64 0,.int .u64 0] 247))
 have k1:O_ w1 W.heap.size (.pointer none) false (.slice none 0 0) 0 0:=by rw[<-hw1];exact aD _ _
 have b1:Below W.heap.size W w1:=by rw[<-hw1];exact(af6 _ _).alloc (af7 _) _
 have s1:w1.heap.size=W.heap.size+1:=by rw[<-hw1,ag1]
 obtain⟨wz,hwz⟩:=ay (w1.alloc (.cells #[.pointer none,.bool false,.slice none 0 0,.int .i64 0,.int .u64 0] 247))
 have kz:O_ wz (W.heap.size+1) (.pointer none) false (.slice none 0 0) 0 0:=by rw[<-hwz,<-s1];exact aD _ _
 have bz:Below w1.heap.size w1 wz:=by rw[<-hwz];exact(af6 _ _).alloc (af7 _) _
 obtain⟨w2,hw2⟩:=ay (((((wz.setCell ⟨W.heap.size+1,0,none⟩ (ku pa)).setCell ⟨W.heap.size+1,1,none⟩ (.bool b)).setCell ⟨W.heap.size+1,2,none⟩ (.slice none 0 0)).setCell ⟨W.heap.size+1,3,none⟩ (.int .i64 0)).setCell ⟨W.heap.size+1,4,none⟩ (.int .u64 0))
 have k2:O_ w2 (W.heap.size+1) (ku pa) b (.slice none 0 0) 0 0:=by rw[<-hw2];exact kz.set (ku pa) b (.slice none 0 0) 0 0
 have b2:Below w1.heap.size w1 w2:=by rw[<-hw2];exact bz.grown (Cr wz (W.heap.size+1) (ku pa) b (.slice none 0 0) 0 0) bz.size (λk e=>by cases e;omega)
 obtain⟨z0,z1,z2,z3,z4,z6⟩:=kz.all
 have Jh:=z6 0;have Ji:=z6 1;have GY:=z6 2;have Jj:=z6 3;have fz4:=z6 4
 obtain⟨w3,hw3⟩:=ay (w2.setCell ⟨W.heap.size+1,3,none⟩ (.int .i64 i))
 have k3:O_ w3 (W.heap.size+1) (ku pa) b (.slice none 0 0) i 0:=by
  rw[<-hw3]
  have q:=aC (i:=3) (vI i) k2
  simp only[agx,agu,agv]at q
  exact q
 have b3:Below w1.heap.size w1 w3:=by rw[<-hw3];exact b2.setCell (p:=⟨W.heap.size+1,3,none⟩) (by rw[s1];exact af7 _) _
 obtain⟨-,-,-,y3,-,y6⟩:=k2.all
 have fy3:=y6 3
 have HB3:aA (Below W.heap.size W w3):=ak (Below.after b1 b3)
 have wN:aA (O_ w3 W.heap.size (.pointer none) false (.slice none 0 0) 0 0):=ak (au b3 k1)
 have qH:=ak k3
 have hsz:(aF E i).w.len=n:=by
  obtain⟨x1,x2,x3⟩:=aS hy
  rw[<-hn,<-hi,og h.wf.wf x1 x2,x3]
 have hSZ:=rZ (h.below HB3.o) (hp.below HB3.o) (i:=i) (by rw[<-hi];exact(aS hy).2.1)
 rw[hsz]at hSZ
 have iF:=ak hSZ
 have j_:=ak s1
 have c3:=k3.all.2.2.2.1
 have HI:=ak hi
 have l1:¬(n:Int)=0:=by omega
 have l2:((n:Int)==0)=false:=agh.2 l1
 rw[hi]
 clear h hp hy hok adv hn hi k1 b1 kz bz k2 b2 k3 b3 z6 y6 hsz hSZ
 go_enter Tryz.func144,Tryz.ntmps144
 go_wp2_with fail
 clear hw1 hwz hw2 hw3 z0 z1 z2 z3 z4 Jh Ji GY Jj fz4 y3 fy3 s1 c3
 go_loopw [2] (λnv wr=>nv=.int .i64 n/\wr=w3) (λ_ _=>0)
 case atStart=>exact⟨by with_reducible rfl,by with_reducible rfl⟩
 case round=>
  obtain⟨rfl,rfl⟩:=hrel
  have c3:=qH.o.all.2.2.2.1
  go_wp2_with fail
  refine iF.o.mono ?_
  rintro e w4 ⟨rfl,hb4⟩
  have cB:=ak hb4
  have hk4:=au hb4 qH.o
  have hr:iq w4 E 247 W.heap.size (W.heap.size+1) 0 pa b [] (num E y) 0 #[ku pa,.bool b,.slice none 0 0,vI i,vK 0] (.slice none 0 0):=⟨hk4,rfl,rfl,rfl,by rw[HI.o];rfl,rfl,aP.nil _ _ _ _ _,λf hf=>by cases hf⟩
  have xZ:aA (Gw n0 B most g F (λq=>W.heap.size<=q) E E W w4):=ak (Gw.of HP.o (Below.after HB3.o hb4))
  have Qe:=ak (Jf (n:=0) xZ.o.st (VW HP.o.lt (by omega)) (fV.o.below (Below.after HB3.o hb4)) hr HY.o.1 HY.o.2.1 (by have:=HY.o.2.2;simp;exact this))
  have hk1:=au hb4 wN.o
  have aay:=ak hk1
  clear hb4 hk4 hr hk1 c3
  have l4:¬(n:Int)<(n:Int):=by omega
  go_wp2_with fail
  refine Qe.o.mono ?_
  rintro e w5 ⟨rfl,cs',v',he,hbt,ho,hg5⟩
  have hk1:=hg5.kp.cells 247 (by decide) W.heap.size (by
   have:=(aga.1 aay.o).1
   rintro(q|q|q)
   .omega
   .cases q
   .omega) _ _ aay.o
  have aaz:O_ w5 W.heap.size (.pointer none) false (.slice none 0 0) 0 0:=hk1
  obtain⟨d0,d1,d2,d3,d4,-⟩:=he.r.cells
  replace d0:w5.cell? ⟨W.heap.size+1,0,none⟩=some (ku pa):=d0
  replace d1:w5.cell? ⟨W.heap.size+1,1,none⟩=some (.bool b):=d1
  replace d2:w5.cell? ⟨W.heap.size+1,2,none⟩=some v':=d2
  obtain⟨i5,hi5⟩:=ay (num E (bD b 0 [] y).2)
  obtain⟨k5,hk5⟩:=ay (key (bD b 0 [] y).2)
  replace d3:w5.cell? ⟨W.heap.size+1,3,none⟩=some (.int .i64 i5):=by rw[<-hi5];exact d3
  replace d4:w5.cell? ⟨W.heap.size+1,4,none⟩=some (.int .u64 k5):=by rw[<-hk5];exact d4
  obtain⟨a5,m5,c5,hv5⟩:∃a m c,v'=.slice a m c:=by obtain⟨a,c,e⟩:=he.r.path.len;exact⟨_,_,_,e⟩
  obtain⟨z0,z1,z2,z3,z4,z6⟩:=aaz.all
  have Jh:=z6 0;have Ji:=z6 1;have GY:=z6 2;have Jj:=z6 3;have fz4:=z6 4
  rw[hv5]at d2
  obtain⟨w6,dH⟩:=ay (((((w5.setCell ⟨W.heap.size,0,none⟩ (ku pa)).setCell ⟨W.heap.size,1,none⟩ (.bool b)).setCell ⟨W.heap.size,2,none⟩ (.slice a5 m5 c5)).setCell ⟨W.heap.size,3,none⟩ (.int .i64 i5)).setCell ⟨W.heap.size,4,none⟩ (.int .u64 k5))
  have k6:O_ w6 W.heap.size (ku pa) b (.slice a5 m5 c5) i5 k5:=by rw[<-dH];exact aaz.set (ku pa) b (.slice a5 m5 c5) i5 k5
  have lu:w5.grownBy w6 (some W.heap.size):=by rw[<-dH];exact Cr w5 W.heap.size (ku pa) b (.slice a5 m5 c5) i5 k5
  have Sj:=ak k6
  have hown:∀q,v'.ownBlock=some q->q≠W.heap.size:=λq hq=>by
   rcases ho with e|⟨r,e,hr⟩
   .rw[e]at hq;cases hq
   .rw[hq]at e
    cases e
    have:=cB.o.size;have:=j_.o;have:=HB3.o.size
    have:W.heap.size+1<w4.heap.size:=by
     have:=(aga.1 aay.o).1
     have:=he.r.lt
     have h3:=(aga.1 qH.o).1
     omega
    omega
  have HR:aA (G9 W.heap.size w6 E (.slice a5 m5 c5) (bD b 0 [] y).1/\(∀f∈(bD b 0 [] y).1,f.1∈syms E/\jF f.1)/\(bD b 0 [] y).2∈syms E/\jF (bD b 0 [] y).2/\Gw n0 B most g F (λq=>W.heap.size<=q) E E W w6):=ak (by
   have hs:=he.sym _ _ rfl
   refine⟨by rw[<-hv5];exact he.r.path.grown lu (by
    cases hq:v'.ownBlock with
    |none=>exact .inl rfl
    |some q=>exact .inr (λe=>hown q hq (agQ e))),he.r.mem,hs.1,hs.2,?_⟩
   refine(xZ.o.trans (hg5.mono λq _ hq=>?_)).trans (Gw.put hg5.st lu hk1 (by decide) HP.o.lt (af7 _))
   have:=cB.o.size;have:=HB3.o.size
   rcases hq with hq|hq|hq
   .omega
   .cases hq
   .omega)
  have Hf:=ak (And.intro hi5 hk5)
  clear hk1 aaz z6 hown he hbt ho hg5 k6 lu hv5 hi5 hk5
  go_wp2_with fail
  obtain⟨x0,x1,x2,x3,x4,-⟩:=Sj.o.all
  refine af_ (v:=.agg #[ku pa,.bool b,.slice a5 m5 c5,.int .i64 i5,.int .u64 k5]) (by simp[results,Tryz.results144,go_sem,x0,x1,x2,x3,x4]) rfl ?_
  exact⟨.slice a5 m5 c5,by rw[Hf.o.1,Hf.o.2],HR.o⟩
end M
end
end Go.Proofs.YtgbhohfabhilgaaGreatDoor
