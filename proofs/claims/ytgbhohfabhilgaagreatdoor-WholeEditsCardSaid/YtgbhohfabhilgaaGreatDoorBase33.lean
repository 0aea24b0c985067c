import Derived.Test.YtgbhohfabhilgaaGreatDoorBase32
set_option maxRecDepth 100000
set_option maxHeartbeats 8000000
set_option linter.unusedVariables false
set_option linter.unusedSimpArgs false
namespace Go.Proofs.YtgbhohfabhilgaaGreatDoor
section
open Go.RowKit Go.Lib
namespace M
attribute [local go_sem] Oper.semAt_some
structure jO(n0:Nat)(W:World)(B g pa mb kb:Nat)(E:List En):Prop where
 st:aW n0 W B 1048576 E
 wf:iE E
 kt:jV n0 W g B E
 mem:∃K,bT n0 W mb pa kb B g E K
abbrev dkV(B mb:Nat):Value:=.agg #[.pointer (some ⟨B,0,none⟩),.pointer (some ⟨mb,0,none⟩)]
section
variable {n0 B g pa mb kb:Nat} {E:List En} {W:World}
theorem jO.kt'{E2:List En}{w:World}(h:jO n0 W B g pa mb kb E)(hs:aW n0 w B 1048576 E2)(hwf:iE E2)(hx:Ext E E2)(hk:Kt B W w)(hb:Below n0 W w):jO n0 w B g pa mb kb E2:=by
 obtain⟨K,hm⟩:=h.mem
 exact⟨hs,hwf,(h.kt.kt hk hb).ext hx,K,hm.kt hx hk⟩
theorem jO.below{w:World}(h:jO n0 W B g pa mb kb E)(hb:Below W.heap.size W w):jO n0 w B g pa mb kb E:=h.kt' (h.st.below hb) h.wf (Ext.refl _) (Kt.of hb) (hb.mono h.st.lt)
theorem jO.pst{F:List Sy}(h:jO n0 W B g pa mb kb E)(hF:∀y∈syms E,y∈F)(hl:F.length<1048576)(ht:∀y∈F,(aV y).length<=1152921504606846976):gV n0 B 1048576 g F E W:=⟨h.st,h.wf,h.kt,hF,hl,af7 _,ht⟩
end
theorem T_(W:World)(B:Nat):Calls Tryz.prog 15 #[.pointer (some ⟨B,0,none⟩)] W λe w'=>e=.returned (.pointer (some ⟨W.heap.size,0,none⟩))/\n_ w' W.heap.size B (.slice none 0 0)/\Below W.heap.size W w':=by
 obtain⟨w1,hw1⟩:=ay (W.alloc (.cells #[.pointer (some ⟨B,0,none⟩),.slice none 0 0] 127));have hk:n_ w1 W.heap.size B (.slice none 0 0):=by rw[<-hw1];exact aD _ _
 have hb:Below W.heap.size W w1:=by rw[<-hw1];exact(af6 _ _).alloc (af7 _) _
 have HR:=ak (And.intro hk hb);clear hk hb;go_enter Tryz.func15,Tryz.ntmps15;go_wp2_with fail
 exact af_ (v:=.pointer (some ⟨W.heap.size,0,none⟩)) (by simp[results,Tryz.results15,go_sem]) rfl ⟨rfl,HR.o⟩
theorem Ua(W:World)(B:Nat):Calls Tryz.prog 67 #[.pointer (some ⟨B,0,none⟩)] W λe w'=>∃p g,e=.returned (.pointer (some ⟨p,0,none⟩))/\iW w' p B g/\n_ w' g B (.slice none 0 0)/\W.heap.size<=p/\W.heap.size<=g/\Below W.heap.size W w':=by
 have HK:=ak (T_ W B);go_enter Tryz.func67,Tryz.ntmps67;go_wp2_with fail
 refine HK.o.mono ?_;rintro e w1 ⟨rfl,hk,hb⟩;obtain⟨p,hp⟩:=ay (w1.heap.size);obtain⟨w2,hw2⟩:=ay (w1.alloc (.cells #[.pointer (some ⟨B,0,none⟩),.pointer (some ⟨W.heap.size,0,none⟩)] 129));have b2:Below w1.heap.size w1 w2:=by rw[<-hw2];exact(af6 _ _).alloc (af7 _) _
 have HR:aA (iW w2 p B W.heap.size/\n_ w2 W.heap.size B (.slice none 0 0)/\W.heap.size<=p/\W.heap.size<=W.heap.size/\Below W.heap.size W w2):=ak ⟨by rw[<-hw2,<-hp];exact aD _ _,au b2 hk,by rw[<-hp];exact hb.size,af7 _,Below.after hb b2⟩;clear hk hb b2;go_wp2_with fail
 exact af_ (v:=.pointer (some ⟨p,0,none⟩)) (by simp[results,Tryz.results67,go_sem]) rfl ⟨p,W.heap.size,rfl,HR.o⟩
theorem Ub(W:World)(p:Nat):Calls Tryz.prog 14 #[.pointer (some ⟨p,0,none⟩)] W λe w'=>∃mb kb,e=.returned (.pointer (some ⟨mb,0,none⟩))/\w'.heap[mb]?=some (.cells #[ku p,.map (some kb)] 124 (0,0))/\IM.MapAt (λs:Nat=>vI s) w' kb []/\W.heap.size<=mb/\W.heap.size<=kb/\Below W.heap.size W w':=by
 have hmm:= @akr Tryz.prog;obtain⟨w1,hw1⟩:=ay (W.alloc (.map #[] 0));have hk:IM.MapAt (λs:Nat=>vI s) w1 W.heap.size []:=by rw[<-hw1];exact IM.MapAt.made _ W
 have hb:Below W.heap.size W w1:=by rw[<-hw1];exact(af6 _ _).alloc (af7 _) _
 obtain⟨m,hm⟩:=ay (w1.heap.size);obtain⟨w2,hw2⟩:=ay (w1.alloc (.cells #[.pointer (some ⟨p,0,none⟩),.map (some W.heap.size)] 124));have b2:Below w1.heap.size w1 w2:=by rw[<-hw2];exact(af6 _ _).alloc (af7 _) _
 have HR:aA (w2.heap[m]?=some (.cells #[ku p,.map (some W.heap.size)] 124 (0,0))/\IM.MapAt (λs:Nat=>vI s) w2 W.heap.size []/\W.heap.size<=m/\W.heap.size<=W.heap.size/\Below W.heap.size W w2):=ak ⟨by rw[<-hw2,<-hm];exact aD _ _,hk.below b2,by rw[<-hm];exact hb.size,af7 _,Below.after hb b2⟩;clear hk hb b2;go_enter Tryz.func14,Tryz.ntmps14;go_wp2_with fail
 exact af_ (v:=.pointer (some ⟨m,0,none⟩)) (by simp[results,Tryz.results14,go_sem]) rfl ⟨m,W.heap.size,rfl,HR.o⟩
def GN(l:List Nat):ByteArray:=(l.map (λn:Nat=>(n:Int))).foldl (λr n=>r.push (UInt8.ofNat n.toNat)) ByteArray.empty
theorem Ud{B:Nat}{W:World}{v:Value}{l:List Nat}(h:RN B W v l):(convert 22 9 v).run Tryz.prog W=.ok (.string (GN l)) W:=by
 rcases h.shape with⟨rfl,rfl⟩|⟨g,cap,rfl,h1,h2⟩
 .rw[akx (e:=5) W _ _ none 0 0 Tryz.underlying22 Tryz.underlying5 Tryz.underlying9];rfl
 .rw[akx (e:=5) W _ _ _ _ _ Tryz.underlying22 Tryz.underlying5 Tryz.underlying9];refine run_bytesToString W ⟨g,0,none⟩ l.length cap (l.map (λn:Nat=>(n:Int))) ?_;have:=run_loadCells_list (P:=Tryz.prog) W ⟨g,0,none⟩ (l.flatMap yS) (λj v hv=>ait h (g:=g) rfl j v hv);rw[bf lI,ag3]at this;rw[this];congr 1;have e:∀l:List Nat,l.flatMap yS=(l.map (λn:Nat=>(n:Int))).map (Value.int .u8):=by
   intro l
   induction l with
   |nil=>rfl
   |cons a l ih=>simp[yS,ih]
  rw[e]
theorem Ue(w:World)(s:ByteArray):Below w.heap.size w (bytesWorld w 5 s):=by
 refine⟨rfl,?_,?_,?_,λk hk=>bytesWorld_at_old w _ s k hk⟩
 .simp[bytesWorld,World.freeze,World.alloc,World.drew, -World.alloc_eq, -World.drew_eq]
 .simp[bytesWorld,World.freeze,World.alloc,World.drew, -World.alloc_eq, -World.drew_eq]
 .rw[bytesWorld_size];omega
theorem abl(w:World)(s:ByteArray):LY (bytesWorld w 5 s) w.heap.size 0 (jE s):=by
 refine⟨_,_,bytesWorld_at_new w _ s,λi x hi=>?_⟩
 have hil:i<s.size:=by have:=(agA.1 hi).1;rwa [aG]at this
 have hx:x=(s.data.toList.getD i 0).toNat:=by
  simp only[jE,ahg,ahx]at hi
  obtain⟨y,hy,rfl⟩:=hi
  rw[ah8,hy];rfl
 have h:=bytesWorld_cell w 5 s i hil
 have h':(bytesCells w 5 s)[i]?=some (.int .u8 (s.data.toList.getD i 0).toNat):=by simpa[World.cell?,bytesWorld_at_new]using h
 rw[ahi,h',hx]
def TxP(n0 B most:Nat)(E:List En)(W:World)(l:List Nat)(e:Ending)(w':World):Prop:=∃E' id,e=.returned (.tuple #[.int .i64 (id:Nat),.nilIface])/\aW n0 w' B most E'/\iE E'/\Ext E E'/\E'.length<=E.length+2*l.length/\fT E' id l/\(id=0↔l=[])/\Below n0 W w'/\Kt B W w'
theorem Uf{n0 B most g cap:Nat}{W:World}{E:List En}(hs:aW n0 W B most E)(hwf:iE E){l:List Nat}{m:Nat}(hm:l.length=m)(hv:LY W g 0 l)(hcap:m<=cap)(hcm:cap<=maxLen)(hl:m<=65536)(hb:∀b∈l,b<256)(Dc:E.length+2*m<=most)(hE:E.length+2*m<=1048575):
    Calls Tryz.prog 44 #[.pointer (some ⟨B,0,none⟩),.slice (some ⟨g,0,none⟩) m cap] W (TxP n0 B most E W l):=by
 have h1:¬(m:Int)>65536:=by omega
 by_cases h0:m=0
 .have h0b:((m:Int)==0)=true:=by simp[h0]
  have hln:l=[]:=ahw (hm.trans h0);have HZ:aA (TxP n0 B most E W l (.returned (.tuple #[.int .i64 0,.nilIface])) W):=ak ⟨E,0,rfl,hs,hwf,Ext.refl _,by omega,⟨agb _,by rw[cZ,hln],rfl⟩,by simp[hln],af6 _ _,Kt.of (af6 _ _)⟩;clear hs hwf hv hcap hb Dc hE h0 hm hln;go_enter Tryz.func44,Tryz.ntmps44;go_wp2_with fail
  go_ret2;exact HZ.o
 have h0b:((m:Int)==0)=false:=by simp;omega
 have HT:=ak (PQ m l hm (by omega) hs hwf hv hcap hcm (by omega) hb Dc hE);have HM:=ak (And.intro hm h0);clear hs hwf hv hcap hb Dc hE h0 hm;go_enter Tryz.func44,Tryz.ntmps44;go_wp2_with fail
 refine HT.o.mono ?_;rintro e w2 ⟨E2,i2,rfl,s2,f2,x2,n2,bl2,b2,kt2⟩;have HZ:aA (TxP n0 B most E W l (.returned (.tuple #[.int .i64 (i2:Nat),.nilIface])) w2):=ak ⟨E2,i2,rfl,s2,f2,x2,by omega,bl2.zero,by
  constructor
  .intro h;have:=bl2.pos;omega
  intro h;have h1:=HM.o.1;have h2:=HM.o.2;rw[h]at h1;simp at h1;omega,b2,kt2⟩
 clear s2 f2 x2 n2 bl2 b2 kt2 HT;go_wp2_with fail
 go_ret2;exact HZ.o
theorem NR(W:World)(n:Int)(m:Nat)(hm:0<m)(hm2:m<=1000000):Calls Tryz.prog 68 #[.int .i64 n,.int .i64 m] W λe w'=>e=.returned (.int .i64 (n % (m:Int)))/\w'=W:=by
 obtain⟨t,ht⟩:=ay (n.tmod (m:Int));have hm0:¬((m:Int)=0):=by omega
 have hmb:((m:Int)==0)=false:=by simp;omega
 have hb: -(m:Int)<t/\t<(m:Int):=by
  rw[<-ht];constructor
  .have:=Int.tmod_lt_of_pos (-n) (b:=(m:Int)) (by omega);rw[Int.neg_tmod]at this;omega
  exact Int.tmod_lt_of_pos n (by omega)
 obtain⟨u,hu⟩:=ay ((t+(m:Int)).tmod (m:Int));have he:n % (m:Int)=u:=by
  have h1:t+(m:Int)*n.tdiv m=n:=by rw[<-ht];exact Int.tmod_add_mul_tdiv n m
  have h2:n % (m:Int)=t % (m:Int):=by rw[<-h1,Int.add_mul_emod_self_left]
  rw[h2,<-hu,ah0 (by omega),Int.add_emod_right]
 have hw:IntKind.i64.wrap (t+(m:Int))=t+(m:Int):=by rw[agd];omega
 rw[he];clear he;go_enter Tryz.func68,Tryz.ntmps68;go_wp2_with fail
 go_ret;exact⟨rfl,rfl⟩
def IdP(n0 B g pa mb kb:Nat)(E:List En)(W:World)(l:List Nat)(e:Ending)(w':World):Prop:=∃E' i,e=.returned (.tuple #[vI i,.bool true])/\jO n0 w' B g pa mb kb E'/\Ext E E'/\E'.length<=E.length+2*l.length/\fT E' i l/\(i=0↔l=[])/\Below n0 W w'/\Kt B W w'
section
variable {n0 B g pa mb kb:Nat} {E:List En} {W:World}
theorem L8(h:jO n0 W B g pa mb kb E)(s:ByteArray)(hs:s.size<=65536)(hE:E.length+2*s.size<=1048575):
    Calls Tryz.prog 23 #[dkV B mb,.string s] W (IdP n0 B g pa mb kb E W (jE s)):=by
 obtain⟨w1,hw1⟩:=ay (W.alloc (.cells #[.pointer (some ⟨B,0,none⟩),.pointer (some ⟨mb,0,none⟩)] 57));have k1:w1.heap[W.heap.size]?=some (.cells #[.pointer (some ⟨B,0,none⟩),.pointer (some ⟨mb,0,none⟩)] 57 (0,0)):=by rw[<-hw1];exact aD _ _
 have b1:Below W.heap.size W w1:=by rw[<-hw1];exact(af6 _ _).alloc (af7 _) _
 have c0:w1.cell? ⟨W.heap.size,0,none⟩=some (.pointer (some ⟨B,0,none⟩)):=by simp[World.cell?,k1]
 have hcv:=Lib.run_convert_string_bytes (P:=Tryz.prog) w1 9 22 5 s Tryz.underlying9 Tryz.underlying22 Tryz.underlying5;have hb2:=Ue w1 s;have hv2:=abl w1 s;have hgc:s.size<=grownCap w1 s.size 0 5:=by have:=akq w1 s.size 0 5;omega
 have hgm:grownCap w1 s.size 0 5<=maxLen:=aj4 w1 s.size 0 5 (by unfold maxLen;omega);obtain⟨w2,hw2⟩:=ay (bytesWorld w1 5 s);obtain⟨gc,afV⟩:=ay (grownCap w1 s.size 0 5);rw[hw2]at hcv hb2 hv2;rw[afV]at hcv hgc hgm;have h2:=(h.below b1).below hb2;have HB:=ak (Uf h2.st h2.wf (aG s) hv2 hgc hgm hs (EZ s) (by omega) hE);have HD:=ak (And.intro h (Below.after b1 hb2));have HL:aA ((jE s).length=s.size):=ak (aG s);obtain⟨l,hl⟩:=ay (jE s);rw[hl]at HB HL⊢;obtain⟨sz,hsz⟩:=ay (s.size);rw[hsz]at HL HB hcv hs;clear h hE k1 b1 hv2 hgc hgm afV hb2 h2 hl;go_enter Tryz.func23,Tryz.ntmps23;go_wp2_with fail
 clear c0 hcv hw1 hw2;refine HB.o.mono ?_;rintro e w3 ⟨E3,i,rfl,s3,f3,x3,n3,b3,z3,bb3,k3⟩;have HR:aA (IdP n0 B g pa mb kb E W l (.returned (.tuple #[vI i,.bool true])) w3):=ak (by
  obtain⟨hd,hb⟩:=HD.o;have hb0:Below n0 W w2:=hb.mono hd.st.lt;exact⟨E3,i,rfl,hd.kt' s3 f3 x3 ((Kt.of hb).trans k3) (hb0.trans bb3),x3,n3,b3,z3,hb0.trans bb3,(Kt.of hb).trans k3⟩)
 have HIF:aA (0<i↔0<sz):=ak (by
  rw[<-HL.o];constructor
  .intro q;rcases agP l.length with r|r
   .have:=z3.2 (ahw r);omega
   exact r
  intro q;rcases agP i with r|r
  .rw[z3.1 r]at q;exact absurd q (ahh 0)
  exact r)
 by_cases hi:i=0
 .have hsz0:sz=0:=by rw[<-HL.o,z3.1 hi];rfl
  have g1:¬(i:Int)>0:=by omega
  have g2:decide ((i:Int)>0)=false:=agD g1;have g3:¬(sz:Int)>0:=by omega
  have g4:decide ((sz:Int)>0)=false:=agD g3;clear s3 f3 x3 n3 b3 z3 bb3 k3 hi hsz0;go_wp2_with fail
  exact af_ (v:=.tuple #[vI i,.bool true]) (by simp[results,Tryz.results23,go_sem,HIF.o]) rfl HR.o
 have hsz0:0<sz:=by
  rw[<-HL.o];rcases agP l.length with q|q
  .exact absurd (z3.2 (ahw q)) hi
  exact q
 have g1:(i:Int)>0:=by omega
 have g2:decide ((i:Int)>0)=true:=agw g1;have g3:(sz:Int)>0:=by omega
 have g4:decide ((sz:Int)>0)=true:=agw g3;clear s3 f3 x3 n3 b3 z3 bb3 k3 hi hsz0;go_wp2_with fail
 exact af_ (v:=.tuple #[vI i,.bool true]) (by simp[results,Tryz.results23,go_sem,HIF.o]) rfl HR.o
theorem JK(h:jO n0 W B g pa mb kb E){i:Nat}(hi:i<=E.length)(hl:(txt E i).length<=20000)(hE:E.length<=1048576):
    Calls Tryz.prog 28 #[dkV B mb,vI i] W λe w'=>e=.returned (.tuple #[.string (GN (txt E i)),.bool true])/\Below W.heap.size W w':=by
 have HF:∀f,Fence.wide.fn f:=λ_=>trivial;obtain⟨w1,hw1⟩:=ay (W.alloc (.cells #[.pointer (some ⟨B,0,none⟩),.pointer (some ⟨mb,0,none⟩)] 57));have k1:w1.heap[W.heap.size]?=some (.cells #[.pointer (some ⟨B,0,none⟩),.pointer (some ⟨mb,0,none⟩)] 57 (0,0)):=by rw[<-hw1];exact aD _ _
 have b1:Below W.heap.size W w1:=by rw[<-hw1];exact(af6 _ _).alloc (af7 _) _
 have c0:∀w,Below w1.heap.size w1 w->w.cell? ⟨W.heap.size,0,none⟩=some (.pointer (some ⟨B,0,none⟩)):=λw hw=>by simp[World.cell?,au hw k1]
 have HC0:=ak c0;have z0:=c0 w1 (af6 _ _);have h1:=h.below b1;have HB1:=ak b1;have HW:=ak (dS h1.st hi hE);obtain⟨u,hu⟩:=ay ((aF E i).w);have EX:u.len=(txt E i).length:=by
  rw[<-hu];rcases agP i with q|q
  .subst q;rw[cZ];rfl
  rw[(h.wf.wf.get i q hi).1];rfl
 rw[hu]at HW;have HX:aA (∀w,Below w1.heap.size w1 w->Calls Tryz.prog 75 #[.pointer (some ⟨B,0,none⟩),vI i,.int .i64 0,vI u.len] w λe w'=>∃v,e=.returned (.tuple #[v,.nilIface])/\RN w.heap.size w' v (txt E i)/\Below w.heap.size w w'):=ak λw hw=>by
  have:=zX (h1.st.below hw) h.wf.wf hE hi (dG:=0) (n:=u.len) (by rw[EX];omega) (by omega);rw[agj,EX,ahe]at this;rw[EX];exact this
 have g1:¬(u.len:Int)>20000:=by omega
 have g2:decide ((u.len:Int)>20000)=false:=agD g1;generalize txt E i=t at *;clear h h1 hi hl hE k1 b1 hu EX c0;go_enter Tryz.func28,Tryz.ntmps28;go_wp2_with fail
 clear hw1 z0;refine HW.o.mono ?_;rintro e w2 ⟨rfl,b2⟩;obtain⟨wz,w3,hz,hss,k3,b3,⟨q0,q1,q2,q3,q4,q5⟩,r0,r1,r2,r3,r4,r5⟩:=kE w2 u;have HB3:=ak (Below.after b2 b3);have HK:=ak k3;have x0:=HK.o.cells.1;have z3:=HC0.o w3 HB3.o;clear b2 b3 k3;go_wp2_with fail
 clear hz hss q0 q1 q2 q3 q4 q5 r0 r1 r2 r3 r4 r5 x0 z3;refine(HX.o w3 HB3.o).mono ?_;rintro e w4 ⟨v,rfl,hv,b4⟩;have HV:=ak hv;have cB:=ak (Below.after HB3.o b4);obtain⟨va,vc,hvv⟩:=aP.len hv;obtain⟨vn,hvn⟩:=ay (t.length);rw[hvn]at hvv;subst hvv;clear hv b4 hvn;go_wp2_with fail
 have cv:∀w,Below w4.heap.size w4 w->(convert 22 9 (.slice va vn vc)).run Tryz.prog w=.ok (.string (GN t)) w:=λw hw=>Ud (HV.o.below hw);refine dD (S:=Below w4.heap.size w4) ((af6 _ _).drew) λw5 S0=>?_;refine bJ 0 1 2 3 4 5 ?_;refine aO ?_;go_wp2_with fail
 exact af_ (v:=.tuple #[.string (GN t),.bool true]) (by simp[results,Tryz.results28,go_sem]) rfl ⟨rfl,Below.after HB1.o (Below.after cB.o S0)⟩
end
variable{E:List En}{B g lo mb n0:Nat}{v:Value}{A C W:World}
theorem Fa(ht:Tab W)(hg0:0<W.heap.size):Calls Tryz.prog 22 #[] W λe w'=>∃B g pa mb kb,e=.returned (.tuple #[dkV B mb,.bool true])/\jO W.heap.size w' B g pa mb kb []/\Below W.heap.size W w':=by
 obtain⟨wz,hwz⟩:=ay (W.alloc (.cells #[.pointer none,.pointer none] 57))
 have kz:wz.heap[W.heap.size]?=some (.cells #[.pointer none,.pointer none] 57 (0,0)):=by rw[<-hwz];exact aD _ _
 have bz:Below W.heap.size W wz:=by rw[<-hwz];exact(af6 _ _).alloc (af7 _) _
 have HZ:=ak (And.intro kz bz)
 have Gg:=ak (And.intro ht hg0)
 have HS:=ak (QH wz 1048576 (by omega))
 rw[show((1048576:Nat):Int)=1048576 from rfl]at HS
 clear kz bz ht hg0
 go_enter Tryz.func22,Tryz.ntmps22
 go_wp2_with fail
 clear hwz
 refine HS.o.mono ?_
 rintro e w1 ⟨B,rfl,s1,b1⟩
 have j_:=ak s1;have HB1:=ak b1
 have HG:=ak (Ua w1 B)
 clear s1 b1
 go_wp2_with fail
 refine HG.o.mono ?_
 rintro e w2 ⟨p,g,rfl,p2,t2,lp,lg,b2⟩
 have HG2:=ak (And.intro p2 (And.intro t2 (And.intro lp (And.intro lg b2))))
 have HC:=ak (Ub w2 p)
 clear p2 t2 lp lg b2
 go_wp2_with fail
 refine HC.o.mono ?_
 rintro e w3 ⟨mb,kb,rfl,h3,m3,l3,l4,b3⟩
 have HC3:=ak (And.intro h3 (And.intro m3 (And.intro l3 (And.intro l4 b3))))
 clear h3 m3 l3 l4 b3
 have HD:aA (jO W.heap.size w3 B g p mb kb []/\Below W.heap.size W w3/\Below wz.heap.size wz w3):=ak (by
  obtain⟨kz,bz⟩:=HZ.o
  obtain⟨p2,t2,lp,lg,b2⟩:=HG2.o
  obtain⟨h3,m3,l3,l4,b3⟩:=HC3.o
  obtain⟨ht,hg0⟩:=Gg.o
  have s1:=j_.o
  have b1:=HB1.o
  have z1:=bz.size;have z2:=b1.size;have z3:=b2.size
  have st1:aW W.heap.size w1 B 1048576 []:=by
   obtain⟨lv,mm,q1,q2,q3,q4,q5⟩:=s1
   exact⟨lv,mm,q1,aP.mono q2 z1,q3,af9 z1 q4,af9 z1 q5⟩
  have st2:=st1.below b2
  have st3:=st2.below b3
  have bw:Below wz.heap.size wz w3:=Below.after (Below.after b1 b2) b3
  have bW:Below W.heap.size W w3:=Below.after bz bw
  refine⟨⟨st3,.nil,⟨⟨_,[],au b3 t2,aP.nil _ _ _ _ _,by simp,λi r h=>by simp at h⟩,by omega,ht.below bW hg0,hg0⟩,[],⟨h3,au b3 p2,m3,λq hq=>by simp at hq,?_,by omega⟩⟩,bW,bw⟩
  obtain⟨lv,mm,q1,-,q3,-⟩:=st2
  have hmm:=q3.lt
  obtain⟨lv',mm',q1',-⟩:=st3
  have q1b:=au b3 q1
  unfold yC at q1' q1b
  rw[q1']at q1b
  simp only[agG,ahY]at q1b
  refine⟨.map (some mm'),yC.Zu (lv:=lv') q1',?_⟩
  have e:mm'=mm:=by
   have:=agC Array.toList q1b.1
   simp at this
   exact this.2
  rw[e]
  intro q
  simp only[Value.map.injEq,agG]at q
  omega)
 have W9:aA (w3.heap[W.heap.size]?=some (.cells #[.pointer none,.pointer none] 57 (0,0))):=ak (au HD.o.2.2 HZ.o.1)
 have c0:w3.cell? ⟨W.heap.size,0,none⟩=some (.pointer none):=by simp[World.cell?,W9.o]
 have c1:w3.cell? ⟨W.heap.size,1,none⟩=some (.pointer none):=by simp[World.cell?,W9.o]
 have f0:w3.frozen? ⟨W.heap.size,0,none⟩=false:=by simp[World.frozen?,W9.o]
 have f1:w3.frozen? ⟨W.heap.size,1,none⟩=false:=by simp[World.frozen?,W9.o]
 obtain⟨w4,hw4⟩:=ay (((w3.setCell ⟨W.heap.size,0,none⟩ (.pointer (some ⟨B,0,none⟩))).setCell ⟨W.heap.size,1,none⟩ (.pointer (some ⟨mb,0,none⟩))))
 have k4:w4.heap[W.heap.size]?=some (.cells #[.pointer (some ⟨B,0,none⟩),.pointer (some ⟨mb,0,none⟩)] 57 (0,0)):=by
  rw[<-hw4]
  exact aC _ (aC _ W9.o)
 have g4:w3.grownBy w4 (some W.heap.size):=by rw[<-hw4];exact aM (aK _ _ _) (aK _ ⟨W.heap.size,1,none⟩ _)
 have d0:w4.cell? ⟨W.heap.size,0,none⟩=some (.pointer (some ⟨B,0,none⟩)):=by simp[World.cell?,k4]
 have d1:w4.cell? ⟨W.heap.size,1,none⟩=some (.pointer (some ⟨mb,0,none⟩)):=by simp[World.cell?,k4]
 have HR:aA (jO W.heap.size w4 B g p mb kb []/\Below W.heap.size W w4):=ak (by
  obtain⟨hd,hb,-⟩:=HD.o
  obtain⟨K,hm⟩:=hd.mem
  have ho:=jJ g4 W9.o
  have hlo:=bL g4 (af7 _) hb.size
  have hk:=Kp.ot (B:=B) (X:=λq=>q=W.heap.size) g4 W9.o (by decide) rfl
  refine⟨⟨hd.st.OG ho (by decide) (by decide),hd.wf,hd.kt.Vs ho hlo (by decide) (by decide),K,hm.kp (Ext.refl _) hk (λk hk q=>?_)⟩,hb.trans hlo⟩
  subst q
  rcases hk with rfl|rfl
  .have:=hm.blk
   rw[W9.o]at this;cases this
  .have:w3.heap[W.heap.size]?=_:=hm.par
   rw[W9.o]at this;cases this)
 clear k4 g4
 go_wp2_with fail
 exact af_ (v:=.tuple #[dkV B mb,.bool true]) (by simp[results,Tryz.results22,go_sem,d0,d1]) rfl ⟨B,g,p,mb,kb,rfl,HR.o⟩
def JL(W:World)(b:Addr)(s:zx):Prop:=W.cell? b=some (.int .i64 s.pos)/\W.cell? ⟨b.block,b.off+1,none⟩=some (.int .i64 s.n)/\W.cell? ⟨b.block,b.off+2,none⟩=some (.string s.text)
def qK(W:World)(v:Value)(S:List zx):Prop:=
 ∃a cap,v=.slice a S.length cap/\S.length<=cap/\cap<=maxLen/\(∀(i:Nat) (h:i<S.length),∃b,a=some b/\b.block<W.heap.size/\JL W (b.add (i*3)) S[i])
theorem add_block(b:Addr)(k:Nat):(b.add k).block=b.block:=by unfold Addr.add;split<;>rfl
theorem JL.keep{b:Addr}{s:zx}(h:JL A b s)(hb:C.heap[b.block]?=A.heap[b.block]?):JL C b s:=by
 obtain⟨h1,h2,h3⟩:=h;refine⟨?_,?_,?_⟩
 .unfold World.cell? at *;rw[hb];exact h1
 .unfold World.cell? at *;dsimp only at *;rw[hb];exact h2
 unfold World.cell? at *;dsimp only at *;rw[hb];exact h3
theorem qK.under{S:List zx}{n:Nat}(h:qK A v S)(hb:Below n A C)(hn:A.heap.size<=n):qK C v S:=by
 obtain⟨a,cap,rfl,h1,h2,h⟩:=h;exact⟨a,cap,rfl,h1,h2,λi hi=>(h i hi).imp λb hh=>⟨hh.1,ahm hh.2.1 hb.size,hh.2.2.keep (by rw[add_block];exact hb.block _ (ahm hh.2.1 hn))⟩⟩
theorem qK.below{S:List zx}(h:qK A v S)(hb:Below A.heap.size A C):qK C v S:=h.under hb (af7 _)
theorem jV.app{α:Type}{e:TypeId}{size:Nat}{enc:α->List Value}{l:List α}{o:Obj}(h:jV n0 A g B E)(hS:aP lo A e size enc v l)(hg:(A.alloc o).grownBy C v.ownBlock)(h1:e≠127)(h2:e≠142)(hlo:n0<=lo):jV n0 C g B E:=by
 have b1:Below A.heap.size A (A.alloc o):=(af6 _ _).alloc (af7 _) _;have k1:=h.below b1;rcases hS.2 with⟨rfl,_⟩|⟨gb,cap,cur,rfl,TU,hgb,_⟩
 .exact k1.below ((af6 _ _).grown hg (af7 _) (λk e=>by cases e))
 have hb:=au b1 hgb;exact k1.Vs (jJ hg hb) (bL hg (af9 hlo TU) k1.lt) (by simpa using λq=>h1 q.symm) (by simpa using λq=>h2 q.symm)
theorem bT.app{pa kb:Nat}{K:List (Int×Nat)}{α:Type}{e:TypeId}{size:Nat}{enc:α->List Value}{l:List α}{o:Obj}(h:bT n0 A mb pa kb B g E K)(hS:aP lo A e size enc v l)(hg:(A.alloc o).grownBy C v.ownBlock)(h1:e≠124)(h2:e≠129)(h3:e≠140):bT n0 C mb pa kb B g E K:=by
 have b1:Below A.heap.size A (A.alloc o):=(af6 _ _).alloc (af7 _) _;have k1:=h.below b1;rcases hS.2 with⟨rfl,_⟩|⟨gb,cap,cur,rfl,TU,hgb,_⟩
 .exact k1.below ((af6 _ _).grown hg (af7 _) (λk e=>by cases e))
 have hb:=au b1 hgb;refine k1.mk' (Ext.refl _) (λt _ _ k _ hk cs fz e=>aI hg e (λq=>?_)) (λv ⟨cs,fz,e1,e2⟩=>⟨cs,fz,aI hg e1 (λq=>?_),e2⟩) (λk es c e _=>aI hg e (λq=>by rw[q,hb]at e;cases e))
 .subst q;rcases hk with rfl|rfl
  .have:=k1.blk;rw[hb]at this;injection this with this;injection this with _ this _;exact h1 this
  have:(A.alloc o).heap[k]?=_:=k1.par;rw[hb]at this;injection this with this;injection this with _ this _;exact h2 this
 rw[q,hb]at e1;injection e1 with e1;injection e1 with _ e1 _;exact h3 e1
theorem jO.app{n0 g B mb pa kb lo:Nat}{E:List En}{A C:World}{α:Type}{e:TypeId}{size:Nat}{enc:α->List Value}{v:Value}{l:List α}{cs:Array Value}(h:jO n0 A B g pa mb kb E)(hS:aP lo A e size enc v l)(hg:(A.alloc (.cells cs e)).grownBy C v.ownBlock)(he:e≠127/\e≠142/\e≠124/\e≠129/\e≠140/\e≠136)(hlo:n0<=lo):jO n0 C B g pa mb kb E:=by
 obtain⟨K,hm⟩:=h.mem;exact⟨h.st.app' hS hg (λq=>he.2.2.2.2.1 q.symm) (λq=>he.2.2.2.2.2 q.symm),h.wf,h.kt.app hS hg he.1 he.2.1 hlo,K,hm.app hS hg he.2.2.1 he.2.2.2.1 he.2.2.2.2.1⟩
def D6(n0 B g pa mb kb:Nat)(E:List En)(W:World)(s:ByteArray)(S:List zx)(e:Ending)(w':World):Prop:=∃E' L v' m,e=.returned (.tuple #[v',.string m,.bool true])/\jO n0 w' B g pa mb kb E'/\Ext E E'/\E'.length<=E.length+480/\mg W.heap.size w' v' L/\E9 E' L (yg s.size S 0 0)/\jE m=UG (jE s) 0 (yg s.size S 0 0)/\Below n0 W w'/\Kt B W w'
structure PS(n0 B g pa mb kb:Nat)(E:List En)(W:World)(s:ByteArray)(S:List zx)(i f:Nat)(m:ByteArray)(pv:Value)(P:List (Nat×Nat×ByteArray))(L:List bH)(E1:List En)(wr:World):Prop where
 Am:mg W.heap.size wr pv L
 pt:Qh s.size (jE s) S i f P m
 mt:E9 E1 L P
 dk:jO n0 wr B g pa mb kb E1
 ext:Ext E E1
 few:E1.length<=E.length+40*i
 Dx:Below n0 W wr
 kt:Kt B W wr
 sz:W.heap.size<=wr.heap.size
 i12:i<=12
theorem PS.below{n0 B g pa mb kb:Nat}{E:List En}{W:World}{s:ByteArray}{S:List zx}{i f:Nat}{m:ByteArray}{pv:Value}{P:List (Nat×Nat×ByteArray)}{L:List bH}{E1:List En}{wr w:World}(h:PS n0 B g pa mb kb E W s S i f m pv P L E1 wr)(hb:Below wr.heap.size wr w):PS n0 B g pa mb kb E W s S i f m pv P L E1 w:=
 ⟨h.Am.below hb,h.pt,h.mt,h.dk.below hb,h.ext,h.few,h.Dx.trans (hb.mono h.dk.st.lt),h.kt.then (hb.mono h.sz),af9 h.sz hb.size,h.i12⟩
theorem PS.done{n0 B g pa mb kb:Nat}{E:List En}{W:World}{s:ByteArray}{S:List zx}{i f:Nat}{m sy:ByteArray}{pv:Value}{P:List (Nat×Nat×ByteArray)}{L:List bH}{E1:List En}{wr:World}(h:PS n0 B g pa mb kb E W s S i f m pv P L E1 wr)(he:S.length<=i\/12<=i\/∃hi:i<S.length,s.size<fG S[i] i f\/20<S[i].text.size)(hsy:s.extract f s.size=sy):D6 n0 B g pa mb kb E W s S (.returned (.tuple #[pv,.string (m++sy),.bool true])) wr:=by
 obtain⟨h1,h2⟩:=h.pt.done he;refine⟨E1,L,pv,m++sy,rfl,h.dk,h.ext,by have:=h.few;have:=h.i12;omega,h.Am,by rw[<-h1];exact h.mt,?_,h.Dx,h.kt⟩;rw[nJ,<-hsy,sP,<-h1,h2,agI (by rw[agp,aG];omega)]
theorem NS(z:Int){k:Nat}(hk:0<k):∃a:Nat,z % (k:Int)=(a:Int)/\a<k/\(z % (k:Int)).toNat=a:=by
 have h1:=Int.emod_nonneg z (b:=(k:Int)) (by omega);have h2:=Int.emod_lt_of_pos z (b:=(k:Int)) (by omega);exact⟨(z % (k:Int)).toNat,by omega,by omega,rfl⟩
theorem zB{pa kb:Nat}(h:jO n0 W B g pa mb kb E)(s:ByteArray)(hsz:s.size<=1000){S:List zx}(hS:qK W v S)(hout:∀(a:Addr) n c,v=.slice (some a) n c->0<n->a.block<n0\/∃cs fz,W.heap[a.block]?=some (.cells cs 146 fz))(hE:E.length+600<=1048575):
    Calls Tryz.prog 24 #[dkV B mb,.string s,v] W (D6 n0 B g pa mb kb E W s S):=by
 have HF:∀f,Fence.wide.fn f:=λ_=>trivial;obtain⟨W1,hW1⟩:=ay (W.alloc (.cells #[.pointer (some ⟨B,0,none⟩),.pointer (some ⟨mb,0,none⟩)] 57));have k1:W1.heap[W.heap.size]?=some (.cells #[.pointer (some ⟨B,0,none⟩),.pointer (some ⟨mb,0,none⟩)] 57 (0,0)):=by rw[<-hW1];exact aD _ _
 have b1:Below W.heap.size W W1:=by rw[<-hW1];exact(af6 _ _).alloc (af7 _) _
 have hgl:W.heap.size<W1.heap.size:=(aga.1 k1).1;obtain⟨gd,hgd⟩:=ay (W.heap.size);rw[hgd]at k1 hgl;have vS:aA (∀w,Kt B W1 w->w.cell? ⟨gd,0,none⟩=some (.pointer (some ⟨B,0,none⟩))/\w.cell? ⟨gd,1,none⟩=some (.pointer (some ⟨mb,0,none⟩))):=ak λw hk=>by
  have:=hk.cells _ (by decide) (by decide) _ _ _ k1;simp[World.cell?,this]
 have hJ0:PS n0 B g pa mb kb E W1 s S 0 0 ByteArray.empty (.slice none 0 0) [] [] E W1:=⟨aP.nil _ _ _ _ _,Qh.zero _ _ _,⟨rfl,λc hc=>by simp at hc,λc hc=>by simp at hc⟩,h.below b1,Ext.refl _,af7 _,af6 _ _,Kt.of (af6 _ _),af7 _,agb _⟩;have HJ0:=ak hJ0;have E_:aA (∀e w,D6 n0 B g pa mb kb E W1 s S e w->D6 n0 B g pa mb kb E W s S e w):=ak λe w ⟨E',L,v',m,q1,q2,q3,q4,q5,q6,q7,q8,q9⟩=>⟨E',L,v',m,q1,q2,q3,q4,aP.mono q5 b1.size,q6,q7,(b1.mono h.st.lt).trans q8,(Kt.of b1).trans q9⟩;have j_:=ak (hS.below b1);obtain⟨va,vc,rfl,hc1,hc2,hS'⟩:=hS;have WL:aA (∀w,Below n0 W1 w->Kt B W1 w->∀i (hi:i<S.length),∃b:Addr,va=some b/\JL w (b.add (i*3)) S[i]):=ak λw hb hk i hi=>by
  obtain⟨b,rfl,hbl,hsp⟩:=hS' i hi;refine⟨b,rfl,hsp.keep ?_⟩;rw[add_block];rcases hout b _ _ rfl (by omega)with q|⟨cs,fz,q⟩
  .rw[hb.block _ q,b1.block _ hbl]
  rw[hk.cells _ (by decide) (by decide) _ _ _ (au b1 q),q]
 have HE:=ak hE;have iF:=ak hsz;have eG:aA (n0<=W1.heap.size):=ak (af9 h.st.lt b1.size);have M_:aA (∀{E1:List En} {w:World} {x:ByteArray},jO n0 w B g pa mb kb E1->E1.length<=E.length+480->x.size<=20->Calls Tryz.prog 23 #[dkV B mb,.string x] w (IdP n0 B g pa mb kb E1 w (jE x))):=ak λhd hl hx=>L8 hd _ (by omega) (by omega);have hvc:vc<=9223372036854775807:=by unfold maxLen at hc2;omega
 clear h hS' hout hE hsz k1 b1 hgl hJ0 hc1 hc2;go_enter Tryz.func24,Tryz.ntmps24;go_wp2_with fail
 clear hW1
 try rw[hgd]
 clear hgd;go_loopw [9,10,11,12] (λpv mv fv iv wr=>∃(i f:Nat) (m:ByteArray) (P:List (Nat×Nat×ByteArray)) (L:List bH) (E1:List En),mv=.string m/\fv=.int .i64 f/\iv=.int .i64 i/\PS n0 B g pa mb kb E W1 s S i f m pv P L E1 wr) (λ_ _ _ iv _=>13-(intOf iv).toNat)
 case atStart=>exact⟨0,0,ByteArray.empty,[],[],E,rfl,rfl,rfl,HJ0.o⟩
 clear HJ0;obtain⟨i,f,m,P,L,E1,rfl,rfl,rfl,hJ⟩:=hrel;obtain⟨pa',pc',hpv⟩:=hJ.Am.len;obtain⟨ln,hln⟩:=ay (L.length);rw[hln]at hpv;subst hpv;have HJ:=ak hJ;have oG:=ak hln;have hfn:=hJ.pt.fn;have hszz:=iF.o;have hms:=hJ.pt.msz;have hi12:=hJ.i12;have hmsz:m.size<=2000:=by omega
 clear hJ hln hms;have hsl0:∀w,(Instr.slice 9 (.string s) (some (.int .i64 (f:Int))) none none).run Tryz.prog w=.ok (.string (s.extract f s.size)) w:=λw=>by
  have:=run_slice_string_l (P:=Tryz.prog) (w:=w) (t:=9) (s:=s) Tryz.underlying9 .i64 (f:Int) (by omega) (by omega);rw[this];rfl
 obtain⟨sy,hsy⟩:=ay (s.extract f s.size);have hsys:sy.size<=1000:=by rw[<-hsy,ajU];omega
 rw[hsy]at hsl0;have HSY:aA (s.extract f s.size=sy):=ak hsy;clear hsy;have ZX:¬(9223372036854775807<m.size+sy.size):=by omega
 by_cases hlt:i<S.length;rotate_left
 .have g1:¬(i:Int)<(S.length:Int):=by omega
  have HR:aA (∀w,Below wr.heap.size wr w->D6 n0 B g pa mb kb E W s S (.returned (.tuple #[.slice pa' ln pc',.string (m++sy),.bool true])) w):=ak λw hw=>E_.o _ _ ((HJ.o.below hw).done (.inl (by omega)) HSY.o);go_wp2_with fail
  refine dD (S:=Below wr.heap.size wr) ((af6 _ _).drew) λwq S0=>?_;refine bJ 0 1 2 3 4 5 ?_;refine tk3 6 7 8 ?_;refine aO ?_;go_wp2_with fail
  exact af_ (v:=.tuple #[.slice pa' ln pc',.string (m++sy),.bool true]) (by simp[results,Tryz.results24,go_sem]) rfl (HR.o wq S0)
 by_cases hl12:i<12;rotate_left
 .have g1:(i:Int)<(S.length:Int):=by omega
  have g2:¬(i:Int)<12:=by omega
  have HR:aA (∀w,Below wr.heap.size wr w->D6 n0 B g pa mb kb E W s S (.returned (.tuple #[.slice pa' ln pc',.string (m++sy),.bool true])) w):=ak λw hw=>E_.o _ _ ((HJ.o.below hw).done (.inr (.inl (by omega))) HSY.o);go_wp2_with fail
  refine dD (S:=Below wr.heap.size wr) ((af6 _ _).drew) λwq S0=>?_;refine bJ 0 1 2 3 4 5 ?_;refine tk3 6 7 8 ?_;refine aO ?_;go_wp2_with fail
  exact af_ (v:=.tuple #[.slice pa' ln pc',.string (m++sy),.bool true]) (by simp[results,Tryz.results24,go_sem]) rfl (HR.o wq S0)
 have g1:(i:Int)<(S.length:Int):=by omega
 have g2:(i:Int)<12:=by omega
 have g0:(0:Int)<=(i:Int):=by omega
 obtain⟨b,rfl,hsp⟩:=WL.o wr HJ.o.Dx HJ.o.kt i hlt;have Ug:aA (∀w,Below n0 W1 w->Kt B W1 w->JL w (b.add (i*3)) S[i]):=ak λw hw hk=>by
  obtain⟨b',hb',hsp'⟩:=WL.o w hw hk i hlt;cases hb';exact hsp'
 have WV:aA (∀w,Below wr.heap.size wr w->JL w (b.add (i*3)) S[i]):=ak λw hw=>Ug.o w (HJ.o.below hw).Dx (HJ.o.below hw).kt;have Y5:=ak (λh2 h3=>HJ.o.pt.skip hlt hl12 h2 h3);have Pm:=ak (λ(m2:ByteArray) h2 h3 h4=>HJ.o.pt.snoc (m2:=m2) hlt hl12 h2 h3 (aG s) h4);have WW:aA (s.size<fG S[i] i f\/20<S[i].text.size->S.length<=i\/12<=i\/∃hi:i<S.length,s.size<fG S[i] i f\/20<S[i].text.size):=ak λq=> .inr (.inr ⟨hlt,q⟩);have iI:=ak hlt;generalize S[i]=c at *;obtain⟨q0,q1,q2⟩:=hsp;obtain⟨a9,e9,l9,t9⟩:=NS c.pos (k:=9) (by omega);obtain⟨a7,e7,l7,t7⟩:=NS c.n (k:=7) (by omega);have PU:=ak (NR wr c.pos 9 (by omega) (by omega));rw[e9]at PU;have WX:=ak (NR wr c.n 7 (by omega) (by omega));rw[e7]at WX;replace PU:aA (Calls Tryz.prog 68 #[.int .i64 c.pos,.int .i64 9] wr λe w'=>e=.returned (.int .i64 a9)/\w'=wr):=PU;replace WX:aA (Calls Tryz.prog 68 #[.int .i64 c.n,.int .i64 7] wr λe w'=>e=.returned (.int .i64 a7)/\w'=wr):=WX;have HT7:aA ((c.n%7).toNat=a7/\(c.pos%9).toNat=a9):=ak (And.intro t7 t9);clear e9 e7 t7 t9;rcases agP i with hi0|hi0
 case' _=>
  have gi:¬(i:Int)>0:=by omega
  obtain⟨o,ho⟩:=ay (f+a9);have hw1:IntKind.i64.wrap ((f:Int)+(a9:Int))=(o:Int):=by rw[agd];omega
  have hO:aA (fG c i f=o):=ak (by unfold fG;rw[af4 (by omega),HT7.o.2];omega);have hfo:f<=o:=by omega
  clear ho hi0
 rotate_left
 case' _=>
  have gi:(i:Int)>0:=by omega
  obtain⟨o,ho⟩:=ay (f+(a9+1));obtain⟨a10,h10⟩:=ay (a9+1);have hw0:IntKind.i64.wrap ((a9:Int)+1)=(a10:Int):=by rw[agd];omega
  have hw1:IntKind.i64.wrap ((f:Int)+(a10:Int))=(o:Int):=by rw[agd];omega
  have hO:aA (fG c i f=o):=ak (by unfold fG;rw[af5 hi0,HT7.o.2];omega);have hfo:f<=o:=by omega
  clear ho hi0 h10
 all_goals
  by_cases ho1:s.size<o
  .have g3:(o:Int)>(s.size:Int):=by omega
   have g3':decide (s.size<o)=true:=agw (by omega);have HR:aA (∀w,Below wr.heap.size wr w->D6 n0 B g pa mb kb E W s S (.returned (.tuple #[.slice pa' ln pc',.string (m++sy),.bool true])) w):=ak λw hw=>E_.o _ _ ((HJ.o.below hw).done (WW.o (.inl (by rw[hO.o];exact ho1))) HSY.o);go_wp2_with fail
   refine PU.o.mono ?_;rintro e w' ⟨rfl,hw⟩;rw[hw];clear hw w';go_wp2_with fail
   refine dD (S:=Below wr.heap.size wr) ((af6 _ _).drew) λwq S0=>?_;refine bJ 0 1 2 3 4 5 ?_;refine tk3 6 7 8 ?_;refine aO ?_;go_wp2_with fail
   exact af_ (v:=.tuple #[.slice pa' ln pc',.string (m++sy),.bool true]) (by simp[results,Tryz.results24,go_sem]) rfl (HR.o wq S0)
  have g3:¬(o:Int)>(s.size:Int):=by omega
  have g3':decide (s.size<o)=false:=agD (by omega);by_cases hx1:20<c.text.size
  .have g4:(c.text.size:Int)>20:=by omega
   have g4':decide (20<c.text.size)=true:=agw (by omega);have HR:aA (∀w,Below wr.heap.size wr w->D6 n0 B g pa mb kb E W s S (.returned (.tuple #[.slice pa' ln pc',.string (m++sy),.bool true])) w):=ak λw hw=>E_.o _ _ ((HJ.o.below hw).done (WW.o (.inr hx1)) HSY.o);go_wp2_with fail
   refine PU.o.mono ?_;rintro e w' ⟨rfl,hw⟩;rw[hw];clear hw w';go_wp2_with fail
   refine dD (S:=Below wr.heap.size wr) ((af6 _ _).drew) λwq S0=>?_;refine bJ 0 1 2 3 4 5 ?_;refine tk3 6 7 8 ?_;refine aO ?_;go_wp2_with fail
   exact af_ (v:=.tuple #[.slice pa' ln pc',.string (m++sy),.bool true]) (by simp[results,Tryz.results24,go_sem]) rfl (HR.o wq S0)
  have g4:¬(c.text.size:Int)>20:=by omega
  have g4':decide (20<c.text.size)=false:=agD (by omega);obtain⟨d,hd⟩:=ay (s.size-o);have hw2:IntKind.i64.wrap ((s.size:Int)-(o:Int))=(d:Int):=by rw[agd];omega
  obtain⟨k,hk⟩:=ay (min a7 d);have hmin:(if(d:Int)<(a7:Int)then(d:Int)else(a7:Int))=(k:Int):=by split<;>omega
  have hmin':(if d<a7 then(d:Int)else(a7:Int))=(k:Int):=by split<;>omega
  have Dr:aA (nK c s.size (fG c i f)=k):=ak (by unfold nK;rw[HT7.o.1,hO.o,hd,hk]);have hN2:aA (¬(s.size<fG c i f\/20<c.text.size)):=ak (by rw[hO.o];omega);have hkd:k<=d:=by omega
  clear hd hk;have abn:∀w,(Instr.slice 9 (.string s) (some (.int .i64 (f:Int))) (some (.int .i64 (o:Int))) none).run Tryz.prog w=.ok (.string (s.extract f o)) w:=λw=>by
   have:=run_slice_string (P:=Tryz.prog) w 9 s .i64 .i64 (f:Int) (o:Int) Tryz.underlying9 (by omega) (by omega) (by omega);rw[this];rfl
  obtain⟨sx,hsx⟩:=ay (s.extract f o);rw[hsx]at abn;have HSX:aA (∀q:ByteArray,q=m++(sx++c.text)->jE q=jE m++(((jE s).drop f).take (fG c i f-f)++jE c.text)):=ak λq hq=>by
   rw[hq,nJ,nJ,<-hsx,sP,hO.o]
  have hsxs:sx.size<=1000:=by rw[<-hsx,ajU];omega
  clear hsx;have hcx1:¬(9223372036854775807<sx.size+c.text.size):=by omega
  have hcx2:¬(9223372036854775807<m.size+(sx++c.text).size):=by rw[akC];omega
  have hcx3:¬(9223372036854775807<m.size+(sx.size+c.text.size)):=by omega
  by_cases hk0:k=0
  .have e1:((k:Int)==(0:Int))=true:=by rw[hk0];rfl
   have e1':(k:Int)=0:=by omega
   by_cases hx0:c.text.size=0
   case' _=>
    have e2:((c.text.size:Int)==(0:Int))=true:=(by rw[hx0];rfl);have e2':(c.text.size:Int)=0:=(by omega);have kH:aA (PS n0 B g pa mb kb E W1 s S (i+1) f m (.slice pa' ln pc') P L E1 wr):=ak ⟨HJ.o.Am,Y5.o hN2.o ⟨by rw[Dr.o];exact hk0,hx0⟩,HJ.o.mt,HJ.o.dk,HJ.o.ext,by have:=HJ.o.few;omega,HJ.o.Dx,HJ.o.kt,HJ.o.sz,by omega⟩
   rotate_left
   case' _=>
    have e2:((c.text.size:Int)==(0:Int))=false:=agh.2 (by omega);have e2':¬(c.text.size:Int)=0:=(by omega);have WY:aA (¬(nK c s.size (fG c i f)=0/\c.text.size=0)):=ak (λq=>hx0 q.2);have HK0:=ak hk0;clear hk0 hx0
   rotate_left
   all_goals
    go_wp2_with fail
    refine PU.o.mono ?_;rintro e w' ⟨rfl,hw⟩;rw[hw];clear hw w';go_wp2_with fail
    refine WX.o.mono ?_;rintro e w' ⟨rfl,hw⟩;rw[hw];clear hw w';go_wp2_with fail
   .exact⟨⟨i+1,f,m,P,L,E1,rfl,rfl,by go_num,kH.o⟩,by simp[intOf];omega⟩
   have m2:∀w,Below wr.heap.size wr w->w.cell? ⟨(b.add (i*3)).block,(b.add (i*3)).off+2,none⟩=some (.string c.text):=λw hw=>(WV.o w hw).2.2;have d0:∀w,Below wr.heap.size wr w->w.cell? ⟨gd,0,none⟩=some (.pointer (some ⟨B,0,none⟩)):=λw hw=>(vS.o w (HJ.o.below hw).kt).1;have d1:∀w,Below wr.heap.size wr w->w.cell? ⟨gd,1,none⟩=some (.pointer (some ⟨mb,0,none⟩)):=λw hw=>(vS.o w (HJ.o.below hw).kt).2;refine dD (S:=Below wr.heap.size wr) ((af6 _ _).drew) λwq S0=>?_;have Df:=M_.o (HJ.o.below S0).dk (by have:=HJ.o.few;omega) (x:=c.text) (by omega);refine bJ 0 1 2 3 4 5 ?_;refine aJ.wall (i:=6) (by kernel_rfl) rfl HF (by rfl) (λK hK=>?_);go_simp
   try with_reducible refine⟨rfl,?_⟩
   refine agq.2 (Df.mono ?_);rintro e w3 ⟨E3,id,rfl,hd3,hx3,hl3,hb3,hz3,bb3,GQ⟩;have HD3:=ak (And.intro hd3 (And.intro hx3 (And.intro hl3 (And.intro hb3 (And.intro hz3 (And.intro bb3 GQ))))));have T0:uz w3:=trivial;refine hK uz _ _ ?_;clear hK K hd3 hx3 hl3 hb3 hz3 bb3 GQ;refine zD 7 8 9 10 11 ?_;refine aO ?_;have vT:=ak (HJ.o.below S0);clear m2 d0 d1 S0 Df;have Dh:mg W1.heap.size w3 (.slice pa' ln pc') L:=aP.keep vT.o.Am (λk cs fz e=>HD3.o.2.2.2.2.2.2.cells _ (by decide) (by decide) k cs fz e);have Di:=ak Dh;have vU:W1.heap.size<=w3.heap.size:=af9 vT.o.sz HD3.o.2.2.2.2.2.1.size;have L9:=ak vU;clear Dh;go_wp2_with (first
    | (at_builtin;refine bP (v:=.slice pa' ln pc') vg iV rfl _ _ rfl rfl Di.o ⟨o,0,id⟩ rfl rfl ?c1 ?c2 vU ?_))
   case c1=>simp[w_,Value.oneCell']
   case c2=>rw[oG.o];have:=HJ.o.pt.pl;have:=HJ.o.mt.len;have:=oG.o;omega
   intro v5 w5 hS5 hg5 hb5;have Dj:=HD3.o.1.app Di.o hg5 ⟨by decide,by decide,by decide,by decide,by decide,by decide⟩ eG.o;have kH:aA (PS n0 B g pa mb kb E W1 s S (i+1) (o+k) (m++(sx++c.text)) v5 (P++[(o,k,c.text)]) (L++[⟨o,0,id⟩]) E3 w5):=ak (by
    obtain⟨hd3,hx3,hl3,hb3,hz3,bb3,GQ⟩:=HD3.o;have hpt:=Pm.o _ hN2.o WY.o (HSX.o _ rfl);rw[Dr.o,hO.o]at hpt;rw[aG]at hl3;exact⟨hS5,hpt,(vT.o.mt.ext hx3).snoc rfl (by show(0:Int)=((k:Nat):Int);rw[HK0.o];rfl) hb3.txt hb3.le hb3.even (by rw[hb3.txt];exact hz3),Dj,vT.o.ext.trans hx3,by have:=vT.o.few;omega,(vT.o.Dx.trans bb3).trans (hb5.mono eG.o),(vT.o.kt.trans GQ).then hb5,af9 L9.o hb5.size,by omega⟩)
   have kZ:aA (∀w,Below w5.heap.size w5 w->w.cell? ⟨(b.add (i*3)).block,(b.add (i*3)).off+2,none⟩=some (.string c.text)):=ak λw hw=>(Ug.o w (kH.o.below hw).Dx (kH.o.below hw).kt).2.2;obtain⟨va5,vc5,hv5⟩:=hS5.len;obtain⟨ln5,Dk⟩:=ay ((L++[(⟨o,0,id⟩:bH)]).length);rw[Dk]at hv5;subst hv5;clear hS5 hg5 hb5 Dj vU Dk;go_wp2_with fail
   have m2:=kZ.o;refine dD (S:=Below w5.heap.size w5) ((af6 _ _).drew) λwp S1=>?_;refine bJ 0 1 2 3 4 5 ?_;refine bJ 6 7 8 9 10 11 ?_;refine tk1 12 ?_;refine aO ?_;have HNY:=ak (kH.o.below S1);clear m2 S1;go_wp2_with fail
   go_roundw
   case rel=>exact⟨i+1,o+k,_,_,_,E3,rfl,by rw[HK0.o];first|rfl|go_num,by go_num,HNY.o⟩
   case measure=>simp[intOf];omega
  have e1:((k:Int)==(0:Int))=false:=agh.2 (by omega);have e1':¬(k:Int)=0:=by omega
  have WY:aA (¬(nK c s.size (fG c i f)=0/\c.text.size=0)):=ak (λq=>hk0 (by rw[<-Dr.o];exact q.1));clear hk0;go_wp2_with fail
  refine PU.o.mono ?_;rintro e w' ⟨rfl,hw⟩;rw[hw];clear hw w';go_wp2_with fail
  refine WX.o.mono ?_;rintro e w' ⟨rfl,hw⟩;rw[hw];clear hw w';go_wp2_with fail
  have m2:∀w,Below wr.heap.size wr w->w.cell? ⟨(b.add (i*3)).block,(b.add (i*3)).off+2,none⟩=some (.string c.text):=λw hw=>(WV.o w hw).2.2;have d0:∀w,Below wr.heap.size wr w->w.cell? ⟨gd,0,none⟩=some (.pointer (some ⟨B,0,none⟩)):=λw hw=>(vS.o w (HJ.o.below hw).kt).1;have d1:∀w,Below wr.heap.size wr w->w.cell? ⟨gd,1,none⟩=some (.pointer (some ⟨mb,0,none⟩)):=λw hw=>(vS.o w (HJ.o.below hw).kt).2;refine dD (S:=Below wr.heap.size wr) ((af6 _ _).drew) λwq S0=>?_;have Df:=M_.o (HJ.o.below S0).dk (by have:=HJ.o.few;omega) (x:=c.text) (by omega);refine bJ 0 1 2 3 4 5 ?_;refine aJ.wall (i:=6) (by kernel_rfl) rfl HF (by rfl) (λK hK=>?_);go_simp
  try with_reducible refine⟨rfl,?_⟩
  refine agq.2 (Df.mono ?_);rintro e w3 ⟨E3,id,rfl,hd3,hx3,hl3,hb3,hz3,bb3,GQ⟩;have HD3:=ak (And.intro hd3 (And.intro hx3 (And.intro hl3 (And.intro hb3 (And.intro hz3 (And.intro bb3 GQ))))));have T0:uz w3:=trivial;refine hK uz _ _ ?_;clear hK K hd3 hx3 hl3 hb3 hz3 bb3 GQ;refine zD 7 8 9 10 11 ?_;refine aO ?_;have vT:=ak (HJ.o.below S0);clear m2 d0 d1 S0 Df;have Dh:mg W1.heap.size w3 (.slice pa' ln pc') L:=aP.keep vT.o.Am (λk cs fz e=>HD3.o.2.2.2.2.2.2.cells _ (by decide) (by decide) k cs fz e);have Di:=ak Dh;have vU:W1.heap.size<=w3.heap.size:=af9 vT.o.sz HD3.o.2.2.2.2.2.1.size;have L9:=ak vU;clear Dh;go_wp2_with (first
   | (at_builtin;refine bP (v:=.slice pa' ln pc') vg iV rfl _ _ rfl rfl Di.o ⟨o,k,id⟩ rfl rfl ?c1 ?c2 vU ?_))
  case c1=>simp[w_,Value.oneCell']
  case c2=>rw[oG.o];have:=HJ.o.pt.pl;have:=HJ.o.mt.len;have:=oG.o;omega
  intro v5 w5 hS5 hg5 hb5;have Dj:=HD3.o.1.app Di.o hg5 ⟨by decide,by decide,by decide,by decide,by decide,by decide⟩ eG.o;have kH:aA (PS n0 B g pa mb kb E W1 s S (i+1) (o+k) (m++(sx++c.text)) v5 (P++[(o,k,c.text)]) (L++[⟨o,k,id⟩]) E3 w5):=ak (by
   obtain⟨hd3,hx3,hl3,hb3,hz3,bb3,GQ⟩:=HD3.o;have hpt:=Pm.o _ hN2.o WY.o (HSX.o _ rfl);rw[Dr.o,hO.o]at hpt;rw[aG]at hl3;exact⟨hS5,hpt,(vT.o.mt.ext hx3).snoc rfl rfl hb3.txt hb3.le hb3.even (by rw[hb3.txt];exact hz3),Dj,vT.o.ext.trans hx3,by have:=vT.o.few;omega,(vT.o.Dx.trans bb3).trans (hb5.mono eG.o),(vT.o.kt.trans GQ).then hb5,af9 L9.o hb5.size,by omega⟩)
  have kZ:aA (∀w,Below w5.heap.size w5 w->w.cell? ⟨(b.add (i*3)).block,(b.add (i*3)).off+2,none⟩=some (.string c.text)):=ak λw hw=>(Ug.o w (kH.o.below hw).Dx (kH.o.below hw).kt).2.2;obtain⟨va5,vc5,hv5⟩:=hS5.len;obtain⟨ln5,Dk⟩:=ay ((L++[(⟨o,k,id⟩:bH)]).length);rw[Dk]at hv5;subst hv5;clear hS5 hg5 hb5 Dj vU Dk;go_wp2_with fail
  have m2:=kZ.o;refine dD (S:=Below w5.heap.size w5) ((af6 _ _).drew) λwp S1=>?_;refine bJ 0 1 2 3 4 5 ?_;refine bJ 6 7 8 9 10 11 ?_;refine tk1 12 ?_;refine aO ?_;have HNY:=ak (kH.o.below S1);clear m2 S1;go_wp2_with fail
  go_roundw
  case rel=>exact⟨i+1,o+k,_,_,_,E3,rfl,by go_num,by go_num,HNY.o⟩
  case measure=>simp[intOf];omega
end M
end
end Go.Proofs.YtgbhohfabhilgaaGreatDoor
