import Derived.Test.YtgbhohfabhilgaaGreatDoorBase05
set_option maxRecDepth 100000
set_option maxHeartbeats 8000000
set_option linter.unusedVariables false
set_option linter.unusedSimpArgs false
namespace Go.Proofs.YtgbhohfabhilgaaGreatDoor
section
open Go.RowKit Go.MapKept Go.ChangeMaps Go.WideMaps
namespace M
structure Ru where
 kind:Nat
 letter:Nat
 left:Nat
 right:Nat
 times:Nat
deriving DecidableEq
abbrev qN(r:Ru):Value:=.agg #[.int .i64 r.kind,.int .u8 r.letter,.int .i64 r.left,.int .i64 r.right,.int .i64 r.times]
def Ru.ok(r:Ru):Prop:=r.kind<=9223372036854775807/\r.letter<=255/\r.left<=9223372036854775807/\r.right<=9223372036854775807/\r.times<=9223372036854775807
theorem Mk{a b:Ru}(h:qN a=qN b):a=b:=by
 obtain⟨a1,a2,a3,a4,a5⟩:=a;obtain⟨b1,b2,b3,b4,b5⟩:=b;simp only[qN,Value.agg.injEq,Array.mk.injEq,ajG,Value.int.injEq,ajf,aht]at h;simp only[Ru.mk.injEq];omega
theorem wfN{q:IntKind}{n:Nat}(h:q=.i64/\n<=9223372036854775807\/q=.u8/\n<=255):(Lit.int q (n:Int)).wf=true:=by
 rcases h with⟨rfl,h⟩|⟨rfl,h⟩
 .simp[Lit.wf,IntKind.min,IntKind.max,IntKind.signed,IntKind.bits];omega
 simp[Lit.wf,IntKind.min,IntKind.max,IntKind.signed,IntKind.bits];omega
theorem H7:Maps.Keyed Tryz.prog 50:=Maps.Keyed.of_law (deep_law_laid (by kernel_rfl) (m:=9999) (by decide) (by decide+kernel) (by kernel_rfl) (by kernel_rfl))
theorem Bo{r:Ru}(h:r.ok):∃l,keyOf Tryz.prog 50 (qN r)=some l:=by
 have hkt:Tryz.prog.keyType 50=true:=by kernel_rfl
 have hc:Tryz.prog.cellsOf 50=5:=by kernel_rfl
 have hs:=Tryz.underlying50;have hI:=Tryz.underlying3;have hU:=Tryz.underlying5;have hD:=Tryz.underlying27;have eI:Tryz.prog.cellsOf 3=1:=by kernel_rfl
 have eU:Tryz.prog.cellsOf 5=1:=by kernel_rfl
 have eD:Tryz.prog.cellsOf 27=1:=by kernel_rfl
 obtain⟨m,hm⟩:∃m,Tryz.prog.types.size=m+1:=⟨Tryz.prog.types.size-1,by kernel_rfl⟩;obtain⟨h1,h2,h3,h4,h5⟩:=h;have w1:=wfN (q:=.i64) (n:=r.kind) (.inl ⟨rfl,h1⟩);have w2:=wfN (q:=.u8) (n:=r.letter) (.inr ⟨rfl,h2⟩);have w3:=wfN (q:=.i64) (n:=r.left) (.inl ⟨rfl,h3⟩);have w4:=wfN (q:=.i64) (n:=r.right) (.inl ⟨rfl,h4⟩);have w5:=wfN (q:=.i64) (n:=r.times) (.inl ⟨rfl,h5⟩);unfold keyOf;simp only[hs];rw[af5 (by simp[hkt,Value.formed,hs,hc]),hm];unfold Program.keyLits;simp only[hs,Value.cells];rw[af5 (by simp[hc])];simp[List.mapM_cons,List.mapM_nil,eI,eU,eD,Program.keyLits,hI,hU,hD,w1,w2,w3,w4,w5]
structure En where
 ru:Ru
 w:Wt
 depth:Nat
 even:Bool
def DC:Nat->List En->List (Value×Value)
 |_,[]=>[]
 |n,e::E=>(qN e.ru,.int .i64 n)::DC (n+1) E
theorem qj:∀(n:Nat) (E:List En),(DC n E).length=E.length
 |_,[]=>rfl
 |n,e::E=>by simp[DC,qj]
theorem Bp:∀(n:Nat) (E:List En) (e:En),DC n (E++[e])=DC n E++[(qN e.ru,.int .i64 (n+E.length:Nat))]
 |n,[],e=>rfl
 |n,a::E,e=>by
  have h:=Bp (n+1) E e
  simp only[agZ,DC,h,agc]
  rw[show n+1+E.length=n+(E.length+1) by omega]
theorem yB:∀(n:Nat) (E:List En) (j:Nat) (x:Value×Value),(DC n E)[j]?=some x->∃e,E[j]?=some e/\x=(qN e.ru,.int .i64 (n+j:Nat))
 |_,[],j,x,h=>by simp[DC]at h
 |n,e::E,0,x,h=>by
  simp only[DC,agJ,agG]at h
  exact⟨e,rfl,h.symm⟩
 |n,e::E,j+1,x,h=>by
  simp only[DC,agF]at h
  obtain⟨e',h1,h2⟩:=yB (n+1) E j x h
  exact⟨e',h1,by rw[h2,show n+1+j=n+(j+1) by omega]⟩
def fid(r:Ru):Nat->List En->Nat
 |_,[]=>0
 |n,e::E=>if e.ru=r then n else fid r (n+1) E
theorem H8{r:Ru}:∀{n:Nat} {E:List En},(∀e∈E,e.ru≠r)->fid r n E=0
 |_,[],_=>rfl
 |n,e::E,h=>by rw[fid,af4 (h e (ahl ..))];exact H8 λx hx=>h x (agK _ hx)
theorem QE{r:Ru}:∀{n j:Nat} {E:List En} {e:En},(E.map En.ru).Nodup->E[j]?=some e->e.ru=r->fid r n E=n+j
 |n,0,a::E,e,_,h,hr=>by
  simp only[agJ,agG]at h
  subst h
  rw[fid,af5 hr,ahC]
 |n,j+1,a::E,e,hn,h,hr=>by
  rw[agF]at h
  obtain⟨h1,h2⟩:=ail.1 hn
  rw[fid,af4 (λx=>h1 (agz.2 ⟨e,agE h,hr.trans x.symm⟩)),QE h2 h hr]
  omega
theorem H9{r:Ru}:∀{n:Nat} {E:List En},0<n->fid r n E=0->∀e∈E,e.ru≠r
 |_,[],_,_,e,he=>by cases he
 |n,a::E,hn,h,e,he=>by
  rw[fid]at h
  split at h
  .omega
  .rename_i hne
   rcases agm.1 he with rfl|he
   .exact hne
   .exact H9 (by omega) h e he
theorem QF{r:Ru}:∀{n:Nat} {E:List En},fid r n E≠0->∃j e,fid r n E=n+j/\E[j]?=some e/\e.ru=r
 |_,[],h=>absurd rfl h
 |n,a::E,h=>by
  rw[fid]at h⊢
  split at h
  .rename_i hr;rw[af5 hr];exact⟨0,a,rfl,rfl,hr⟩
  .rename_i hr
   rw[af4 hr]
   obtain⟨j,e,h1,h2,h3⟩:=QF h
   exact⟨j+1,e,by omega,by simpa using h2,h3⟩
def jY(w:World)(b:Nat)(E:List En):Prop:=
 ∃es clock,w.heap[b]?=some (.map es clock)/\Stamped es clock/\es.toList.map (λe=>(e.key,e.val))=DC 1 E/\∀e∈E,e.ru.ok
section
variable {w:World} {b:Nat} {E:List En}
theorem jY.lt(h:jY w b E):b<w.heap.size:=by obtain⟨es,c,h,-⟩:=h;exact(aga.1 h).1
theorem jY.of_block{w':World}(h:jY w b E)(hb:w'.heap[b]?=w.heap[b]?):jY w' b E:=by
 obtain⟨es,c,h1,h2⟩:=h;exact⟨es,c,hb.trans h1,h2⟩
theorem jY.below{w':World}(h:jY w b E)(hb:Below w.heap.size w w'):jY w' b E:=h.of_block (hb.block b h.lt)
theorem jY.made(w:World):jY (w.alloc (.map #[] 0)) w.heap.size []:=
 ⟨#[],0,aD _ _,stamped_empty 0,by simp[DC],by simp⟩
theorem jY.nodup(h:jY w b E):(E.map En.ru).Nodup:=by
 obtain⟨es,c,-,h2,h3,-⟩:=h;have h4:=((stamped_iff es c).1 h2).2.2;have h5:(es.toList.map (λe=>(e.key,e.val))).Pairwise (λx y=>x.1≠y.1):=aiu.2 h4;rw[h3]at h5;have:∀(n:Nat) (E:List En),(DC n E).Pairwise (λx y=>x.1≠y.1)->(E.map En.ru).Nodup:=by
  intro n E
  induction E generalizing n with
  |nil=>intro _;exact List.nodup_nil
  |cons a E ih=>
   intro h;rw[DC]at h;obtain⟨h1,h2⟩:=List.pairwise_cons.1 h;rw[ag8];refine ail.2 ⟨λhin=>?_,ih _ h2⟩;obtain⟨e,he,hr⟩:=agz.1 hin;obtain⟨j,hj,Xm⟩:=ajv he;have hl:j<(DC (n+1) E).length:=by rw[qj];exact hj
   obtain⟨e',h3,h4⟩:=yB (n+1) E j _ (agt hl);rw[agt hj,Xm]at h3;cases h3;refine h1 _ (ag0 hl) ?_;rw[h4];show qN a.ru=qN e.ru;rw[hr]
 exact this 1 E h5
theorem jY.reads{es:Array MapEntry}(h3:es.toList.map (λe=>(e.key,e.val))=DC 1 E)(h4:∀e∈E,e.ru.ok):∀x∈es.toList,∃lx,keyOf Tryz.prog 50 x.key=some lx:=by
 intro x hx;have:(x.key,x.val)∈DC 1 E:=by rw[<-h3];exact agz.2 ⟨x,hx,rfl⟩
 obtain⟨j,hj,Xm⟩:=ajv this;obtain⟨e,h5,h6⟩:=yB 1 E j _ (agt hj);rw[Xm]at h6;have:x.key=qN e.ru:=(ajd h6).1;rw[this];exact Bo (h4 e (agE h5))
theorem jY.look(h:jY w b E){r:Ru}(hr:r.ok):
    (Instr.lookup 138 (.map (some b)) (qN r) true).run Tryz.prog w=.ok (.tuple #[.int .i64 (fid r 1 E),.bool (decide (fid r 1 E≠0))]) w:=by
 have hn:=h.nodup;obtain⟨es,clock,hb,h2,h3,h4⟩:=h;have K:=H7;obtain⟨lx,hkey⟩:=Bo hr;have ht:=Tryz.underlying138;have hz:(zeroValue 27).run Tryz.prog w=.ok (.int .i64 0) w:=by kernel_rfl
 rcases K.find w hkey es.toList (jY.reads h3 h4)with⟨h5,h6⟩|⟨j,e0,h5,h6,h7⟩
 .have hf:fid r 1 E=0:=H8 λe he hre=>by
   obtain⟨j,hj,Xm⟩:=ajv he;have hl:j<(DC 1 E).length:=by rw[qj];exact hj
   obtain⟨e',h8,h9⟩:=yB 1 E j _ (agt hl);rw[agt hj,Xm]at h8;cases h8;have h10:(DC 1 E)[j]∈es.toList.map (λe=>(e.key,e.val)):=by rw[h3];exact ag0 hl
   obtain⟨x,hx,hxe⟩:=agz.1 h10;rw[h9]at hxe;exact h6 x hx (by rw[(ajd hxe).1,hre])
  rw[hf];simp[Instr.lookup,ahs ht,ahI hb,K.check w _ hkey,h5,hz,Result.andThen]
 have h8:(DC 1 E)[j]?=some (e0.key,e0.val):=by rw[<-h3,ahg,h6];rfl
 obtain⟨e,h9,h10⟩:=yB 1 E j _ h8;have h11:e0.key=qN e.ru:=(ajd h10).1;have h12:e0.val=.int .i64 (1+j:Nat):=(ajd h10).2;have hre:e.ru=r:=Mk (h11.symm.trans h7);have hf:fid r 1 E=1+j:=QE hn h9 hre;rw[hf];have hd:decide (1+j≠0)=true:=agw (by omega);simp[Instr.lookup,ahs ht,ahI hb,K.check w _ hkey,h5,h12,Result.andThen]
theorem jY.put(h:jY w b E)(hroom:E.length<9223372036854775807)(e:En)(hr:e.ru.ok)(hnew:fid e.ru 1 E=0):
    ∃w',(Instr.mapUpdate 138 (.map (some b)) (qN e.ru) (.int .i64 (E.length+1:Nat))).run Tryz.prog w=.ok () w'/\jY w' b (E++[e])/\w.grownBy w' (some b)/\w'.heap.size=w.heap.size:=by
 obtain⟨es,clock,hb,h2,h3,h4⟩:=h;have K:=H7;obtain⟨lx,hkey⟩:=Bo hr;have ht:=Tryz.underlying138;have hsz:es.size=E.length:=by have:=agC List.length h3;rw[qj]at this;simpa using this
 have grow:∀o,w.grownBy (setBlock w b o) (some b):=λo=>⟨rfl,rfl,rfl,by simp[setBlock],λi _ hi=>heap_setBlock_other hb _ (λe=>hi (by rw[e]))⟩;rcases K.find w hkey es.toList (jY.reads h3 h4)with⟨h5,h6⟩|⟨j,e0,h5,h6,h7⟩
 .refine⟨setBlock w b (.map (es.push ⟨qN e.ru,.int .i64 (E.length+1:Nat),clock⟩) (clock+1)),?_,⟨_,_,heap_setBlock_same hb _,stamped_push h2 h6,?_,?_⟩,grow _,by simp[setBlock]⟩
  .have:es.size<maxLen:=by unfold maxLen;omega
   simp[Instr.mapUpdate,ahs ht,ahI hb,K.check w false hkey,h5,aiW _ hb,Result.andThen,setBlock]
  .rw[aj5,ag2,h3,Bp,show 1+E.length=E.length+1 by omega];rfl
  intro x hx;rcases ags.1 hx with hx|hx
  .exact h4 x hx
  simp only[agl]at hx;subst hx;exact hr
 exfalso;have h8:(DC 1 E)[j]?=some (e0.key,e0.val):=by rw[<-h3,ahg,h6];rfl
 obtain⟨e',h9,h10⟩:=yB 1 E j _ h8;have hre:e'.ru=e.ru:=Mk ((ajd h10).1.symm.trans h7);exact H9 (by omega) hnew e' (agE h9) hre
end
end M
end
section
open Go.RowKit
namespace M
attribute [local go_sem] Oper.semAt_some
variable{B i most n0:Nat}{W:World}
def enL(e:En):List Value:=[.int .i64 e.ru.kind,.int .u8 e.ru.letter,.int .i64 e.ru.left,.int .i64 e.ru.right,.int .i64 e.ru.times,.int .i64 e.w.len,.int .i64 e.w.lines,.int .i64 e.w.head,.int .i64 e.w.tail,.int .u64 e.w.d.v,.int .u64 e.w.d.s,.int .i64 e.depth,.bool e.even]
theorem Ml(e:En):(enL e).length=13:=rfl
abbrev DF(e:En):Value:=.agg #[.int .i64 e.ru.kind,.int .u8 e.ru.letter,.int .i64 e.ru.left,.int .i64 e.ru.right,.int .i64 e.ru.times,.int .i64 e.w.len,.int .i64 e.w.lines,.int .i64 e.w.head,.int .i64 e.w.tail,.int .u64 e.w.d.v,.int .u64 e.w.d.s,.int .i64 e.depth,.bool e.even]
abbrev Ens(B:Nat)(W:World)(v:Value)(E:List En):Prop:=aP B W 136 13 enL v E
theorem acd:Elem Tryz.prog 137 136 13 104:=gP Tryz.underlying137 (z:=.agg #[.int .i64 0,.int .u8 0,.int .i64 0,.int .i64 0,.int .i64 0,.int .i64 0,.int .i64 0,.int .i64 0,.int .i64 0,.int .u64 0,.int .u64 0,.int .i64 0,.bool false]) (by kernel_rfl) rfl (by decide) (by decide)
def EnAt(W:World)(g o:Nat)(e:En):Prop:=(W.cell? ⟨g,o,none⟩=some (.int .i64 e.ru.kind)/\W.cell? ⟨g,o+1,none⟩=some (.int .u8 e.ru.letter)/\W.cell? ⟨g,o+2,none⟩=some (.int .i64 e.ru.left)/\W.cell? ⟨g,o+3,none⟩=some (.int .i64 e.ru.right)/\W.cell? ⟨g,o+4,none⟩=some (.int .i64 e.ru.times))/\
 (W.cell? ⟨g,o+5,none⟩=some (.int .i64 e.w.len)/\W.cell? ⟨g,o+6,none⟩=some (.int .i64 e.w.lines)/\W.cell? ⟨g,o+7,none⟩=some (.int .i64 e.w.head)/\W.cell? ⟨g,o+8,none⟩=some (.int .i64 e.w.tail)/\W.cell? ⟨g,o+9,none⟩=some (.int .u64 e.w.d.v)/\W.cell? ⟨g,o+10,none⟩=some (.int .u64 e.w.d.s))/\
 W.cell? ⟨g,o+11,none⟩=some (.int .i64 e.depth)/\W.cell? ⟨g,o+12,none⟩=some (.bool e.even)
theorem Ens.at{v:Value}{E:List En}(h:Ens B W v E)(hi:i<E.length):
    ∃g cap,v=.slice (some ⟨g,0,none⟩) E.length cap/\E.length<=cap/\cap<=maxLen/\∀(W':World),Below W.heap.size W W'->∀i (hi:i<E.length),EnAt W' g (i*13) E[i]:=by
 rcases h.shape with⟨-,rfl⟩|⟨g,cap,rfl,h1,h2⟩
 .simp at hi
 refine⟨g,cap,rfl,h1,h2,λW' hb i hi=>?_⟩;have h':=h.below hb;have c:=λ(j:Nat) (hj:j<13)=>aP.cell Ml h' hi (j:=j) hj;exact⟨⟨c 0 (by omega),c 1 (by omega),c 2 (by omega),c 3 (by omega),c 4 (by omega)⟩,⟨c 5 (by omega),c 6 (by omega),c 7 (by omega),c 8 (by omega),c 9 (by omega),c 10 (by omega)⟩,c 11 (by omega),c 12 (by omega)⟩
def yC(W:World)(B most:Nat)(lv:Value)(mb:Nat):Prop:=W.heap[B]?=some (.cells #[.int .i64 most,lv,.map (some mb)] 140 (0,0))
theorem yC.cells{mb:Nat}{lv:Value}(h:yC W B most lv mb):W.cell? ⟨B,0,none⟩=some (.int .i64 most)/\W.cell? ⟨B,1,none⟩=some lv/\W.cell? ⟨B,2,none⟩=some (.map (some mb))/\W.frozen? ⟨B,1,none⟩=false:=by
 unfold yC at h;simp[World.cell?,World.frozen?,h]
def aW(n0:Nat)(W:World)(B most:Nat)(E:List En):Prop:=∃lv mb,yC W B most lv mb/\Ens n0 W lv E/\jY W mb E/\n0<=B/\n0<=mb
theorem aW.below{n0 B most:Nat}{W W':World}{E:List En}(h:aW n0 W B most E)(hb:Below W.heap.size W W'):aW n0 W' B most E:=by
 obtain⟨lv,mb,h1,h2,h3,h4⟩:=h;exact⟨lv,mb,au hb h1,h2.below hb,h3.below hb,h4⟩
theorem aW.lt{E:List En}(h:aW n0 W B most E):n0<=W.heap.size:=by
 obtain⟨lv,mb,h1,h2,h3,h4,h5⟩:=h;exact af9 h4 (aiP (aga.1 h1).1)
def aF(E:List En)(i:Nat):En:=if i=0 then⟨⟨0,0,0,0,0⟩,wt [],0,true⟩else(E[i-1]?).getD ⟨⟨0,0,0,0,0⟩,wt [],0,true⟩
theorem qm{E:List En}(h0:0<i)(hi:i<=E.length):aF E i=E[i-1]'(by omega):=by
 unfold aF;rw[af4 (by omega),agt (by omega)];rfl
theorem fH{E:List En}(h:aW n0 W B most E)(i:Int):
    Calls Tryz.prog 64 #[.pointer (some ⟨B,0,none⟩),.int .i64 i] W λe w'=>e=.returned (.bool (decide (0<=i/\i<=E.length)))/\w'=W:=by
 obtain⟨lv,mb,h1,h2,-,-,-⟩:=h;obtain⟨a,cap,rfl⟩:=h2.len;obtain⟨-,c1,-,-⟩:=h1.cells;by_cases k1:0<=i
 .by_cases k2:i<=(E.length:Int)
  .rw[agw (show 0<=i/\i<=(E.length:Int) from⟨k1,k2⟩)];go_enter Tryz.func64,Tryz.ntmps64;go_wp2_with fail
   go_ret;exact⟨rfl,rfl⟩
  rw[agD (show ¬(0<=i/\i<=(E.length:Int)) from λh=>k2 h.2)];go_enter Tryz.func64,Tryz.ntmps64;go_wp2_with fail
  go_ret;exact⟨rfl,rfl⟩
 rw[agD (show ¬(0<=i/\i<=(E.length:Int)) from λh=>k1 h.1)];go_enter Tryz.func64,Tryz.ntmps64;go_wp2_with fail
 go_ret;exact⟨rfl,rfl⟩
def fq(W:World)(g:Nat)(e:En):Prop:=W.heap[g]?=some (.cells #[.int .i64 e.ru.kind,.int .u8 e.ru.letter,.int .i64 e.ru.left,.int .i64 e.ru.right,.int .i64 e.ru.times,.int .i64 e.w.len,.int .i64 e.w.lines,.int .i64 e.w.head,.int .i64 e.w.tail,.int .u64 e.w.d.v,.int .u64 e.w.d.s,.int .i64 e.depth,.bool e.even] 136 (0,0))
def en0:En:=⟨⟨0,0,0,0,0⟩,w0,0,false⟩
section
variable {W:World} {g:Nat} {e:En}
theorem fq.cells(h:fq W g e):W.cell? ⟨g,0,none⟩=some (.int .i64 e.ru.kind)/\W.cell? ⟨g,1,none⟩=some (.int .u8 e.ru.letter)/\W.cell? ⟨g,2,none⟩=some (.int .i64 e.ru.left)/\W.cell? ⟨g,3,none⟩=some (.int .i64 e.ru.right)/\W.cell? ⟨g,4,none⟩=some (.int .i64 e.ru.times)/\W.cell? ⟨g,5,none⟩=some (.int .i64 e.w.len)/\W.cell? ⟨g,6,none⟩=some (.int .i64 e.w.lines)/\W.cell? ⟨g,7,none⟩=some (.int .i64 e.w.head)/\W.cell? ⟨g,8,none⟩=some (.int .i64 e.w.tail)/\W.cell? ⟨g,9,none⟩=some (.int .u64 e.w.d.v)/\W.cell? ⟨g,10,none⟩=some (.int .u64 e.w.d.s)/\W.cell? ⟨g,11,none⟩=some (.int .i64 e.depth)/\W.cell? ⟨g,12,none⟩=some (.bool e.even):=by
 unfold fq at h;simp[World.cell?,h]
theorem fq.free(h:fq W g e)(i:Nat):W.frozen? ⟨g,i,none⟩=false:=by
 unfold fq at h;simp[World.frozen?,h]
abbrev oW(W:World)(g:Nat)(e:En):World:=(((((((((((((W).setCell ⟨g,0,none⟩ (.int .i64 e.ru.kind)).setCell ⟨g,1,none⟩ (.int .u8 e.ru.letter)).setCell ⟨g,2,none⟩ (.int .i64 e.ru.left)).setCell ⟨g,3,none⟩ (.int .i64 e.ru.right)).setCell ⟨g,4,none⟩ (.int .i64 e.ru.times)).setCell ⟨g,5,none⟩ (.int .i64 e.w.len)).setCell ⟨g,6,none⟩ (.int .i64 e.w.lines)).setCell ⟨g,7,none⟩ (.int .i64 e.w.head)).setCell ⟨g,8,none⟩ (.int .i64 e.w.tail)).setCell ⟨g,9,none⟩ (.int .u64 e.w.d.v)).setCell ⟨g,10,none⟩ (.int .u64 e.w.d.s)).setCell ⟨g,11,none⟩ (.int .i64 e.depth)).setCell ⟨g,12,none⟩ (.bool e.even)
theorem fq.set{e0:En}(h:fq W g e0)(e:En):fq (oW W g e) g e:=by
 unfold fq at h⊢;have h1:=aC (i:=0) (.int .i64 e.ru.kind) h;have h2:=aC (i:=1) (.int .u8 e.ru.letter) h1;have h3:=aC (i:=2) (.int .i64 e.ru.left) h2;have h4:=aC (i:=3) (.int .i64 e.ru.right) h3;have h5:=aC (i:=4) (.int .i64 e.ru.times) h4;have h6:=aC (i:=5) (.int .i64 e.w.len) h5;have h7:=aC (i:=6) (.int .i64 e.w.lines) h6;have h8:=aC (i:=7) (.int .i64 e.w.head) h7;have h9:=aC (i:=8) (.int .i64 e.w.tail) h8;have h10:=aC (i:=9) (.int .u64 e.w.d.v) h9;have h11:=aC (i:=10) (.int .u64 e.w.d.s) h10;have h12:=aC (i:=11) (.int .i64 e.depth) h11;have h13:=aC (i:=12) (.bool e.even) h12;simp only[agx,agu,agv]at h13;exact h13
theorem eO{n:Nat}{A:World}(h:Below n A W)(hg:n<=g)(e:En):Below n A (oW W g e):=
 (((((((((((((h).setCell (p:=⟨g,0,none⟩) hg _).setCell (p:=⟨g,1,none⟩) hg _).setCell (p:=⟨g,2,none⟩) hg _).setCell (p:=⟨g,3,none⟩) hg _).setCell (p:=⟨g,4,none⟩) hg _).setCell (p:=⟨g,5,none⟩) hg _).setCell (p:=⟨g,6,none⟩) hg _).setCell (p:=⟨g,7,none⟩) hg _).setCell (p:=⟨g,8,none⟩) hg _).setCell (p:=⟨g,9,none⟩) hg _).setCell (p:=⟨g,10,none⟩) hg _).setCell (p:=⟨g,11,none⟩) hg _).setCell (p:=⟨g,12,none⟩) hg _
end
variable{B g most n0:Nat}{W:World}
theorem rC{E:List En}(h:aW n0 W B most E){i:Nat}(hi:i<=E.length)(hE:E.length<=1048576):
    Calls Tryz.prog 86 #[.pointer (some ⟨B,0,none⟩),.int .i64 i] W λe w'=>e=.returned (DF (aF E i))/\Below W.heap.size W w':=by
 obtain⟨W1,hW1⟩:=ay (W.alloc (.cells #[.int .i64 0,.int .u8 0,.int .i64 0,.int .i64 0,.int .i64 0,.int .i64 0,.int .i64 0,.int .i64 0,.int .i64 0,.int .u64 0,.int .u64 0,.int .i64 0,.bool false] 136));have k1:fq W1 W.heap.size en0:=by rw[<-hW1];exact aD _ _
 have b1:Below W.heap.size W W1:=by rw[<-hW1];exact(af6 _ _).alloc (af7 _) _
 have K1:=ak k1;have B1:=ak b1;obtain⟨lv,mb,h1,h2,h3,h4,h5⟩:=h.below b1;obtain⟨-,c1,-,-⟩:=h1.cells;by_cases h0:i=0
 .subst h0;have HW:aA (aF E 0=⟨⟨0,0,0,0,0⟩,wt [],0,true⟩):=ak rfl;go_enter Tryz.func86,Tryz.ntmps86;go_wp2_with fail
  refine(Oa W1).mono ?_;rintro e w2 ⟨rfl,b2⟩;obtain⟨wu,hwu⟩:=ay (wt []);have ev:wK wu=.agg #[.int .i64 wu.len,.int .i64 wu.lines,.int .i64 wu.head,.int .i64 wu.tail,.int .u64 wu.d.v,.int .u64 wu.d.s]:=rfl;rw[hwu,ev];rw[hwu]at HW;have k2:=au b2 K1.o;obtain⟨x0,x1,x2,x3,x4,x5,x6,x7,x8,x9,x10,vV,vW⟩:=fq.cells k2;have f0:=fq.free k2 0;have f1:=fq.free k2 1;have f2:=fq.free k2 2;have f3:=fq.free k2 3;have f4:=fq.free k2 4;have f5:=fq.free k2 5;have f6:=fq.free k2 6;have f7:=fq.free k2 7;have f8:=fq.free k2 8;have f9:=fq.free k2 9;have f10:=fq.free k2 10;have f11:=fq.free k2 11;have f12:=fq.free k2 12;simp only[en0,w0]at x0 x1 x2 x3 x4 x5 x6 x7 x8 x9 x10 vV vW;obtain⟨w3,hw3⟩:=ay (oW w2 W.heap.size ⟨⟨0,0,0,0,0⟩,wu,0,true⟩);have K3:=ak (fq.set k2 ⟨⟨0,0,0,0,0⟩,wu,0,true⟩);have B3:=ak (eO (Below.after B1.o b2) (af7 _) ⟨⟨0,0,0,0,0⟩,wu,0,true⟩);rw[hw3]at K3 B3;have Zj:(((((((((((((w2).setCell ⟨W.heap.size,0,none⟩ (.int .i64 0)).setCell ⟨W.heap.size,1,none⟩ (.int .u8 0)).setCell ⟨W.heap.size,2,none⟩ (.int .i64 0)).setCell ⟨W.heap.size,3,none⟩ (.int .i64 0)).setCell ⟨W.heap.size,4,none⟩ (.int .i64 0)).setCell ⟨W.heap.size,5,none⟩ (.int .i64 wu.len)).setCell ⟨W.heap.size,6,none⟩ (.int .i64 wu.lines)).setCell ⟨W.heap.size,7,none⟩ (.int .i64 wu.head)).setCell ⟨W.heap.size,8,none⟩ (.int .i64 wu.tail)).setCell ⟨W.heap.size,9,none⟩ (.int .u64 wu.d.v)).setCell ⟨W.heap.size,10,none⟩ (.int .u64 wu.d.s)).setCell ⟨W.heap.size,11,none⟩ (.int .i64 0)).setCell ⟨W.heap.size,12,none⟩ (.bool true)=w3:=hw3;go_wp2_with fail
  obtain⟨x0,x1,x2,x3,x4,x5,x6,x7,x8,x9,x10,vV,vW⟩:=K3.o.cells;exact af_ (v:=DF ⟨⟨0,0,0,0,0⟩,wu,0,true⟩) (by simp[results,Tryz.results86,go_sem,x0,x1,x2,x3,x4,x5,x6,x7,x8,x9,x10,vV,vW]) rfl ⟨by rw[HW.o],B3.o⟩
 have hi0:((i:Int)==0)=false:=by simp;omega
 have hlt:i-1<E.length:=by omega
 obtain⟨g,cap,rfl,-,-,hc⟩:=h2.at hlt;obtain⟨⟨q0,q1,q2,q3,q4⟩,⟨q5,q6,q7,q8,q9,Zq⟩,Zr,Zt⟩:=hc W1 (af6 _ _) (i-1) hlt;have HW:=ak (qm (by omega) hi);generalize E[i-1]=e at *;have hs:IntKind.i64.wrap ((i:Int)-1)=((i-1:Nat):Int):=by rw[agd];omega
 have hi3:((i-1:Nat):Int)<(E.length:Int):=by omega
 have hi4:(0:Int)<=((i-1:Nat):Int):=by omega
 obtain⟨j,hj⟩:=ay (i-1);rw[hj]at hs hi3 hi4 q0 q1 q2 q3 q4 q5 q6 q7 q8 q9 Zq Zr Zt;obtain⟨x0,x1,x2,x3,x4,x5,x6,x7,x8,x9,x10,vV,vW⟩:=k1.cells;have k2:=k1;have f0:=fq.free k2 0;have f1:=fq.free k2 1;have f2:=fq.free k2 2;have f3:=fq.free k2 3;have f4:=fq.free k2 4;have f5:=fq.free k2 5;have f6:=fq.free k2 6;have f7:=fq.free k2 7;have f8:=fq.free k2 8;have f9:=fq.free k2 9;have f10:=fq.free k2 10;have f11:=fq.free k2 11;have f12:=fq.free k2 12;simp only[en0,w0]at x0 x1 x2 x3 x4 x5 x6 x7 x8 x9 x10 vV vW;obtain⟨w3,hw3⟩:=ay (oW W1 W.heap.size e);have K3:=ak (fq.set k1 e);have B3:=ak (eO b1 (af7 _) e);rw[hw3]at K3 B3;simp only[oW]at hw3;go_enter Tryz.func86,Tryz.ntmps86;go_wp2_with fail
 obtain⟨x0,x1,x2,x3,x4,x5,x6,x7,x8,x9,x10,vV,vW⟩:=K3.o.cells;exact af_ (v:=DF e) (by simp[results,Tryz.results86,go_sem,x0,x1,x2,x3,x4,x5,x6,x7,x8,x9,x10,vV,vW]) rfl ⟨by rw[HW.o],B3.o⟩
def eP(W:World)(g:Nat)(r:Ru):Prop:=W.heap[g]?=some (.cells #[.int .i64 r.kind,.int .u8 r.letter,.int .i64 r.left,.int .i64 r.right,.int .i64 r.times] 50 (0,0))
theorem eP.cells{r:Ru}(h:eP W g r):W.cell? ⟨g,0,none⟩=some (.int .i64 r.kind)/\W.cell? ⟨g,1,none⟩=some (.int .u8 r.letter)/\W.cell? ⟨g,2,none⟩=some (.int .i64 r.left)/\W.cell? ⟨g,3,none⟩=some (.int .i64 r.right)/\W.cell? ⟨g,4,none⟩=some (.int .i64 r.times):=by
 unfold eP at h;simp[World.cell?,h]
theorem eP.free{r:Ru}(h:eP W g r)(i:Nat):W.frozen? ⟨g,i,none⟩=false:=by
 unfold eP at h;simp[World.frozen?,h]
theorem eP.set{r0:Ru}(h:eP W g r0)(r:Ru):eP (((((W.setCell ⟨g,0,none⟩ (.int .i64 r.kind)).setCell ⟨g,1,none⟩ (.int .u8 r.letter)).setCell ⟨g,2,none⟩ (.int .i64 r.left)).setCell ⟨g,3,none⟩ (.int .i64 r.right)).setCell ⟨g,4,none⟩ (.int .i64 r.times)) g r:=by
 unfold eP at h⊢;exact aC _ (aC _ (aC _ (aC _ (aC _ h))))
theorem eP.new(W:World)(r:Ru):eP (W.alloc (.cells #[.int .i64 r.kind,.int .u8 r.letter,.int .i64 r.left,.int .i64 r.right,.int .i64 r.times] 50)) W.heap.size r:=aD _ _
theorem rD{E:List En}(h:aW n0 W B most E){r:Ru}(hr:r.ok):
    Calls Tryz.prog 141 #[.pointer (some ⟨B,0,none⟩),qN r] W λe w'=>e=.returned (.tuple #[.int .i64 (fid r 1 E),if fid r 1 E=0/\most<=E.length then err 3 else .nilIface])/\Below W.heap.size W w':=by
 have HF:∀f,Fence.wide.fn f:=λ_=>trivial;unfold qN;obtain⟨W1,hW1⟩:=ay (W.alloc (.cells #[.int .i64 r.kind,.int .u8 r.letter,.int .i64 r.left,.int .i64 r.right,.int .i64 r.times] 50));have k1:eP W1 W.heap.size r:=by rw[<-hW1];exact eP.new _ _
 have b1:Below W.heap.size W W1:=by rw[<-hW1];exact(af6 _ _).alloc (af7 _) _
 have h1:=h.below b1;obtain⟨lv,mb,s1,s2,s3,s4,s5⟩:=h1;obtain⟨a,cap,rfl⟩:=s2.len;have m0:∀w,Below W1.heap.size W1 w->w.cell? ⟨B,0,none⟩=some (.int .i64 most):=λw hw=>(yC.cells (au hw s1)).1;have m1:∀w,Below W1.heap.size W1 w->w.cell? ⟨B,1,none⟩=some (.slice a E.length cap):=λw hw=>(yC.cells (au hw s1)).2.1;have m2:∀w,Below W1.heap.size W1 w->w.cell? ⟨B,2,none⟩=some (.map (some mb)):=λw hw=>(yC.cells (au hw s1)).2.2.1;have q0:∀w,Below W1.heap.size W1 w->w.cell? ⟨W.heap.size,0,none⟩=some (.int .i64 r.kind):=λw hw=>(eP.cells (au hw k1)).1;have q1:∀w,Below W1.heap.size W1 w->w.cell? ⟨W.heap.size,1,none⟩=some (.int .u8 r.letter):=λw hw=>(eP.cells (au hw k1)).2.1;have q2:∀w,Below W1.heap.size W1 w->w.cell? ⟨W.heap.size,2,none⟩=some (.int .i64 r.left):=λw hw=>(eP.cells (au hw k1)).2.2.1;have q3:∀w,Below W1.heap.size W1 w->w.cell? ⟨W.heap.size,3,none⟩=some (.int .i64 r.right):=λw hw=>(eP.cells (au hw k1)).2.2.2.1;have q4:∀w,Below W1.heap.size W1 w->w.cell? ⟨W.heap.size,4,none⟩=some (.int .i64 r.times):=λw hw=>(eP.cells (au hw k1)).2.2.2.2;have lk:∀w,Below W1.heap.size W1 w->(Instr.lookup 138 (.map (some mb)) (.agg #[.int .i64 r.kind,.int .u8 r.letter,.int .i64 r.left,.int .i64 r.right,.int .i64 r.times]) true).run Tryz.prog w=.ok (.tuple #[.int .i64 (fid r 1 E),.bool (decide (fid r 1 E≠0))]) w:=λw hw=>jY.look (s3.below hw) hr;have B1:=ak b1;obtain⟨f,hf⟩:=ay (fid r 1 E);rw[hf];simp only[hf]at lk;by_cases hf0:f=0
 .subst hf0;have hd:decide ((0:Nat)≠0)=false:=rfl;simp only[hd]at lk;by_cases hm:most<=E.length
  case' _=>
   have t:(E.length:Int)>=(most:Int):=by omega
   rw[af5 ⟨rfl,hm⟩]
  rotate_left
  case' _=>
   have t:¬((E.length:Int)>=(most:Int)):=by omega
   rw[af4 (λh=>hm h.2)]
  all_goals
   go_enter Tryz.func141,Tryz.ntmps141;go_wp2_with fail
   refine aU (Below W1.heap.size W1) ?_;have S0:Below W1.heap.size W1 W1.drew:=(af6 _ _).drew;refine bJ 0 1 2 3 4 5 ?_;refine zD 6 7 8 9 10 ?_;refine aO ?_;generalize W1.drew=w2 at S0⊢;go_wp2_with fail
   refine aU (Below W1.heap.size W1) ?_;have S1:Below W1.heap.size W1 w2.drew:=S0.drew;refine bJ 0 1 2 3 4 5 ?_;refine tk4 6 7 8 9 ?_;refine aO ?_;go_wp2_with fail
   go_ret2;exact⟨rfl,Below.after B1.o S1⟩
 have hd:decide (f≠0)=true:=agw hf0;simp only[hd]at lk;rw[af4 (λh=>hf0 h.1)];go_enter Tryz.func141,Tryz.ntmps141;go_wp2_with fail
 refine aU (Below W1.heap.size W1) ?_;have S0:Below W1.heap.size W1 W1.drew:=(af6 _ _).drew;refine bJ 0 1 2 3 4 5 ?_;refine zD 6 7 8 9 10 ?_;refine aO ?_;generalize W1.drew=w2 at S0⊢;go_wp2_with fail
 go_ret2;exact⟨rfl,Below.after B1.o S0⟩
end M
end
section
open Go.RowKit
theorem aP.Fu{α:Type}{B₀:Nat}{W:World}{e:TypeId}{size:Nat}{enc:α->List Value}{v:Value}{l:List α}(h:aP B₀ W e size enc v l){g:Nat}(hg:v.ownBlock=some g):g<W.heap.size:=by
 rcases h.2 with⟨rfl,_⟩|⟨g',cap,cur,rfl,_,hgb,_⟩
 .simp[Value.ownBlock]at hg
 obtain rfl:g'=g:=by simpa[Value.ownBlock]using hg
 exact(aga.1 hgb).1
namespace M
attribute [local go_sem] Oper.semAt_some
variable{B mb most:Nat}{A C W:World}
def Dq(B:Nat)(A:World)(v:Value):Prop:=∃(cs:Array Value) (fz:Nat×Nat),A.heap[B]?=some (.cells cs 140 fz)/\cs[2]?=some v
theorem yC.Zu{lv:Value}(h:yC W B most lv mb):Dq B W (.map (some mb)):=⟨_,_,h,rfl⟩
theorem Dq.inj{u v:Value}(h:Dq B A u)(k:Dq B A v):u=v:=by
 obtain⟨cs,fz,h1,h2⟩:=h;obtain⟨cs2,GY,k1,k2⟩:=k;rw[h1]at k1;simp only[agG,ahY]at k1;rw[<-k1.1,h2]at k2;exact agQ k2
structure Kt(B:Nat)(A C:World):Prop where
 cells:∀t:TypeId,t≠140->t≠136->∀(k:Nat) (cs:Array Value) (fz:Nat×Nat),A.heap[k]?=some (.cells cs t fz)->C.heap[k]?=some (.cells cs t fz)
 map:∀v,Dq B A v->Dq B C v
 others:∀(k:Nat) es c,A.heap[k]?=some (.map es c)->(∃v,Dq B A v/\v≠ .map (some k))->C.heap[k]?=some (.map es c)
theorem Kt.of(h:Below A.heap.size A C):Kt B A C:=⟨λ_ _ _ _ _ _ e=>au h e,λv ⟨cs,fz,e1,e2⟩=>⟨cs,fz,au h e1,e2⟩,λ_ _ _ e _=>au h e⟩
theorem Kt.trans{D:World}(h:Kt B A C)(k:Kt B C D):Kt B A D:=⟨λt a b i cs fz e=>k.cells t a b i cs fz (h.cells t a b i cs fz e),λv e=>k.map v (h.map v e),λi es c e ⟨v,h1,h2⟩=>k.others i es c (h.others i es c e ⟨v,h1,h2⟩) ⟨v,h.map v h1,h2⟩⟩
def oZ(B most mb g:Nat)(lv:Value)(e:En)(w:World):Prop:=yC w B most lv mb/\fq w g e
theorem oZ.below{g:Nat}{lv:Value}{e:En}{w w':World}(h:oZ B most mb g lv e w)(hb:Below w.heap.size w w'):oZ B most mb g lv e w':=⟨au hb h.1,au hb h.2⟩
theorem Bq{n0:Nat}{E:List En}(h:aW n0 W B most E)(e:En)(hr:e.ru.ok)(hnew:fid e.ru 1 E=0)(hE:E.length<=1048576):
    Calls Tryz.prog 143 #[.pointer (some ⟨B,0,none⟩),DF e] W λx w'=>x=.returned (.int .i64 (E.length+1:Nat))/\aW n0 w' B most (E++[e])/\Below n0 W w'/\Kt B W w':=by
 have HF:∀f,Fence.wide.fn f:=λ_=>trivial;unfold DF;obtain⟨W1,hW1⟩:=ay (W.alloc (.cells #[.int .i64 e.ru.kind,.int .u8 e.ru.letter,.int .i64 e.ru.left,.int .i64 e.ru.right,.int .i64 e.ru.times,.int .i64 e.w.len,.int .i64 e.w.lines,.int .i64 e.w.head,.int .i64 e.w.tail,.int .u64 e.w.d.v,.int .u64 e.w.d.s,.int .i64 e.depth,.bool e.even] 136));have k1:fq W1 W.heap.size e:=by rw[<-hW1];exact aD _ _
 have b1:Below W.heap.size W W1:=by rw[<-hW1];exact(af6 _ _).alloc (af7 _) _
 have hlt:=h.lt;obtain⟨lv,mb,z1,z2,z3,z4,z5⟩:=h;obtain⟨a,cap,rfl⟩:=z2.len;have hown:∀g,(Value.slice a E.length cap).ownBlock=some g->g<W.heap.size:=λg hg=>z2.Fu hg;have hBlt:B<W.heap.size:=(aga.1 z1).1;have ace:mb<W.heap.size:=z3.lt;have hBm:B≠mb:=λe=>by
  obtain⟨es,c,hm,-⟩:=z3;unfold yC at z1;rw[<-e,z1]at hm;cases hm
 obtain⟨w2,hw2⟩:=ay (W1.drew);have S0:Below W1.heap.size W1 w2:=by rw[<-hw2];exact(af6 _ _).drew
 have b2:Below W.heap.size W w2:=Below.after b1 S0;have s1:=au b2 z1;have s2:=z2.below b2;have s3:=z3.below b2;have m1:∀w,oZ B most mb W.heap.size (.slice a E.length cap) e w->w.cell? ⟨B,1,none⟩=some (.slice a E.length cap):=λw hw=>(yC.cells hw.1).2.1;have x0:∀w,oZ B most mb W.heap.size (.slice a E.length cap) e w->fq w W.heap.size e:=λw hw=>hw.2;have hx2:fq w2 W.heap.size e:=au S0 k1;have K1:=ak hx2;have S1:=ak s1;have S3:=ak s3;have B2:=ak b2;have HX:=ak (And.intro hlt (And.intro z4 (And.intro z5 (And.intro hBlt (And.intro ace (And.intro hBm hown))))));have HR:=ak (And.intro hr (And.intro hnew hE));have T0:oZ B most mb W.heap.size (.slice a E.length cap) e w2:=⟨s1,hx2⟩;have Z2:=ak s2;have y0:∀w,oZ B most mb W.heap.size (.slice a E.length cap) e w->w.cell? ⟨W.heap.size,0,none⟩=some (.int .i64 e.ru.kind):=λw hw=>(x0 w hw).cells.1;have y1:∀w,oZ B most mb W.heap.size (.slice a E.length cap) e w->w.cell? ⟨W.heap.size,1,none⟩=some (.int .u8 e.ru.letter):=λw hw=>(x0 w hw).cells.2.1;have y2:∀w,oZ B most mb W.heap.size (.slice a E.length cap) e w->w.cell? ⟨W.heap.size,2,none⟩=some (.int .i64 e.ru.left):=λw hw=>(x0 w hw).cells.2.2.1;have y3:∀w,oZ B most mb W.heap.size (.slice a E.length cap) e w->w.cell? ⟨W.heap.size,3,none⟩=some (.int .i64 e.ru.right):=λw hw=>(x0 w hw).cells.2.2.2.1;have y4:∀w,oZ B most mb W.heap.size (.slice a E.length cap) e w->w.cell? ⟨W.heap.size,4,none⟩=some (.int .i64 e.ru.times):=λw hw=>(x0 w hw).cells.2.2.2.2.1;have y5:∀w,oZ B most mb W.heap.size (.slice a E.length cap) e w->w.cell? ⟨W.heap.size,5,none⟩=some (.int .i64 e.w.len):=λw hw=>(x0 w hw).cells.2.2.2.2.2.1;have y6:∀w,oZ B most mb W.heap.size (.slice a E.length cap) e w->w.cell? ⟨W.heap.size,6,none⟩=some (.int .i64 e.w.lines):=λw hw=>(x0 w hw).cells.2.2.2.2.2.2.1;have y7:∀w,oZ B most mb W.heap.size (.slice a E.length cap) e w->w.cell? ⟨W.heap.size,7,none⟩=some (.int .i64 e.w.head):=λw hw=>(x0 w hw).cells.2.2.2.2.2.2.2.1;have y8:∀w,oZ B most mb W.heap.size (.slice a E.length cap) e w->w.cell? ⟨W.heap.size,8,none⟩=some (.int .i64 e.w.tail):=λw hw=>(x0 w hw).cells.2.2.2.2.2.2.2.2.1;have y9:∀w,oZ B most mb W.heap.size (.slice a E.length cap) e w->w.cell? ⟨W.heap.size,9,none⟩=some (.int .u64 e.w.d.v):=λw hw=>(x0 w hw).cells.2.2.2.2.2.2.2.2.2.1;have U0:∀w,oZ B most mb W.heap.size (.slice a E.length cap) e w->w.cell? ⟨W.heap.size,10,none⟩=some (.int .u64 e.w.d.s):=λw hw=>(x0 w hw).cells.2.2.2.2.2.2.2.2.2.2.1;have U1:∀w,oZ B most mb W.heap.size (.slice a E.length cap) e w->w.cell? ⟨W.heap.size,11,none⟩=some (.int .i64 e.depth):=λw hw=>(x0 w hw).cells.2.2.2.2.2.2.2.2.2.2.2.1;have U2:∀w,oZ B most mb W.heap.size (.slice a E.length cap) e w->w.cell? ⟨W.heap.size,12,none⟩=some (.bool e.even):=λw hw=>(x0 w hw).cells.2.2.2.2.2.2.2.2.2.2.2.2;go_enter Tryz.func143,Tryz.ntmps143;go_wp2_with fail
 refine bM (oZ B most mb W.heap.size (.slice a E.length cap) e) (by kernel_rfl) ?_;rw[hw2];refine bJ 0 1 2 3 4 5 ?_;refine aT 6 λK hK=>?_;go_simp;have hb6:Below w2.heap.size w2 (w2.alloc (.cells #[.int .i64 e.ru.kind,.int .u8 e.ru.letter,.int .i64 e.ru.left,.int .i64 e.ru.right,.int .i64 e.ru.times,.int .i64 e.w.len,.int .i64 e.w.lines,.int .i64 e.w.head,.int .i64 e.w.tail,.int .u64 e.w.d.v,.int .u64 e.w.d.s,.int .i64 e.depth,.bool e.even] 136)):=(af6 _ _).alloc (af7 _) _;have T6:=T0.below hb6;refine hK _ _ T6 ?_;obtain⟨v',w3,hrun,hS',hg,hb'⟩:=Qk acd Ml 137 Z2.o e 1 (cs:=#[.int .i64 e.ru.kind,.int .u8 e.ru.letter,.int .i64 e.ru.left,.int .i64 e.ru.right,.int .i64 e.ru.times,.int .i64 e.w.len,.int .i64 e.w.lines,.int .i64 e.w.head,.int .i64 e.w.tail,.int .u64 e.w.d.v,.int .u64 e.w.d.s,.int .i64 e.depth,.bool e.even]) rfl (by simp[enL,Value.oneCell']) (by have:=HR.o.2.2;omega) (af9 HX.o.1 B2.o.size);have hz1:yC w3 B most (.slice a E.length cap) mb:=g_ Z2.o hg T0.1 (by decide);have hz2:fq w3 W.heap.size e:=by
  have h6:=T6.2;unfold fq at h6⊢;rw[hg.block _ (aga.1 h6).1 (λe'=>absurd (HX.o.2.2.2.2.2.2 _ e'.symm) (ahh _))];exact h6
 have HG:=ak hg;have HS':=ak hS';have Od:=ak hb';have HZ2:=ak hz2;have hMR:aA (jY w3 mb E):=ak (by
  obtain⟨es,c,h1,h2⟩:=S3.o;exact⟨es,c,(lQ Z2.o hg).same _ _ h1 rfl,h2⟩)
 refine aT 7 λK hK=>?_;simp[execOp,resolve,invoke,builtin,hrun,Result.andThen,Act.eval,Oper.uponIn];refine hK _ _ ⟨hz1,hz2⟩ ?_;refine aJ.cK 8 (by kernel_rfl) ?_;simp only[agr,agj];obtain⟨n,hn⟩:=ay (E.length+1);have HN:=ak hn;have hlen:(E++[e]).length=n:=by simp[hn]
 obtain⟨va,vc,hv'⟩:=HS'.o.len;rw[hlen]at hv';subst hv';obtain⟨-,g1,-,gf⟩:=hz1.cells;obtain⟨w4,hw4⟩:=ay (w3.setCell ⟨B,1,none⟩ (.slice va n vc));have S4:yC w4 B most (.slice va n vc) mb:=by
  rw[<-hw4];unfold yC at hz1⊢;exact aC _ hz1
 have hB4:Below n0 W w4:=by
  rw[<-hw4];exact((B2.o.mono HX.o.1).trans Od.o).setCell (p:=⟨B,1,none⟩) HX.o.2.1 _
 have E4:Ens n0 w4 (.slice va n vc) (E++[e]):=by
  rw[<-hw4];exact aP.setCell HS'.o _ (a:=⟨B,1,none⟩) hz1 (by decide)
 have M4:jY w4 mb E:=by
  rw[<-hw4];exact jY.of_block hMR.o (agU _ _ _ _ (λe=>HX.o.2.2.2.2.2.1 e.symm))
 have N4:fq w4 W.heap.size e:=by
  rw[<-hw4];exact aB (λe'=>by have:=HX.o.2.2.2.1;omega) HZ2.o
 have KT4:Kt B W w4:=⟨λt h1 h2 k cs fz hk=>by
  rw[<-hw4];refine aB (λe'=>?_) (g_ Z2.o HG.o (au B2.o hk) h2);subst e';have hB:=au B2.o hk;have hS:=S1.o;unfold yC at hS;rw[hS]at hB;simp only[agG,ahY]at hB;exact h1 hB.2.1.symm,λv hv=>by
  have h2:=(Kt.of (B:=B) B2.o).map v hv;rw[h2.inj (yC.Zu S1.o)];exact yC.Zu S4,λk es c hk _=>by
  rw[<-hw4,agU _ _ _ _ (λe'=>?_)]
  .exact(lQ Z2.o HG.o).same _ _ (au B2.o hk) rfl
  have e2:k=B:=e';have hB:=au B2.o hk;have hS:=S1.o;unfold yC at hS;rw[e2,hS]at hB;cases hB⟩
 have lU:=ak S4;have cB:=ak hB4;have U3:=ak E4;have Mm:=ak M4;have HN4:=ak N4;have uF:=ak KT4;obtain⟨-,c1,-,-⟩:=S4.cells;gi_wp2_with fail
 refine NP.normal ?_;go_wp2_with fail
 obtain⟨wd,hwd⟩:=ay (w4.drew);have D0:Below w4.heap.size w4 wd:=by rw[<-hwd];exact(af6 _ _).drew
 obtain⟨w5,hput,hM5,hg5,hs5⟩:=jY.put (Mm.o.below D0) (by have:=HR.o.2.2;omega) e HR.o.1 HR.o.2.1;rw[HN.o]at hput;unfold qN at hput;have n2:∀w,Below w4.heap.size w4 w->w.cell? ⟨B,2,none⟩=some (.map (some mb)):=λw hw=>(yC.cells (au hw lU.o)).2.2.1;have r0:∀w,Below w4.heap.size w4 w->w.cell? ⟨W.heap.size,0,none⟩=some (.int .i64 e.ru.kind):=λw hw=>(fq.cells (au hw HN4.o)).1;have r1:∀w,Below w4.heap.size w4 w->w.cell? ⟨W.heap.size,1,none⟩=some (.int .u8 e.ru.letter):=λw hw=>(fq.cells (au hw HN4.o)).2.1;have r2:∀w,Below w4.heap.size w4 w->w.cell? ⟨W.heap.size,2,none⟩=some (.int .i64 e.ru.left):=λw hw=>(fq.cells (au hw HN4.o)).2.2.1;have r3:∀w,Below w4.heap.size w4 w->w.cell? ⟨W.heap.size,3,none⟩=some (.int .i64 e.ru.right):=λw hw=>(fq.cells (au hw HN4.o)).2.2.2.1;have r4:∀w,Below w4.heap.size w4 w->w.cell? ⟨W.heap.size,4,none⟩=some (.int .i64 e.ru.times):=λw hw=>(fq.cells (au hw HN4.o)).2.2.2.2.1;have dR:aA (aW n0 w5 B most (E++[e])/\Below n0 W w5/\Kt B W w5):=ak (by
  have hmc:∃o:Obj,wd.heap[mb]?=some o/\o.isCells=false:=by
   obtain⟨es,c,h1,-⟩:=Mm.o.below D0;exact⟨_,h1,rfl⟩
  have calm:∀{b:Nat},b<=mb->Ao b wd (some mb):=λ{b} hb r hr=>by cases hr;exact⟨hb,hmc⟩
  refine⟨⟨_,mb,yh hg5 (calm HX.o.2.2.1) (au D0 lU.o),UK hg5 (calm HX.o.2.2.1) (U3.o.below D0),hM5,HX.o.2.1,HX.o.2.2.1⟩,?_,?_⟩
  .have hd:Below n0 W wd:=cB.o.trans (D0.mono (af9 HX.o.1 cB.o.size));exact own_below hg5 (calm HX.o.2.2.1) HX.o.1 (af7 _) hd
  have s5:=yh hg5 (calm HX.o.2.2.1) (au D0 lU.o);refine⟨λt h1 h2 k cs fz hk=>yh hg5 (calm HX.o.2.2.1) (au D0 (uF.o.cells t h1 h2 k cs fz hk)),λv hv=>?_,λk es c hk hne=>?_⟩
  .have h2:=uF.o.map v hv;rw[h2.inj (yC.Zu lU.o)];exact yC.Zu s5
  obtain⟨v,hv,hvk⟩:=hne;have h4:=au D0 (uF.o.others k es c hk ⟨v,hv,hvk⟩);have h2:=(uF.o.map v hv).inj (yC.Zu lU.o);rw[hg5.block k (aga.1 h4).1 (λe'=>?_)]
  .exact h4
  injection e' with e';exact hvk (by rw[h2,e']))
 refine aU (Below w4.heap.size w4) ?_;rw[hwd];refine bJ 0 1 2 3 4 5 ?_;refine tk1 6 ?_;refine aJ.cK 7 (by kernel_rfl) ?_;simp only[agr,agj];gi_wp2_with fail
 go_wp2_with fail
 go_ret;exact⟨by rw[HN.o];rfl,dR.o⟩
end M
end
section
open Go.RowKit
namespace M
attribute [local go_sem] Oper.semAt_some
variable{B i most n0:Nat}{W:World}
def tx(T:List (List Nat))(i:Nat):List Nat:=if i=0 then[]else(T[i-1]?).getD []
def ug(T:List (List Nat))(r:Ru):List Nat:=if r.kind=1 then[r.letter]else if r.kind=2 then tx T r.left++tx T r.right else rep r.times (tx T r.left)
def uU(E:List En):List (List Nat):=E.foldl (λT e=>T++[ug T e.ru]) []
theorem yD(E:List En)(e:En):uU (E++[e])=uU E++[ug (uU E) e.ru]:=by
 unfold uU;rw[ai2];rfl
theorem nX(E:List En):(uU E).length=E.length:=by
 rcases agR E with rfl|⟨E',e,rfl⟩
 .rfl
 .rw[agO,yD,af8,af8,nX E'];rfl
termination_by E.length
decreasing_by simp_all
def txt(E:List En)(i:Nat):List Nat:=tx (uU E) i
theorem cZ(E:List En):txt E 0=[]:=rfl
theorem gB{E:List En}{e:En}(hi:i<=E.length):txt (E++[e]) i=txt E i:=by
 unfold txt tx;by_cases h:i=0
 .rw[af5 h,af5 h]
 rw[af4 h,af4 h,yD,agV (by rw[nX];omega)]
theorem Br(E:List En)(e:En):txt (E++[e]) (E.length+1)=ug (uU E) e.ru:=by
 unfold txt tx;rw[af4 (by omega),yD,agN (by rw[nX];omega),nX];simp
structure Fv(E:List En)(e:En):Prop where
 kind:(e.ru.kind=1/\e.ru.letter<256/\e.ru.left=0/\e.ru.right=0/\e.ru.times=0)\/(e.ru.kind=2/\e.ru.letter=0/\0<e.ru.left/\e.ru.left<=E.length/\0<e.ru.right/\e.ru.right<=E.length/\e.ru.times=0)\/(e.ru.kind=3/\e.ru.letter=0/\0<e.ru.left/\e.ru.left<=E.length/\e.ru.right=0/\2<=e.ru.times/\e.ru.times<=1152921504606846976)
 w:e.w=wt (ug (uU E) e.ru)
 len:(ug (uU E) e.ru).length<=1152921504606846976
 pos:0<(ug (uU E) e.ru).length
 depth:e.depth<=E.length
inductive Wf:List En->Prop
 |nil:Wf []
 |snoc {E:List En} {e:En}:Wf E->Fv E e->Wf (E++[e])
theorem Wf.get{E:List En}(h:Wf E):∀i,0<i->i<=E.length->(aF E i).w=wt (txt E i)/\(txt E i).length<=1152921504606846976/\0<(txt E i).length/\(aF E i).depth+1<=i:=by
 induction h with
 |nil=>intro i h1 h2;simp at h2;omega
 | @snoc E e hE he ih=>
  intro i h1 h2;rw[af8,agk]at h2;by_cases hi:i<=E.length
  .obtain⟨a,b,c,d⟩:=ih i h1 hi;have e1:aF (E++[e]) i=aF E i:=by
    unfold aF;rw[af4 (by omega),af4 (by omega),agV (by omega)]
   rw[gB hi,e1];exact⟨a,b,c,d⟩
  obtain rfl:i=E.length+1:=by omega
  have e1:aF (E++[e]) (E.length+1)=e:=by
   unfold aF;rw[af4 (by omega),agN (by omega)];simp
  rw[Br,e1];exact⟨he.w,he.len,he.pos,by have:=he.depth;omega⟩
def fA(E:List En)(e:En):List En×Nat:=if fid e.ru 1 E=0 then(E++[e],E.length+1)else(E,fid e.ru 1 E)
def letE(b:Nat):En:=⟨⟨1,b,0,0,0⟩,wt [b],0,true⟩
theorem Mo(E:List En){b:Nat}(hb:b<256):Fv E (letE b):=⟨.inl ⟨rfl,hb,rfl,rfl,rfl⟩,rfl,by show([b]:List Nat).length<=_;simp,by show 0<([b]:List Nat).length;simp,agb _⟩
theorem Bt{E:List En}(h:aW n0 W B most E)(b:Nat)(hb:b<256)(hroom:E.length<most)(hE:E.length<=1048575):
    Calls Tryz.prog 128 #[.pointer (some ⟨B,0,none⟩),.int .u8 b] W λx w'=>x=.returned (.tuple #[.int .i64 (fA E (letE b)).2,.nilIface])/\aW n0 w' B most (fA E (letE b)).1/\Below n0 W w'/\Kt B W w':=by
 have HF:∀f,Fence.wide.fn f:=λ_=>trivial;have hlt:=h.lt;obtain⟨Wz,uV⟩:=ay (W.alloc (.cells #[.int .i64 0,.int .u8 0,.int .i64 0,.int .i64 0,.int .i64 0] 50));have k0:eP Wz W.heap.size ⟨0,0,0,0,0⟩:=by rw[<-uV];exact aD _ _
 have b0:Below W.heap.size W Wz:=by rw[<-uV];exact(af6 _ _).alloc (af7 _) _
 obtain⟨z0,z1,z2,z3,z4⟩:Wz.cell? ⟨W.heap.size,0,none⟩=some (.int .i64 0)/\Wz.cell? ⟨W.heap.size,1,none⟩=some (.int .u8 0)/\Wz.cell? ⟨W.heap.size,2,none⟩=some (.int .i64 0)/\Wz.cell? ⟨W.heap.size,3,none⟩=some (.int .i64 0)/\Wz.cell? ⟨W.heap.size,4,none⟩=some (.int .i64 0):=k0.cells;have y0:=k0.free 0;have y1:=k0.free 1;have y2:=k0.free 2;have y3:=k0.free 3;have y4:=k0.free 4;obtain⟨W1,hW1⟩:=ay (((((Wz.setCell ⟨W.heap.size,0,none⟩ (.int .i64 1)).setCell ⟨W.heap.size,1,none⟩ (.int .u8 b)).setCell ⟨W.heap.size,2,none⟩ (.int .i64 0)).setCell ⟨W.heap.size,3,none⟩ (.int .i64 0)).setCell ⟨W.heap.size,4,none⟩ (.int .i64 0));have k1:eP W1 W.heap.size ⟨1,b,0,0,0⟩:=by rw[<-hW1];exact k0.set ⟨1,b,0,0,0⟩
 have b1:Below W.heap.size W W1:=by
  rw[<-hW1];exact((((b0.setCell (p:=⟨W.heap.size,0,none⟩) (af7 _) _).setCell (p:=⟨W.heap.size,1,none⟩) (af7 _) _).setCell (p:=⟨W.heap.size,2,none⟩) (af7 _) _).setCell (p:=⟨W.heap.size,3,none⟩) (af7 _) _).setCell (p:=⟨W.heap.size,4,none⟩) (af7 _) _
 have H1:=ak (h.below b1);have K1:=ak k1;have B1:=ak b1;have iI:=ak hlt;have hok:(letE b).ru.ok:=⟨by show 1<=_;omega,by show b<=255;omega,agb _,agb _,agb _⟩;have mF:=ak hok;obtain⟨c0,c1,c2,c3,c4⟩:W1.cell? ⟨W.heap.size,0,none⟩=some (.int .i64 1)/\W1.cell? ⟨W.heap.size,1,none⟩=some (.int .u8 b)/\W1.cell? ⟨W.heap.size,2,none⟩=some (.int .i64 0)/\W1.cell? ⟨W.heap.size,3,none⟩=some (.int .i64 0)/\W1.cell? ⟨W.heap.size,4,none⟩=some (.int .i64 0):=k1.cells;obtain⟨f,hf⟩:=ay (fid (letE b).ru 1 E);have PY:=ak hf;have HA:aA (fA E (letE b)=if f=0 then(E++[letE b],E.length+1)else(E,f)):=ak (by unfold fA;rw[hf]);have jZ:=ak (rD H1.o mF.o);rw[hf]at jZ;by_cases hf0:f=0
 .rw[af4 (λh=>by have:=h.2;omega)]at jZ;rw[HA.o,af5 hf0];subst hf0;go_enter Tryz.func128,Tryz.ntmps128;go_wp2_with fail
  refine jZ.o.mono ?_;rintro e w2 ⟨rfl,b2⟩;have B2:=ak b2;have q:∀w,Below w2.heap.size w2 w->eP w W.heap.size ⟨1,b,0,0,0⟩:=λw hw=>au (Below.after B2.o hw) K1.o;have q0:∀w,Below w2.heap.size w2 w->w.cell? ⟨W.heap.size,0,none⟩=some (.int .i64 1):=λw hw=>(q w hw).cells.1;have q1:∀w,Below w2.heap.size w2 w->w.cell? ⟨W.heap.size,1,none⟩=some (.int .u8 b):=λw hw=>(q w hw).cells.2.1;have q2:∀w,Below w2.heap.size w2 w->w.cell? ⟨W.heap.size,2,none⟩=some (.int .i64 0):=λw hw=>(q w hw).cells.2.2.1;have q3:∀w,Below w2.heap.size w2 w->w.cell? ⟨W.heap.size,3,none⟩=some (.int .i64 0):=λw hw=>(q w hw).cells.2.2.2.1;have q4:∀w,Below w2.heap.size w2 w->w.cell? ⟨W.heap.size,4,none⟩=some (.int .i64 0):=λw hw=>(q w hw).cells.2.2.2.2;go_wp2_with fail
  refine bM (Below w2.heap.size w2) (by kernel_rfl) ?_;have S0:Below w2.heap.size w2 w2.drew:=(af6 _ _).drew;refine tk3 0 1 2 ?_;refine aT 3 λK hK=>?_;go_simp
  try with_reducible refine⟨rfl,?_⟩
  refine agq.2 ((Hr w2.drew b hb).mono ?_);rintro e w3 ⟨rfl,b3⟩;have S3:=Below.after S0 b3;obtain⟨u,hu⟩:=ay (wt [b]);have HU:=ak hu;have ev:wK u=.agg #[.int .i64 u.len,.int .i64 u.lines,.int .i64 u.head,.int .i64 u.tail,.int .u64 u.d.v,.int .u64 u.d.s]:=rfl;rw[hu,ev];refine hK _ _ S3 ?_;refine tk1 4 ?_;refine aJ.cK 5 (by kernel_rfl) ?_;simp only[agr,agj];have hle:letE b=⟨⟨1,b,0,0,0⟩,u,0,true⟩:=by unfold letE;rw[HU.o]
  have HAD:=ak (Bq (H1.o.below (Below.after B2.o S3)) (letE b) mF.o PY.o (by omega));have hev:DF (letE b)=.agg #[.int .i64 1,.int .u8 b,.int .i64 0,.int .i64 0,.int .i64 0,.int .i64 u.len,.int .i64 u.lines,.int .i64 u.head,.int .i64 u.tail,.int .u64 u.d.v,.int .u64 u.d.s,.int .i64 0,.bool true]:=by rw[hle];rfl
  rw[hev]at HAD;have B3:=ak (Below.after B2.o S3);gi_wp2_with fail
  refine⟨rfl,agq.2 (HAD.o.mono ?_)⟩;rintro e w4 ⟨rfl,hS,hB,hK⟩;have HS:=ak hS;have HB:=ak (show Below n0 W w4 from((B1.o.mono iI.o).trans (B3.o.mono (af9 iI.o B1.o.size))).trans hB);have HK:=ak (((Kt.of B1.o).trans (Kt.of B3.o)).trans hK);gi_wp2_with fail
  refine NP.normal ?_;go_wp2_with fail
  go_ret2;exact⟨by simp,HS.o,HB.o,HK.o⟩
 rw[af4 (λh=>hf0 h.1)]at jZ;rw[HA.o,af4 hf0];have hfn:((f:Int) !=0)=true:=by simp;omega
 go_enter Tryz.func128,Tryz.ntmps128;go_wp2_with fail
 refine jZ.o.mono ?_;rintro e w2 ⟨rfl,b2⟩;have B2:=ak b2;go_wp2_with fail
 go_ret2;exact⟨rfl,H1.o.below b2,(B1.o.mono iI.o).trans (b2.mono (af9 iI.o B1.o.size)),(Kt.of B1.o).trans (Kt.of b2)⟩
theorem iK{E:List En}(h:aW n0 W B most E)(h0:0<i)(hi:i<=E.length)(hE:E.length<=1048576):
    Calls Tryz.prog 19 #[.pointer (some ⟨B,0,none⟩),.int .i64 i] W λe w'=>e=.returned (.tuple #[qN (aF E i).ru,.nilIface])/\Below W.heap.size W w':=by
 obtain⟨W1,hW1⟩:=ay (W.alloc (.cells #[.int .i64 0,.int .u8 0,.int .i64 0,.int .i64 0,.int .i64 0] 50));have k1:eP W1 W.heap.size ⟨0,0,0,0,0⟩:=by rw[<-hW1];exact aD _ _
 have b1:Below W.heap.size W W1:=by rw[<-hW1];exact(af6 _ _).alloc (af7 _) _
 have QG:=ak (fH (h.below b1) (i:Int));rw[agw (show 0<=(i:Int)/\(i:Int)<=(E.length:Int) by omega)]at QG;obtain⟨lv,mb,h1,h2,h3,h4,h5⟩:=h.below b1;obtain⟨-,c1,-,-⟩:=h1.cells;have hi0:((i:Int)==0)=false:=by simp;omega
 have hlt:i-1<E.length:=by omega
 obtain⟨g,cap,rfl,-,-,hc⟩:=h2.at hlt;obtain⟨⟨q0,q1,q2,q3,q4⟩,-⟩:=hc W1 (af6 _ _) (i-1) hlt;have HW:=ak (qm h0 hi);generalize E[i-1]=e at *;have hs:IntKind.i64.wrap ((i:Int)-1)=((i-1:Nat):Int):=by rw[agd];omega
 have hi3:((i-1:Nat):Int)<(E.length:Int):=by omega
 have hi4:(0:Int)<=((i-1:Nat):Int):=by omega
 obtain⟨j,hj⟩:=ay (i-1);rw[hj]at hs hi3 hi4 q0 q1 q2 q3 q4;obtain⟨x0,x1,x2,x3,x4⟩:W1.cell? ⟨W.heap.size,0,none⟩=some (.int .i64 0)/\W1.cell? ⟨W.heap.size,1,none⟩=some (.int .u8 0)/\W1.cell? ⟨W.heap.size,2,none⟩=some (.int .i64 0)/\W1.cell? ⟨W.heap.size,3,none⟩=some (.int .i64 0)/\W1.cell? ⟨W.heap.size,4,none⟩=some (.int .i64 0):=k1.cells;have f0:=k1.free 0;have f1:=k1.free 1;have f2:=k1.free 2;have f3:=k1.free 3;have f4:=k1.free 4;obtain⟨w3,hw3⟩:=ay (((((W1.setCell ⟨W.heap.size,0,none⟩ (.int .i64 e.ru.kind)).setCell ⟨W.heap.size,1,none⟩ (.int .u8 e.ru.letter)).setCell ⟨W.heap.size,2,none⟩ (.int .i64 e.ru.left)).setCell ⟨W.heap.size,3,none⟩ (.int .i64 e.ru.right)).setCell ⟨W.heap.size,4,none⟩ (.int .i64 e.ru.times));have K3:aA (eP w3 W.heap.size e.ru):=ak (by rw[<-hw3];exact k1.set e.ru);have B3:aA (Below W.heap.size W w3):=ak (by
  rw[<-hw3];exact((((b1.setCell (p:=⟨W.heap.size,0,none⟩) (af7 _) _).setCell (p:=⟨W.heap.size,1,none⟩) (af7 _) _).setCell (p:=⟨W.heap.size,2,none⟩) (af7 _) _).setCell (p:=⟨W.heap.size,3,none⟩) (af7 _) _).setCell (p:=⟨W.heap.size,4,none⟩) (af7 _) _)
 go_enter Tryz.func19,Tryz.ntmps19;go_wp2_with fail
 refine QG.o.mono ?_;rintro e' w4 ⟨rfl,h⟩;rw[h];go_wp2_with fail
 obtain⟨x0,x1,x2,x3,x4⟩:=K3.o.cells;exact af_ (v:=.tuple #[qN e.ru,.nilIface]) (by simp[results,Tryz.results19,go_sem,x0,x1,x2,x3,x4]) rfl ⟨by rw[HW.o],B3.o⟩
theorem dS{E:List En}(h:aW n0 W B most E)(hi:i<=E.length)(hE:E.length<=1048576):
    Calls Tryz.prog 36 #[.pointer (some ⟨B,0,none⟩),.int .i64 i] W λe w'=>e=.returned (.tuple #[wK (aF E i).w,.nilIface])/\Below W.heap.size W w':=by
 obtain⟨W1,hW1⟩:=ay (W.alloc (.cells #[.int .i64 0,.int .i64 0,.int .i64 0,.int .i64 0,.int .u64 0,.int .u64 0] 92));have k1:dz W1 W.heap.size w0:=by rw[<-hW1];exact aD _ _
 have b1:Below W.heap.size W W1:=by rw[<-hW1];exact(af6 _ _).alloc (af7 _) _
 have QG:=ak (fH (h.below b1) (i:Int));rw[agw (show 0<=(i:Int)/\(i:Int)<=(E.length:Int) by omega)]at QG;have HAT:=ak (rC (h.below b1) hi hE);have hfl:∀(a b c d e f g h i j k l m:Value) (w:World),(Instr.field 136 (.agg #[a,b,c,d,e,f,g,h,i,j,k,l,m]) 1).run Tryz.prog w=.ok (.agg #[f,g,h,i,j,k]) w:=λ_ _ _ _ _ _ _ _ _ _ _ _ _ _=>by kernel_rfl
 have K1:=ak k1;have B1:=ak b1;obtain⟨e,he⟩:=ay (aF E i);rw[he]at HAT⊢;unfold DF at HAT;go_enter Tryz.func36,Tryz.ntmps36;go_wp2_with fail
 refine QG.o.mono ?_;rintro e' w4 ⟨rfl,h⟩;rw[h];go_wp2_with fail
 refine HAT.o.mono ?_;rintro e' w2 ⟨rfl,b2⟩;have k2:=au b2 K1.o;obtain⟨x0,x1,x2,x3,x4,x5⟩:=dz.cells k2;have f0:=dz.free k2 0;have f1:=dz.free k2 1;have f2:=dz.free k2 2;have f3:=dz.free k2 3;have f4:=dz.free k2 4;have f5:=dz.free k2 5;simp only[w0]at x0 x1 x2 x3 x4 x5;have K3:=ak (dz.set k2 e.w);have B3:=ak (bY (Below.after B1.o b2) (af7 _) e.w);obtain⟨w3,hw3⟩:=ay (setW w2 W.heap.size e.w);rw[hw3]at K3 B3;simp only[setW]at hw3;go_wp2_with fail
 obtain⟨x0,x1,x2,x3,x4,x5⟩:=K3.o.cells;exact af_ (v:=.tuple #[wK e.w,.nilIface]) (by simp[results,Tryz.results36,go_sem,x0,x1,x2,x3,x4,x5]) rfl ⟨rfl,B3.o⟩
end M
end
section
open Go.RowKit Go.Lib
namespace M
attribute [local go_sem] Oper.semAt_some
theorem QH(W:World)(n:Nat)(hn:n<=1048576):Calls Tryz.prog 66 #[.int .i64 n] W λe w'=>∃B,e=.returned (.pointer (some ⟨B,0,none⟩))/\aW W.heap.size w' B n []/\Below W.heap.size W w':=by
 have hmm:= @akr Tryz.prog;have hc:(if(n:Int)<0 then(0:Int)else if(n:Int)>1048576 then 1048576 else(n:Int))=(n:Int):=by
  rw[af4 (by omega),af4 (by omega)]
 go_enter Tryz.func66,Tryz.ntmps66;go_wp2_with fail
 refine(wJ W n 0 1048576).mono ?_;rintro e w ⟨rfl,h⟩;rw[h,hc];go_wp2_with fail
 go_ret;refine⟨_,rfl,⟨.slice none 0 0,W.heap.size,?_,aP.nil _ _ _ _ _,?_,by simp,af7 _⟩,?_⟩
 .have:=aD (W.alloc (.map #[] 0)) (.cells #[.int .i64 n,.slice none 0 0,.map (some W.heap.size)] 140);rw[ag1]at this;exact this
 .exact(jY.made W).below ((af6 _ _).alloc (af7 _) _)
 exact((af6 _ W).alloc (af7 _) _).alloc (by simp) _
end M
end
end Go.Proofs.YtgbhohfabhilgaaGreatDoor
