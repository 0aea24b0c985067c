import Derived.Test.YtgbhohfabhilgaaGreatDoorBase03
import Derived.Test.YtgbhohfabhilgaaGreatDoorBase04
set_option maxRecDepth 100000
set_option maxHeartbeats 8000000
set_option linter.unusedVariables false
set_option linter.unusedSimpArgs false
namespace Go.Proofs.YtgbhohfabhilgaaGreatDoor
section
open Go.RowKit Go.Lib
namespace M
attribute [local go_sem] Oper.semAt_some
variable{g n0:Nat}{v1 v2:Value}{w:Wt}
theorem Fp(W:World)(k x y:Nat)(hk:k<18446744073709551616)(hx:x<18446744073709551616)(hy:y<18446744073709551616):
    Calls Tryz.prog 149 #[.int .u64 k,.int .u64 x,.int .u64 y] W λe w'=>e=.returned (.int .u64 (qL k x y:Nat))/\w'=W:=by
 have hP:∀z:Nat,z%P<18446744073709551616:=λz=>aiQ (ahb z (by decide:0<P)) (by decide)
 have A1:=ak (qd W 1234567890123456789 x (by omega) hx)
 have A2:=ak (qd W 987654321987654321 y (by omega) hy)
 have A3:=ak (Fh W _ _ (hP (1234567890123456789*x)) (hP (987654321987654321*y)))
 have A4:=ak (Fh W k _ hk (hP (1234567890123456789*x%P+987654321987654321*y%P)))
 have A5:=ak (wH W _ 17 (hP (k+(1234567890123456789*x%P+987654321987654321*y%P)%P)) (by omega))
 have e:(k+(1234567890123456789*x%P+987654321987654321*y%P)%P)%P=((k+(1234567890123456789*x%P+987654321987654321*y%P)%P)%P):=rfl
 have e0:((k+(1234567890123456789*x%P+987654321987654321*y%P)%P)%P)^17%P=qL k x y:=rfl
 rw[e0]at A5
 clear e e0
 obtain⟨a,ha⟩:=ay (1234567890123456789*x%P)
 obtain⟨b,hb⟩:=ay (987654321987654321*y%P)
 rw[ha,hb]at A3 A4 A5
 rw[ha]at A1
 rw[hb]at A2
 obtain⟨c,hc⟩:=ay ((a+b)%P)
 rw[hc]at A3 A4 A5
 obtain⟨d,hd⟩:=ay ((k+c)%P)
 rw[hd]at A4 A5
 obtain⟨r,hr⟩:=ay (qL k x y)
 rw[hr]at A5⊢
 clear hP ha hb hc hd hr hk hx hy
 go_enter Tryz.func149,Tryz.ntmps149
 go_wp2_with fail
 refine A1.o.mono ?_;rintro e w1 ⟨rfl,h⟩;rw[h];clear h w1
 go_wp2_with fail
 refine A2.o.mono ?_;rintro e w1 ⟨rfl,h⟩;rw[h];clear h w1
 go_wp2_with fail
 refine A3.o.mono ?_;rintro e w1 ⟨rfl,h⟩;rw[h];clear h w1
 go_wp2_with fail
 refine A4.o.mono ?_;rintro e w1 ⟨rfl,h⟩;rw[h];clear h w1
 go_wp2_with fail
 refine A5.o.mono ?_;rintro e w1 ⟨rfl,h⟩;rw[h];clear h w1
 go_wp2_with fail
 go_ret
 exact⟨rfl,rfl⟩
def xV(n:Nat):Nat×Bool:=if n<2\/n%2=1 then(0,false)else((n/2-1)%123,true)
theorem Bn(W:World)(n:Nat)(hn:n<=9223372036854775807):
    Calls Tryz.prog 221 #[.int .i64 n] W λe w'=>e=.returned (.tuple #[.int .i64 (xV n).1,.bool (xV n).2])/\w'=W:=by
 by_cases h2:n<2
 .have e:xV n=(0,false):=by unfold xV;rw[af5 (.inl h2)]
  rw[e]
  have t:(n:Int)<2:=by omega
  clear e h2
  go_enter Tryz.func221,Tryz.ntmps221
  go_wp2_with fail
  go_ret2
  exact⟨by simp,rfl⟩
 .have t:¬(n:Int)<2:=by omega
  by_cases ho:n%2=1
  .have e:xV n=(0,false):=by unfold xV;rw[af5 (.inr ho)]
   rw[e]
   have t2:(n:Int)%2=1:=by omega
   clear e h2
   go_enter Tryz.func221,Tryz.ntmps221
   go_wp2_with fail
   go_ret2
   exact⟨by simp,rfl⟩
  .have e:xV n=((n/2-1)%123,true):=by unfold xV;rw[af4 (by omega)]
   rw[e]
   have t2:(n:Int)%2=0:=by omega
   have t3:((n:Int)/2-1)%123=(((n/2-1)%123:Nat):Int):=by omega
   obtain⟨c,hc⟩:=ay ((n/2-1)%123)
   rw[hc]at t3⊢
   clear e hc
   go_enter Tryz.func221,Tryz.ntmps221
   go_wp2_with fail
   go_ret2
   exact⟨by simp[t3],rfl⟩
def Au(n:Nat):Nat×Nat×Bool:=if(xV n).2=false then(0,0,false)else if(xV n).1=122 then(0,0,true)else((xV n).1/2,(xV n).1%2,false)
theorem uR(W:World)(n:Nat)(hn:n<=9223372036854775807):
    Calls Tryz.prog 205 #[.int .i64 n] W λe w'=>e=.returned (.tuple #[.int .i64 (Au n).1,.int .u64 (Au n).2.1,.bool (Au n).2.2])/\w'=W:=by
 have A1:=ak (Bn W n hn)
 have e:Au n=if(xV n).2=false then(0,0,false)else if(xV n).1=122 then(0,0,true)else((xV n).1/2,(xV n).1%2,false):=rfl
 have hc:(xV n).1<=122:=by unfold xV;split<;>(dsimp only;omega)
 generalize Au n=r at *
 generalize xV n=q at *
 obtain⟨c,b⟩:=q
 dsimp only at e hc A1
 cases b with
 |false=>
  rw[af5 rfl]at e
  subst e
  go_enter Tryz.func205,Tryz.ntmps205
  go_wp2_with fail
  refine A1.o.mono ?_;rintro e w1 ⟨rfl,h⟩;rw[h];clear h w1
  go_wp2_with fail
  go_ret3
  exact⟨by simp,rfl⟩
 |true=>
  rw[af4 (by simp)]at e
  by_cases h:c=122
  .rw[af5 h]at e
   subst e;subst h
   go_enter Tryz.func205,Tryz.ntmps205
   go_wp2_with fail
   refine A1.o.mono ?_;rintro e w1 ⟨rfl,h⟩;rw[h];clear h w1
   go_wp2_with fail
   go_ret3
   exact⟨by simp,rfl⟩
  .rw[af4 h]at e
   subst e
   have h1:((c:Int)==122)=false:=agh.2 (by omega)
   have w1:IntKind.u64.wrap ((c:Int)%2)=((c%2:Nat):Int):=by rw[ag4];omega
   go_enter Tryz.func205,Tryz.ntmps205
   go_wp2_with fail
   refine A1.o.mono ?_;rintro e w1 ⟨rfl,h⟩;rw[h];clear h w1
   go_wp2_with fail
   go_ret3
   exact⟨by simp,rfl⟩
theorem and_one(a:Nat)(ha:a<18446744073709551616):bits .and .u64 (a:Int) 1=((a%2:Nat):Int):=by
 have h:=ai5 a 1 ha (by omega)
 rw[Nat.and_one_is_mod]at h
 exact h
theorem div_pow(x b:Nat):(x:Int)/2^b=((x/2^b:Nat):Int):=by
 rw[show(2:Int)^b=((2^b:Nat):Int) by simp,<-Int.natCast_ediv]
theorem Qw(W:World)(x y n:Nat)(hx:x<18446744073709551616)(hy:y<18446744073709551616)(hn:n<=9223372036854775807):
    Calls Tryz.prog 224 #[.int .u64 x,.int .u64 y,.int .i64 n] W λe w'=>e=.returned (.bool (fits n x y))/\w'=W:=by
 have A1:=ak (Bn W n hn)
 by_cases h0:n<2\/n%2=1
 .have e:xV n=(0,false):=by unfold xV;rw[af5 h0]
  have e2:fits n x y=false:=by
   cases h:fits n x y with
   |false=>rfl
   |true=>have:=sV h;omega
  rw[e]at A1
  rw[e2]
  clear e e2 h0
  go_enter Tryz.func224,Tryz.ntmps224
  go_wp2_with fail
  refine A1.o.mono ?_;rintro e w1 ⟨rfl,h⟩;rw[h];clear h w1
  go_wp2_with fail
  go_ret
  exact⟨rfl,rfl⟩
 .have e:xV n=((n/2-1)%123,true):=by unfold xV;rw[af4 h0]
  rw[e]at A1
  rw[Ar (by omega) (by omega)]
  have hc:(n/2-1)%123<=122:=by omega
  generalize(n/2-1)%123=c at *
  clear e h0 hn
  unfold qM
  by_cases h:c=122
  .rw[af5 h]
   subst h
   go_enter Tryz.func224,Tryz.ntmps224
   go_wp2_with fail
   refine A1.o.mono ?_;rintro e w1 ⟨rfl,h⟩;rw[h];clear h w1
   go_wp2_with fail
   go_ret
   refine⟨?_,rfl⟩
   congr 2
   by_cases q:x=y<;>simp[q]<;>omega
  .rw[af4 h]
   have h1:((c:Int)==122)=false:=agh.2 (by omega)
   have w1:IntKind.u64.wrap ((c:Int)%2)=((c%2:Nat):Int):=by rw[ag4];omega
   obtain⟨b,hb⟩:=ay (c/2)
   have hb2:(c:Int)/2=(b:Int):=by omega
   have hbt:((b:Int)).toNat=b:=by omega
   have hb0:(0:Int)<=(b:Int):=by omega
   have ab5:(b:Int)<=64:=by omega
   obtain⟨o,ho⟩:=ay (c%2)
   have ho2:o<2:=by omega
   rw[ho]at w1⊢
   rw[hb]
   obtain⟨xb,hxb⟩:=ay (x/2^b)
   obtain⟨yb,hyb⟩:=ay (y/2^b)
   have hxl:xb<18446744073709551616:=by rw[<-hxb];exact ajy (ain _ _) hx
   have hyl:yb<18446744073709551616:=by rw[<-hyb];exact ajy (ain _ _) hy
   have x1:(x:Int)/2^b=(xb:Int):=by rw[div_pow,hxb]
   have y1:(y:Int)/2^b=(yb:Int):=by rw[div_pow,hyb]
   have x2:=and_one xb hxl
   have y2:=and_one yb hyl
   have w2:IntKind.u64.wrap (1-(o:Int))=((1-o:Nat):Int):=by rw[ag4];omega
   rw[hxb,hyb]
   clear hxb hyb hb ho
   go_enter Tryz.func224,Tryz.ntmps224
   go_wp2_with fail
   refine A1.o.mono ?_;rintro e w1 ⟨rfl,h⟩;rw[h];clear h w1
   by_cases q:xb%2=o
   .have q1:(((xb%2:Nat):Int)==(o:Int))=true:=by simp only[ahf];omega
    go_wp2_with fail
    go_ret
    refine⟨?_,rfl⟩
    congr 2
    by_cases r:yb%2=1-o
    .simp[q,r];omega
    .simp[q,r];omega
   .have q1:(((xb%2:Nat):Int)==(o:Int))=false:=agh.2 (by omega)
    go_wp2_with fail
    go_ret
    refine⟨?_,rfl⟩
    congr 2
    simp[q]
def Tab(W:World):Prop:=∀j,j<64->W.cell? ⟨0,j,none⟩=some (.int .u8 (Lib.deBruijn64tab.getD j 0))
theorem Zl(x a:Nat)(hx:x<18446744073709551616)(hx0:x≠0)(hlow:x &&& (18446744073709551616-x)=a):
    IntKind.u64.wrap (bits BinOp.and IntKind.u64 (x:Int) (IntKind.u64.wrap (-(x:Int)))*285870213051353865)/288230376151711744=((a*285870213051353865%18446744073709551616/288230376151711744:Nat):Int):=by
 have e1:IntKind.u64.wrap (-(x:Int))=((18446744073709551616-x:Nat):Int):=by rw[ag4];omega
 rw[e1,ai5 x _ hx (by omega),hlow,ag4]
 omega
theorem tz64_core(W:World)(x k idx:Nat)(hx0:((x:Int)==0)=false)(key:IntKind.u64.wrap (bits BinOp.and IntKind.u64 (x:Int) (IntKind.u64.wrap (-(x:Int)))*285870213051353865)/288230376151711744=(idx:Int))
    (hi:idx<64) (hk:k<64) (hcell:W.cell? ⟨0,idx,none⟩=some (.int .u8 k)):
    Calls Tryz.prog 217 #[.int .u64 x] W λe w'=>e=.returned (.int .i64 k)/\w'=W:=by
 go_enter Tryz.func217,Tryz.ntmps217
 go_wp2_with (simp only[key])
 go_ret
 exact⟨rfl,rfl⟩
theorem Qx(W:World)(x:Nat)(hx:x<18446744073709551616)(h0:x≠0)(hT:Tab W):
    Calls Tryz.prog 217 #[.int .u64 x] W λe w'=>e=.returned (.int .i64 (Lib.ctz 64 x:Nat))/\w'=W:=by
 obtain⟨hlow,hk⟩:=Lib.lowest_bit 64 x h0 hx
 obtain⟨hi,htab⟩:=Lib.deBruijn64_at _ hk
 have hcell:=hT _ hi
 rw[htab]at hcell
 exact tz64_core W x _ _ (agh.2 (by omega)) (Zl x _ hx h0 hlow) hi hk hcell
theorem zG(W:World)(c x y:Nat)(hc:c<=122)(hx:x<2305843009213693952)(hy:y<2305843009213693952)(hT:Tab W):
    Calls Tryz.prog 194 #[.int .i64 c,.int .u64 x,.int .u64 y] W λe w'=>e=.returned (.int .i64 (uf c x y))/\w'=W:=by
 by_cases he:x=y
 .have e:uf c x y=122:=by unfold uf;rw[af5 he]
  rw[e]
  have t:((x:Int)==(y:Int))=true:=by simp[he]
  clear e he
  go_enter Tryz.func194,Tryz.ntmps194
  go_wp2_with fail
  go_ret
  exact⟨rfl,rfl⟩
 .have t:((x:Int)==(y:Int))=false:=agh.2 (by omega)
  by_cases h122:c=122
  .have e:uf c x y= -1:=by unfold uf;rw[af4 he,af5 h122]
   rw[e]
   have t2:((c:Int)==122)=true:=by simp[h122]
   clear e he
   go_enter Tryz.func194,Tryz.ntmps194
   go_wp2_with fail
   go_ret
   exact⟨rfl,rfl⟩
  .have t2:((c:Int)==122)=false:=agh.2 (by omega)
   have hb60:c/2<=60:=by omega
   have e:uf c x y=if uQ c x y=0 then -1 else((2*Lib.ctz 64 (uQ c x y)+x/2^Lib.ctz 64 (uQ c x y)%2:Nat):Int):=by unfold uf;rw[af4 he,af4 h122]
   rw[e]
   obtain⟨b,hb⟩:=ay (c/2)
   have hb2:(c:Int)/2=(b:Int):=by omega
   have hbt:((b:Int)).toNat=b:=by omega
   have hb0:(0:Int)<=(b:Int):=by omega
   have ab5:(b:Int)<=64:=by omega
   have hpb:2^b<=2^60:=aj0 (by omega) (by omega)
   have ab6:2^b<18446744073709551616:=by omega
   have hxy:x ^^^ y<18446744073709551616:=by
    have:=Nat.xor_lt_two_pow (n:=61) (x:=x) (y:=y) (by omega) (by omega)
    omega
   have b1:=bits_xor_u64_nat x y (by omega) (by omega)
   have b2:=ai5 (x ^^^ y) 2305843009213693951 hxy (by omega)
   have ab7:=Mi c x y
   obtain⟨d0,hd0⟩:=ay ((x ^^^ y) &&& 2305843009213693951)
   have hd0l:d0<=2305843009213693951:=by rw[<-hd0];exact Nat.and_le_right
   obtain⟨d1,hd1⟩:=ay (d0/2^b)
   have s1:(d0:Int)/2^b=(d1:Int):=by rw[div_pow,hd1]
   obtain⟨d2,hd2⟩:=ay (d1*2^b)
   have hd2l:d2<=d0:=by rw[<-hd2,<-hd1];exact akN _ _
   have s2:IntKind.u64.wrap ((d1:Int)*2^b)=(d2:Int):=by
    rw[show(d1:Int)*2^b=(d2:Int) by rw[<-hd2];simp,ag4];omega
   obtain⟨xb,hxb⟩:=ay (x/2^b)
   have hxl:xb<18446744073709551616:=by rw[<-hxb];have:=ain x (2^b);omega
   have x1:(x:Int)/2^b=(xb:Int):=by rw[div_pow,hxb]
   have x2:=and_one xb hxl
   have Fq:uQ c x y=if c%2=1/\xb%2=0 then d2 &&& (18446744073709551615-2^b)else d2:=by
    unfold uQ
    dsimp only
    rw[hb,hd0,hd1,hd2,hxb]
   rw[hd0]at b2
   rw[show((2305843009213693951:Nat):Int)=2305843009213693951 from rfl]at b2
   have fin:∀d:Nat,d<2305843009213693952->∀{Q:Ending->World->Prop},(d≠0->∀z:Nat,Lib.ctz 64 d=z->z<=63):=λd hd Q h0 z hz=>by
    have:=(Lib.lowest_bit 64 d h0 (by omega)).2
    omega
   have HT:=ak hT;have HD:=ak ab7
   obtain⟨pb,Zm⟩:=ay (2^b)
   have w38:IntKind.u64.wrap (2^b)=(pb:Int):=by
    rw[show(2:Int)^b=((2^b:Nat):Int) by simp,Zm,ag4];omega
   have an:=u64_andNot_nat d2 pb (by omega) (by omega)
   have HTZ:=ak (λd (h1:d<2305843009213693952) (h2:d≠0)=>Qx W d (by omega) h2 hT)
   have ab8:∀z:Nat,z<=63->∃xz:Nat,(x:Int)/2^z=(xz:Int)/\bits .and .u64 (xz:Int) 1=((xz%2:Nat):Int)/\x/2^z=xz:=λz hz=>⟨x/2^z,div_pow x z,and_one _ (by have:=ain x (2^z);omega),rfl⟩
   have kH:=ak ab8
   have HCZ:=ak (λd (h1:d<2305843009213693952) (h2:d≠0)=>fin d h1 (Q:=λ_ _=>True) h2 _ rfl)
   obtain⟨o,ho⟩:=ay (c%2)
   have ho2:o<2:=by omega
   have hoi:(c:Int)%2=(o:Int):=by omega
   rw[ho]at Fq
   rw[Zm]at Fq
   clear e he h122 fin ab8 hT ab7 hb hpb Zm ab6
   by_cases hz:o=1/\xb%2=0
   .rw[af5 hz]at Fq
    have z1:((o:Int)==1)=true:=by simp[hz.1]
    have z2:(((xb%2:Nat):Int)==0)=true:=by simp[hz.2]
    obtain⟨d,hd⟩:=ay (d2 &&& (18446744073709551615-pb))
    rw[hd]at Fq an
    rw[Fq]at HD⊢
    clear Fq hd
    by_cases h0:d=0
    .rw[af5 h0]
     have y1:((d:Int)==0)=true:=by simp[h0]
     go_enter Tryz.func194,Tryz.ntmps194
     go_wp2_with fail
     go_ret
     exact⟨rfl,rfl⟩
    .rw[af4 h0]
     have y1:((d:Int)==0)=false:=agh.2 (by omega)
     have TZ:=ak (HTZ.o d HD.o h0)
     obtain⟨z,hz0⟩:=ay (Lib.ctz 64 d)
     have Zn:z<=63:=by rw[<-hz0];exact HCZ.o d HD.o h0
     obtain⟨xz,v1,v2,v3⟩:=kH.o z Zn
     rw[hz0]at TZ⊢
     rw[v3]
     have vz:((z:Int)).toNat=z:=by omega
     have vz0:(0:Int)<=(z:Int):=by omega
     have vz64:(z:Int)<=64:=by omega
     clear hz0 v3 HTZ kH HCZ
     go_enter Tryz.func194,Tryz.ntmps194
     go_wp2_with fail
     refine TZ.o.mono ?_;rintro e w1 ⟨rfl,h⟩;rw[h];clear h w1
     go_wp2_with fail
     go_ret
     refine⟨?_,rfl⟩
     congr 2
     try simp
     try omega
   .rw[af4 hz]at Fq
    rw[Fq]at HD⊢
    clear Fq
    have cases:(((o:Int)==1)=false)\/(((o:Int)==1)=true/\(((xb%2:Nat):Int)==0)=false):=by
     by_cases q:o=1
     .exact .inr ⟨by simp[q],agh.2 (by omega)⟩
     .exact .inl (agh.2 (by omega))
    have Qy:=ak cases
    clear cases hz
    by_cases h0:d2=0
    .rw[af5 h0]
     have y1:((d2:Int)==0)=true:=by simp[h0]
     rcases Qy.o with z1|⟨z1,z2⟩
     all_goals
      go_enter Tryz.func194,Tryz.ntmps194
      go_wp2_with fail
      go_ret
      exact⟨rfl,rfl⟩
    .rw[af4 h0]
     have y1:((d2:Int)==0)=false:=agh.2 (by omega)
     have TZ:=ak (HTZ.o d2 HD.o h0)
     obtain⟨z,hz0⟩:=ay (Lib.ctz 64 d2)
     have Zn:z<=63:=by rw[<-hz0];exact HCZ.o d2 HD.o h0
     obtain⟨xz,v1,v2,v3⟩:=kH.o z Zn
     rw[hz0]at TZ⊢
     rw[v3]
     have vz:((z:Int)).toNat=z:=by omega
     have vz0:(0:Int)<=(z:Int):=by omega
     have vz64:(z:Int)<=64:=by omega
     clear hz0 v3 HTZ kH HCZ
     rcases Qy.o with z1|⟨z1,z2⟩
     all_goals
      go_enter Tryz.func194,Tryz.ntmps194
      go_wp2_with fail
      refine TZ.o.mono ?_;rintro e w1 ⟨rfl,h⟩;rw[h];clear h w1
      go_wp2_with fail
      go_ret
      refine⟨?_,rfl⟩
      congr 2
      try simp
      try omega
structure Dz(w:Wt):Prop where
 good:Good w
 le:w.len<=1152921504606846976
 v:w.d.v<2305843009213693951
 z:w.len=0->w.d.v=0
 s:w.d.s=bs^w.len%P
theorem Mj{t:List Nat}(h:t.length<=1152921504606846976):Dz (wt t):=⟨Fj t,h,Kl t,λe=>by
 have:t=[]:=ahw e
 subst this;rfl,rfl⟩
theorem Dz.dok(h:Dz w):w.d.ok:=⟨by have:=h.v;omega,by rw[h.s];exact aiQ (ahb _ Ea) UO⟩
theorem Zo(W:World)(w:Wt):∃W1,W.alloc (.cells #[.int .i64 w.len,.int .i64 w.lines,.int .i64 w.head,.int .i64 w.tail,.int .u64 w.d.v,.int .u64 w.d.s] 92)=W1/\dz W1 W.heap.size w/\Below W.heap.size W W1:=⟨_,rfl,aD _ _,(af6 _ _).alloc (af7 _) _⟩
theorem uS(W:World)(hw:Dz w):Calls Tryz.prog 173 #[.agg #[.int .i64 w.len,.int .i64 w.lines,.int .i64 w.head,.int .i64 w.tail,.int .u64 w.d.v,.int .u64 w.d.s]] W λe w'=>e=.returned (.bool true)/\Below W.heap.size W w':=by
 have HF:∀f,Fence.wide.fn f:=λ_=>trivial;obtain⟨⟨g1,g2,g3⟩,h1,h2,h3,h4⟩:=hw;obtain⟨l,n,h,t,v,s⟩:=w;dsimp only at *;obtain⟨W1,hW1,k1,b1⟩:=Zo W ⟨l,n,h,t,v,s⟩;dsimp only at hW1;obtain⟨c0,c1,c2,c3,c4,c5⟩:=k1.cells;dsimp only at c0 c1 c2 c3 c4 c5;have K1:=ak k1;have B1:=ak b1;have H4:=ak h4;have H1:=ak h1;have m0:∀w,Below W1.heap.size W1 w->w.cell? ⟨W.heap.size,0,none⟩=some (.int .i64 l):=λw h=>(dz.cells (au h k1)).1;have m5:∀w,Below W1.heap.size W1 w->w.cell? ⟨W.heap.size,5,none⟩=some (.int .u64 s):=λw h=>(dz.cells (au h k1)).2.2.2.2.2;have hwl:IntKind.u64.wrap (l:Int)=(l:Int):=by rw[ag4];omega
 have zb:decide ((2305843009213693951:Int)<=(v:Int))=false:=agD (by omega);have hse:((s:Int)==((bs^l%P:Nat):Int))=true:=by rw[h4];simp
 clear k1 b1 h4;go_enter Tryz.func173,Tryz.ntmps173;go_wp2_with fail
 refine(oQ W1 h1).mono ?_;rintro e w1 ⟨rfl,h⟩;rw[h];clear h w1;clear h1;have H2:=ak h2;clear h2;have n0:¬((n:Int)<0):=by omega
 by_cases hn:n=0
 .obtain⟨rfl,rfl⟩:=g1 hn;subst hn;have nn:((0:Int)==0)=true:=rfl;have hh:((t:Int) !=(t:Int))=false:=by simp
  clear g1 g2 g3;by_cases hl:t=0
  case' _=>
   have hv:=h3 hl;subst hl hv;go_wp2_with fail
   clear c0 c1 c2 c3 c4 c5 hW1;refine dD (S:=Below W1.heap.size W1) ((af6 _ _).drew) λw2 S0=>?_;refine bJ 0 1 2 3 4 5 ?_;refine aT 6 λK hK=>?_;go_simp
   try with_reducible refine⟨rfl,?_⟩
   refine agq.2 ((wH w2 1103515245 0 (by omega) (by have:=H1.o;omega)).mono ?_)
  rotate_left
  case' _=>
   have hl0:((t:Int)==0)=false:=by simp;omega
   go_wp2_with fail
   clear c0 c1 c2 c3 c4 c5 hW1;refine dD (S:=Below W1.heap.size W1) ((af6 _ _).drew) λw2 S0=>?_;refine bJ 0 1 2 3 4 5 ?_;refine aT 6 λK hK=>?_;go_simp
   try with_reducible refine⟨rfl,?_⟩
   refine agq.2 ((wH w2 1103515245 t (by omega) (by have:=H1.o;omega)).mono ?_)
  all_goals
   rintro e w ⟨rfl,h⟩;rw[h];clear h w;refine hK _ _ S0 ?_;clear hK K;refine tk2 7 8 ?_;refine aO ?_;have B2:=ak (Below.after B1.o S0);clear S0 m0 m5;gi_wp2_with fail
   go_wp2_with fail
   go_ret;exact⟨by simp[H4.o,bs],B2.o⟩
 have nn:((n:Int)==0)=false:=by simp;omega
 have gg:=g2 (by omega);have hl0:((l:Int)==0)=false:=by simp;omega
 have i1:¬((h:Int)<0):=by omega
 have i2:¬((h:Int)>(l:Int)):=by omega
 have i3:¬((t:Int)<0):=by omega
 have i4:¬((t:Int)>(l:Int)-(h:Int)):=by omega
 have u1:IntKind.i64.wrap ((l:Int)-(h:Int))=(l:Int)-(h:Int):=by rw[agd];have:=H1.o;omega
 have u2:IntKind.i64.wrap ((l:Int)-(h:Int)-(t:Int))=(l:Int)-(h:Int)-(t:Int):=by rw[agd];have:=H1.o;omega
 have i5:¬((n:Int)>(l:Int)-(h:Int)-(t:Int)):=by omega
 by_cases hn1:n=1
 case' _=>
  have g4:=g3 hn1;have e1:((n:Int)==1)=true:=by simp[hn1]
  have e2:((l:Int)-(h:Int)-(t:Int) !=1)=false:=by simp;omega
  clear g1 g2 g3 gg g4 hn hn1
 rotate_left
 case' _=>
  have e1:((n:Int)==1)=false:=by simp;omega
  clear g1 g2 g3 gg hn hn1
 all_goals
  go_wp2_with fail
  clear c0 c1 c2 c3 c4 c5 hW1;refine dD (S:=Below W1.heap.size W1) ((af6 _ _).drew) λw2 S0=>?_;refine bJ 0 1 2 3 4 5 ?_;refine aT 6 λK hK=>?_;go_simp
  try with_reducible refine⟨rfl,?_⟩
  refine agq.2 ((wH w2 1103515245 l (by omega) (by have:=H1.o;omega)).mono ?_);rintro e w ⟨rfl,h⟩;rw[h];clear h w;refine hK _ _ S0 ?_;clear hK K;refine tk2 7 8 ?_;refine aO ?_;have B2:=ak (Below.after B1.o S0);clear S0 m0 m5;gi_wp2_with fail
  go_wp2_with fail
  go_ret;exact⟨by simp[H4.o,bs],B2.o⟩
def UW(n0:Nat)(v:Value)(w:World):Prop:=∃B,v=.pointer (some ⟨B,0,none⟩)/\n0<=B/\dz w B w0
def PPj(n0:Nat)(v1 v2:Value)(j:Nat)(v:Value)(w:World):Prop:=match j with
 |14=>v=v1
 |15=>v=v2
 |16=>UW n0 v w
 |_=>True
theorem PPj.mono(j:Nat)(v:Value)(w w':World)(h:PPj n0 v1 v2 j v w)(hb:Below w.heap.size w w'):PPj n0 v1 v2 j v w':=by
 unfold PPj at *;split
 .exact h
 .exact h
 .obtain⟨B,h1,h2,h3⟩:=h;exact⟨B,h1,h2,au hb h3⟩
 .trivial
theorem dz.set2{W:World}(h:dz W g w)(x:Nat):dz (W.setCell ⟨g,2,none⟩ (.int .i64 x)) g { w with head:=x }:=by
 unfold dz at h⊢
 exact aC _ h
theorem dz.Zp{W:World}(h:dz W g w)(x:Nat):dz (W.setCell ⟨g,3,none⟩ (.int .i64 x)) g { w with tail:=x }:=by
 unfold dz at h⊢
 exact aC _ h
theorem Oc(W:World){a b:Wt}(ha:Dz a)(hb:Dz b)(hl:a.len+b.len<=1152921504606846976):
    Calls Tryz.prog 162 #[wK a,wK b] W λe w'=>e=.returned (.tuple #[wK (lF a b),.nilIface])/\Below W.heap.size W w':=by
 have HF:∀f,Fence.wide.fn f:=λ_=>trivial;obtain⟨W1,hW1⟩:=ay (((W.alloc (.cells #[.int .i64 a.len,.int .i64 a.lines,.int .i64 a.head,.int .i64 a.tail,.int .u64 a.d.v,.int .u64 a.d.s] 92)).alloc (.cells #[.int .i64 b.len,.int .i64 b.lines,.int .i64 b.head,.int .i64 b.tail,.int .u64 b.d.v,.int .u64 b.d.s] 92)).alloc (.cells #[.int .i64 0,.int .i64 0,.int .i64 0,.int .i64 0,.int .u64 0,.int .u64 0] 92));have k1:dz W1 W.heap.size a:=by
  rw[<-hW1];exact au ((af6 _ _).alloc (af7 _) _) (au ((af6 _ _).alloc (af7 _) _) (aD W _))
 have k2:dz W1 (W.heap.size+1) b:=by
  rw[<-hW1];have:=aD (W.alloc (.cells #[.int .i64 a.len,.int .i64 a.lines,.int .i64 a.head,.int .i64 a.tail,.int .u64 a.d.v,.int .u64 a.d.s] 92)) (.cells #[.int .i64 b.len,.int .i64 b.lines,.int .i64 b.head,.int .i64 b.tail,.int .u64 b.d.v,.int .u64 b.d.s] 92);rw[ag1]at this;exact au ((af6 _ _).alloc (af7 _) _) this
 have k3:dz W1 (W.heap.size+1+1) w0:=by
  rw[<-hW1];have:=aD ((W.alloc (.cells #[.int .i64 a.len,.int .i64 a.lines,.int .i64 a.head,.int .i64 a.tail,.int .u64 a.d.v,.int .u64 a.d.s] 92)).alloc (.cells #[.int .i64 b.len,.int .i64 b.lines,.int .i64 b.head,.int .i64 b.tail,.int .u64 b.d.v,.int .u64 b.d.s] 92)) (.cells #[.int .i64 0,.int .i64 0,.int .i64 0,.int .i64 0,.int .u64 0,.int .u64 0] 92);simp only[ag1]at this;exact this
 have b1:Below W.heap.size W W1:=by
  rw[<-hW1];exact(((af6 _ W).alloc (af7 _) _).alloc (by simp) _).alloc (by simp only[ag1];omega) _
 have hsz:W.heap.size+1+1<W1.heap.size:=(aga.1 k3).1;have K1:=ak k1;have K2:=ak k2;have K3:=ak k3;have B1:=ak b1;have HZ:=ak hsz;have HA:=ak ha;have HB:=ak hb;have HL:=ak hl;obtain⟨a0,a1,a2,a3,a4,a5⟩:=k1.cells;obtain⟨e0,e1,e2,e3,e4,e5⟩:=k2.cells;clear k1 k2 k3 b1 ha hb hl hsz;unfold wK;go_enter Tryz.func162,Tryz.ntmps162;go_wp2_with fail
 refine(uS W1 HA.o).mono ?_;rintro e w2 ⟨rfl,b2⟩;have B2:=ak b2;have k2:=au b2 K2.o;obtain⟨e0,e1,e2,e3,e4,e5⟩:=dz.cells k2;clear b2 k2 hW1;go_wp2_with fail
 refine(uS w2 HB.o).mono ?_;rintro e w3 ⟨rfl,b3⟩;have B3:=ak (Below.after B2.o b3);have k1:=au B3.o K1.o;have k2:=au B3.o K2.o;obtain⟨a0,a1,a2,a3,a4,a5⟩:=dz.cells k1;obtain⟨e0,e1,e2,e3,e4,e5⟩:=dz.cells k2;clear b3 k1 k2;go_wp2_with fail
 refine(lD w3 (by have:=HA.o.le;omega) (by have:=HB.o.le;omega)).mono ?_;rintro e w4 ⟨rfl,h⟩;rw[af5 HL.o,h];clear h w4;obtain⟨n,hn⟩:=ay (a.len+b.len);have HN:=ak hn;rw[hn];clear hn;go_wp2_with fail
 have m:∀w,Below w3.heap.size w3 w->dz w W.heap.size a/\dz w (W.heap.size+1) b:=λw h=>⟨au (Below.after B3.o h) K1.o,au (Below.after B3.o h) K2.o⟩;have ma1:∀w,Below w3.heap.size w3 w->w.cell? ⟨W.heap.size,1,none⟩=some (.int .i64 a.lines):=λw h=>((m w h).1.cells).2.1;have ma2:∀w,Below w3.heap.size w3 w->w.cell? ⟨W.heap.size,2,none⟩=some (.int .i64 a.head):=λw h=>((m w h).1.cells).2.2.1;have ma4:∀w,Below w3.heap.size w3 w->w.cell? ⟨W.heap.size,4,none⟩=some (.int .u64 a.d.v):=λw h=>((m w h).1.cells).2.2.2.2.1;have ma5:∀w,Below w3.heap.size w3 w->w.cell? ⟨W.heap.size,5,none⟩=some (.int .u64 a.d.s):=λw h=>((m w h).1.cells).2.2.2.2.2;have mb1:∀w,Below w3.heap.size w3 w->w.cell? ⟨W.heap.size+1,1,none⟩=some (.int .i64 b.lines):=λw h=>((m w h).2.cells).2.1;have mb3:∀w,Below w3.heap.size w3 w->w.cell? ⟨W.heap.size+1,3,none⟩=some (.int .i64 b.tail):=λw h=>((m w h).2.cells).2.2.2.1;have mb4:∀w,Below w3.heap.size w3 w->w.cell? ⟨W.heap.size+1,4,none⟩=some (.int .u64 b.d.v):=λw h=>((m w h).2.cells).2.2.2.2.1;have mb5:∀w,Below w3.heap.size w3 w->w.cell? ⟨W.heap.size+1,5,none⟩=some (.int .u64 b.d.s):=λw h=>((m w h).2.cells).2.2.2.2.2;obtain⟨l,hl⟩:=ay (a.lines+b.lines);obtain⟨j,hj⟩:=ay (mU a.d b.d);have H6:=ak hl;have HJ:=ak hj;have hwl:IntKind.i64.wrap ((a.lines:Int)+(b.lines:Int))=(l:Int):=by
  have g1:=HA.o.good;have g2:=HB.o.good;have l1:a.lines<=a.len:=by rcases agP a.lines with h|h;omega;have:=g1.some h;omega
  have l2:b.lines<=b.len:=by rcases agP b.lines with h|h;omega;have:=g2.some h;omega
  have:=HL.o;rw[agd];omega
 clear hl hj m a0 a1 a2 a3 a4 a5 e0 e1 e2 e3 e4 e5;refine aU (Below w3.heap.size w3) ?_;have S0:Below w3.heap.size w3 w3.drew:=(af6 _ _).drew;refine bJ 0 1 2 3 4 5 ?_;refine bJ 6 7 8 9 10 11 ?_;refine tk2 12 13 ?_;clear ma1 ma2 ma4 ma5 mb1 mb3 mb4 mb5;refine aJ.Kj [14,15,16] 17 (λx=>match x with|15=>[14]|_=>[]) (λx=>match x with|14=>45|15=>46|_=>8) (PPj w3.heap.size (Ap j) (.agg #[.int .i64 n,.int .i64 l,.int .i64 a.head,.int .i64 b.tail,.int .u64 j.v,.int .u64 j.s])) (λx=>x==16) (by kernel_rfl) (by kernel_rfl) (aju (by kernel_rfl)) HF S0 (λx _ v w w' h hb=>PPj.mono x v w w' h hb) ?box ?step ?tail
 case box=>
  intro x hx hal v w h;simp only[agm,ahA,ahD]at hx;rcases hx with rfl|rfl|rfl
  .cases hal
  .cases hal
  obtain⟨B,h1,h2,h3⟩:=h;exact⟨B,h1,(aga.1 h3).1⟩
 case step=>
  intro x hx vs w hS hP K hK;simp only[agm,ahA,ahD]at hx;rcases hx with rfl|rfl|rfl
  .refine iH.mk rfl (by rfl) ?_;simp only[mP,aho,ag5,Act.put,agx,agu,agv]at hK⊢;go_simp;refine⟨rfl,agq.2 ((sU w HA.o.dok HB.o.dok).mono ?_)⟩;rintro e w4 ⟨rfl,b4⟩;rw[HJ.o];exact hK _ _ (Below.after hS b4) b4 rfl (λh=>absurd h (by decide))
  .have UY:vs 14=Ap j:=hP 14 (by simp);refine iH.mk rfl (by rfl) ?_;simp only[mP,aho,ag5,UY,Act.put,agx,agu,agv]at hK⊢;unfold Ap at hK⊢;go_simp;exact hK _ _ hS (af6 _ _) rfl (λh=>absurd h (by decide))
  refine iH.mk rfl (by rfl) ?_;simp only[mP,aho,ag5,Act.put,agx,agu,agv]at hK⊢;go_simp;exact hK _ _ (hS.alloc hS.size _) ((af6 _ _).alloc (af7 _) _) ⟨_,rfl,hS.size,aD _ _⟩ (λ_=>rfl)
 intro vs w hS hP hD;have UY:vs 14=Ap j:=hP 14 (by simp);have h15:vs 15=_:=hP 15 (by simp);obtain⟨B,e16,lB,nB⟩:UW w3.heap.size (vs 16) w:=hP 16 (by simp);clear hP hD;simp only[mP,aho,ag5,UY,h15,e16,Act.put,agx,agu,agv,agr,agj];clear UY h15 e16 vs;obtain⟨x0,x1,x2,x3,x4,x5⟩:=nB.cells;have f0:=nB.free 0;have f1:=nB.free 1;have f2:=nB.free 2;have f3:=nB.free 3;have f4:=nB.free 4;have f5:=nB.free 5;have K4:=ak (nB.set ⟨n,l,a.head,b.tail,j⟩);have B4:=ak (bY hS lB ⟨n,l,a.head,b.tail,j⟩);obtain⟨w4,hw4⟩:∃w',setW w B ⟨n,l,a.head,b.tail,j⟩=w':=⟨_,rfl⟩;rw[hw4]at K4 B4;simp only[setW]at hw4;have jX:=ak lB;simp only[w0]at x0 x1 x2 x3 x4 x5;have bw4:Below w3.heap.size w3 w4:=B4.o;have UZ:dz w4 B ⟨n,l,a.head,b.tail,j⟩:=K4.o;have hB1:W.heap.size+1+1<B:=by have:=HZ.o;have:=B3.o.size;omega
 have qa:=au (Below.after B3.o bw4) K1.o;have qb:=au (Below.after B3.o bw4) K2.o;have QA:=ak qa;have QB:=ak qb;have HB1:=ak hB1;obtain⟨a0,a1,a2,a3,a4,a5⟩:=dz.cells qa;obtain⟨e0,e1,e2,e3,e4,e5⟩:=dz.cells qb;have g2:=UZ.free 2;have g3:=UZ.free 3;obtain⟨y0,y1,y2,y3,y4,y5⟩:=UZ.cells;clear qa qb bw4 UZ lB hB1 nB S0 hS hwl;by_cases h1:a.lines=0
 .have z1:((a.lines:Int)==0)=true:=by simp[h1]
  have u1:IntKind.i64.wrap ((a.len:Int)+(b.head:Int))=((a.len+b.head:Nat):Int):=by
   have l1:b.head<=b.len:=by rcases agP b.lines with h|h;have:=HB.o.good.none h;omega;have:=HB.o.good.some h;omega
   have:=HL.o;rw[agd];omega
  obtain⟨x,hx⟩:=ay (a.len+b.head);rw[hx]at u1;obtain⟨w5,eH⟩:=ay (w4.setCell ⟨B,2,none⟩ (.int .i64 x));have K5:aA (dz w5 B ⟨n,l,x,b.tail,j⟩):=ak (by rw[<-eH];exact K4.o.set2 x);have B5:aA (Below w3.heap.size w3 w5):=ak (by rw[<-eH];exact B4.o.setCell (p:=⟨B,2,none⟩) jX.o _);have k5:=K5.o;obtain⟨y0,y1,y2,y3,y4,y5⟩:=k5.cells;have g3:=k5.free 3;have qa:=au (Below.after B3.o B5.o) K1.o;have qb:=au (Below.after B3.o B5.o) K2.o;obtain⟨a0,a1,a2,a3,a4,a5⟩:=dz.cells qa;obtain⟨e0,e1,e2,e3,e4,e5⟩:=dz.cells qb;clear k5 qa qb;by_cases h2:b.lines=0
  case' _=>
   have z2:((b.lines:Int)==0)=true:=by simp[h2]
   have u2:IntKind.i64.wrap ((b.len:Int)+(a.tail:Int))=((b.len+a.tail:Nat):Int):=by
    have l1:a.tail<=a.len:=(by rcases agP a.lines with h|h;have:=HA.o.good.none h;omega;have:=HA.o.good.some h;omega);have:=HL.o;rw[agd];omega
   obtain⟨y,hy⟩:=ay (b.len+a.tail);rw[hy]at u2;obtain⟨w6,dH⟩:=ay (w5.setCell ⟨B,3,none⟩ (.int .i64 y));have K6:aA (dz w6 B ⟨n,l,x,y,j⟩):=ak (by rw[<-dH];exact K5.o.Zp y);have B6:aA (Below w3.heap.size w3 w6):=ak (by rw[<-dH];exact B5.o.setCell (p:=⟨B,3,none⟩) jX.o _);have k6:=K6.o;obtain⟨y0,y1,y2,y3,y4,y5⟩:=k6.cells;clear k6;have HX:aA (lF a b=⟨n,l,x,y,j⟩):=ak (by unfold lF;rw[HN.o,H6.o,HJ.o,af5 h1,hx,af5 h2,hy]);have k0:dz w6 (W.heap.size+1+1) w0:=au (Below.after B3.o B6.o) K3.o
  rotate_left
  case' _=>
   have z2:((b.lines:Int)==0)=false:=by simp;omega
   have HX:aA (lF a b=⟨n,l,x,b.tail,j⟩):=ak (by unfold lF;rw[HN.o,H6.o,HJ.o,af5 h1,hx,af4 h2]);have k0:dz w5 (W.heap.size+1+1) w0:=au (Below.after B3.o B5.o) K3.o
  rotate_left
  all_goals
   obtain⟨r0,r1,r2,r3,r4,r5⟩:=k0.cells;have t0:=k0.free 0;have t1:=k0.free 1;have t2:=k0.free 2;have t3:=k0.free 3;have t4:=k0.free 4;have t5:=k0.free 5;simp only[w0]at r0 r1 r2 r3 r4 r5
  case' _=>
   have KF:=ak (k0.set ⟨n,l,x,y,j⟩);have BF:=ak (bY (Below.after B1.o (Below.after B3.o B6.o)) (g:=W.heap.size+1+1) (by omega) ⟨n,l,x,y,j⟩);obtain⟨w9,dI⟩:∃w',setW w6 (W.heap.size+1+1) ⟨n,l,x,y,j⟩=w':=⟨_,rfl⟩
  rotate_left
  case' _=>
   have KF:=ak (k0.set ⟨n,l,x,b.tail,j⟩);have BF:=ak (bY (Below.after B1.o (Below.after B3.o B5.o)) (g:=W.heap.size+1+1) (by omega) ⟨n,l,x,b.tail,j⟩);obtain⟨w9,dI⟩:∃w',setW w5 (W.heap.size+1+1) ⟨n,l,x,b.tail,j⟩=w':=⟨_,rfl⟩
  rotate_left
  all_goals
   rw[dI]at KF BF;simp only[setW]at dI;clear k0 h1 h2;gi_wp2_with fail
   go_wp2_with fail
   obtain⟨c0,c1,c2,c3,c4,c5⟩:=KF.o.cells
  .exact af_ (v:=.tuple #[.agg #[.int .i64 n,.int .i64 l,.int .i64 x,.int .i64 y,.int .u64 j.v,.int .u64 j.s],.nilIface]) (by simp[results,Tryz.results162,go_sem,c0,c1,c2,c3,c4,c5]) rfl ⟨by rw[HX.o],BF.o⟩
  exact af_ (v:=.tuple #[.agg #[.int .i64 n,.int .i64 l,.int .i64 x,.int .i64 b.tail,.int .u64 j.v,.int .u64 j.s],.nilIface]) (by simp[results,Tryz.results162,go_sem,c0,c1,c2,c3,c4,c5]) rfl ⟨by rw[HX.o],BF.o⟩
 have z1:((a.lines:Int)==0)=false:=by simp;omega
 have K5:=K4;have B5:=B4;obtain⟨w5,eH⟩:=ay (w4);subst eH;by_cases h2:b.lines=0
 case' _=>
  have z2:((b.lines:Int)==0)=true:=by simp[h2]
  have u2:IntKind.i64.wrap ((b.len:Int)+(a.tail:Int))=((b.len+a.tail:Nat):Int):=by
   have l1:a.tail<=a.len:=by rcases agP a.lines with h|h;have:=HA.o.good.none h;omega;have:=HA.o.good.some h;omega
   have:=HL.o;rw[agd];omega
  obtain⟨y,hy⟩:=ay (b.len+a.tail);rw[hy]at u2;obtain⟨w6,dH⟩:=ay (w4.setCell ⟨B,3,none⟩ (.int .i64 y));have K6:aA (dz w6 B ⟨n,l,a.head,y,j⟩):=ak (by rw[<-dH];exact K5.o.Zp y);have B6:aA (Below w3.heap.size w3 w6):=ak (by rw[<-dH];exact B5.o.setCell (p:=⟨B,3,none⟩) jX.o _);have k6:=K6.o;obtain⟨y0,y1,y2,y3,y4,y5⟩:=k6.cells;clear k6;have HX:aA (lF a b=⟨n,l,a.head,y,j⟩):=ak (by unfold lF;rw[HN.o,H6.o,HJ.o,af4 h1,af5 h2,hy]);have k0:dz w6 (W.heap.size+1+1) w0:=au (Below.after B3.o B6.o) K3.o
 rotate_left
 case' _=>
  have z2:((b.lines:Int)==0)=false:=by simp;omega
  have HX:aA (lF a b=⟨n,l,a.head,b.tail,j⟩):=ak (by unfold lF;rw[HN.o,H6.o,HJ.o,af4 h1,af4 h2]);have k0:dz w4 (W.heap.size+1+1) w0:=au (Below.after B3.o B4.o) K3.o
 rotate_left
 all_goals
  obtain⟨r0,r1,r2,r3,r4,r5⟩:=k0.cells;have t0:=k0.free 0;have t1:=k0.free 1;have t2:=k0.free 2;have t3:=k0.free 3;have t4:=k0.free 4;have t5:=k0.free 5;simp only[w0]at r0 r1 r2 r3 r4 r5
 case' _=>
  have KF:=ak (k0.set ⟨n,l,a.head,y,j⟩);have BF:=ak (bY (Below.after B1.o (Below.after B3.o B6.o)) (g:=W.heap.size+1+1) (by omega) ⟨n,l,a.head,y,j⟩);obtain⟨w9,dI⟩:∃w',setW w6 (W.heap.size+1+1) ⟨n,l,a.head,y,j⟩=w':=⟨_,rfl⟩
 rotate_left
 case' _=>
  have KF:=ak (k0.set ⟨n,l,a.head,b.tail,j⟩);have BF:=ak (bY (Below.after B1.o (Below.after B3.o B4.o)) (g:=W.heap.size+1+1) (by omega) ⟨n,l,a.head,b.tail,j⟩);obtain⟨w9,dI⟩:∃w',setW w4 (W.heap.size+1+1) ⟨n,l,a.head,b.tail,j⟩=w':=⟨_,rfl⟩
 rotate_left
 all_goals
  rw[dI]at KF BF;simp only[setW]at dI;clear k0 h1 h2;gi_wp2_with fail
  go_wp2_with fail
  obtain⟨c0,c1,c2,c3,c4,c5⟩:=KF.o.cells
 .exact af_ (v:=.tuple #[.agg #[.int .i64 n,.int .i64 l,.int .i64 a.head,.int .i64 y,.int .u64 j.v,.int .u64 j.s],.nilIface]) (by simp[results,Tryz.results162,go_sem,c0,c1,c2,c3,c4,c5]) rfl ⟨by rw[HX.o],BF.o⟩
 exact af_ (v:=.tuple #[.agg #[.int .i64 n,.int .i64 l,.int .i64 a.head,.int .i64 b.tail,.int .u64 j.v,.int .u64 j.s],.nilIface]) (by simp[results,Tryz.results162,go_sem,c0,c1,c2,c3,c4,c5]) rfl ⟨by rw[HX.o],BF.o⟩
theorem Qz(t:List Nat):∀{k:Nat},0<k->wt (rep k t)=⟨t.length*k,t.count 10*k,if t.count 10=0 then t.length*k else N9 t,if t.count 10=0 then t.length*k else N_ t,dg (rep k t)⟩
 |1,_=>by
  rw[iB]
  have hg:=Fj t
  unfold wt
  by_cases h:t.count 10=0
  .have h2:=hg.none h
   have h3:N9 t=t.length:=h2.1
   have h4:N_ t=t.length:=h2.2
   simp[h,h3,h4]
  .simp[h]
 |k+2,_=>by
  have ih:=Qz t (k:=k+1) (by omega)
  have hg:=Fj t
  have hd:dg (rep (k+2) t)=mU (dg t) (dg (rep (k+1) t)):=by rw[ji,oU]
  rw[ji,yw,ih]
  unfold lF wt
  simp only[Wt.mk.injEq]
  have e1:∀n:Nat,n*(k+2)=n+n*(k+1):=λn=>by rw[aiA,aiA];omega
  refine⟨(e1 _).symm,(e1 _).symm,?_,?_,by rw[oU]⟩
  .by_cases h:t.count 10=0
   .rw[af5 h,af5 h,af5 h,e1]
   .rw[af4 h,af4 h]
  .by_cases h:t.count 10=0
   .have h4:N_ t=t.length:=(hg.none h).2
    rw[af5 (by rw[h];simp),af5 h,h4,e1];omega
   .rw[af4 h,af4 (by have:0<t.count 10*(k+1):=ajc (by omega) (by omega);omega)]
    rw[af4 h]
def PPr(n0:Nat)(v1 v2:Value)(j:Nat)(v:Value)(w:World):Prop:=match j with
 |12=>v=v1
 |13=>v=v2
 |14=>UW n0 v w
 |_=>True
theorem PPr.mono(j:Nat)(v:Value)(w w':World)(h:PPr n0 v1 v2 j v w)(hb:Below w.heap.size w w'):PPr n0 v1 v2 j v w':=by
 unfold PPr at *;split
 .exact h
 .exact h
 .obtain⟨B,h1,h2,h3⟩:=h;exact⟨B,h1,h2,au hb h3⟩
 .trivial
theorem QC(W:World){t:List Nat}{k:Nat}(hk:0<k)(hkm:k<=9223372036854775807)(ht:0<t.length)(hl:t.length*k<=1152921504606846976):
    Calls Tryz.prog 142 #[wK (wt t),.int .i64 k] W λe w'=>e=.returned (.tuple #[wK (wt (rep k t)),.nilIface])/\Below W.heap.size W w':=by
 have HF:∀f,Fence.wide.fn f:=λ_=>trivial;have hle:t.length<=1152921504606846976:=af9 (ajp _ hk) hl;obtain⟨a,ha⟩:=ay (wt t);have hok:Dz a:=by rw[<-ha];exact Mj hle
 have hlen:a.len=t.length:=by rw[<-ha];rfl
 have hlin:a.lines=t.count 10:=by rw[<-ha];rfl
 have hR:=Qz t hk;have HR:aA (wt (rep k t)=⟨a.len*k,a.lines*k,if a.lines=0 then a.len*k else a.head,if a.lines=0 then a.len*k else a.tail,dg (rep k t)⟩):=ak (by rw[hR,<-ha];rfl);have QD:aA (dg t=a.d):=ak (by rw[<-ha];rfl);have uT:aA (a.len*k<=1152921504606846976/\a.lines*k<=1152921504606846976/\0<a.len*k/\0<a.len):=ak (by
  rw[hlen,hlin];exact⟨hl,af9 (agY k List.count_le_length) hl,ajc ht hk,ht⟩)
 rw[ha];clear hle ha hlen hlin hR ht hl;obtain⟨W1,hW1⟩:=ay ((W.alloc (.cells #[.int .i64 a.len,.int .i64 a.lines,.int .i64 a.head,.int .i64 a.tail,.int .u64 a.d.v,.int .u64 a.d.s] 92)).alloc (.cells #[.int .i64 0,.int .i64 0,.int .i64 0,.int .i64 0,.int .u64 0,.int .u64 0] 92));have k1:dz W1 W.heap.size a:=by
  rw[<-hW1];exact au ((af6 _ _).alloc (af7 _) _) (aD W _)
 have k3:dz W1 (W.heap.size+1) w0:=by
  rw[<-hW1];have:=aD (W.alloc (.cells #[.int .i64 a.len,.int .i64 a.lines,.int .i64 a.head,.int .i64 a.tail,.int .u64 a.d.v,.int .u64 a.d.s] 92)) (.cells #[.int .i64 0,.int .i64 0,.int .i64 0,.int .i64 0,.int .u64 0,.int .u64 0] 92);rw[ag1]at this;exact this
 have b1:Below W.heap.size W W1:=by
  rw[<-hW1];exact((af6 _ W).alloc (af7 _) _).alloc (by simp) _
 have hsz:W.heap.size+1<W1.heap.size:=(aga.1 k3).1;have K1:=ak k1;have K3:=ak k3;have B1:=ak b1;have HZ:=ak hsz;have HA:=ak hok;obtain⟨a0,a1,a2,a3,a4,a5⟩:=k1.cells;clear k1 k3 b1 hok hsz;have hk0:¬((k:Int)<0):=by omega
 unfold wK;go_enter Tryz.func142,Tryz.ntmps142;go_wp2_with fail
 refine(uS W1 HA.o).mono ?_;rintro e w3 ⟨rfl,b3⟩;have B3:=ak b3;have k1:=au b3 K1.o;obtain⟨a0,a1,a2,a3,a4,a5⟩:=dz.cells k1;clear b3 k1 hW1;go_wp2_with fail
 refine(wI w3 HA.o.le uT.o.2.2.2 hkm).mono ?_;rintro e w4 ⟨rfl,h⟩;rw[af5 uT.o.1,h];clear h w4;obtain⟨n,hn⟩:=ay (a.len*k);obtain⟨l,hl⟩:=ay (a.lines*k);rw[hn]at HR uT⊢;rw[hl]at HR uT;have hn0:((n:Int)==0)=false:=by have:=uT.o.2.2.1;simp;omega
 have hwl:IntKind.i64.wrap ((a.lines:Int)*(k:Int))=(l:Int):=by
  have:=uT.o.2.1;have e:(a.lines:Int)*(k:Int)=(l:Int):=by rw[<-hl];exact(ai6 _ _).symm
  rw[agd,e];omega
 clear hn hl;go_wp2_with fail
 have m:∀w,Below w3.heap.size w3 w->dz w W.heap.size a:=λw h=>au (Below.after B3.o h) K1.o;have ma1:∀w,Below w3.heap.size w3 w->w.cell? ⟨W.heap.size,1,none⟩=some (.int .i64 a.lines):=λw h=>((m w h).cells).2.1;have ma2:∀w,Below w3.heap.size w3 w->w.cell? ⟨W.heap.size,2,none⟩=some (.int .i64 a.head):=λw h=>((m w h).cells).2.2.1;have ma3:∀w,Below w3.heap.size w3 w->w.cell? ⟨W.heap.size,3,none⟩=some (.int .i64 a.tail):=λw h=>((m w h).cells).2.2.2.1;have ma4:∀w,Below w3.heap.size w3 w->w.cell? ⟨W.heap.size,4,none⟩=some (.int .u64 a.d.v):=λw h=>((m w h).cells).2.2.2.2.1;have ma5:∀w,Below w3.heap.size w3 w->w.cell? ⟨W.heap.size,5,none⟩=some (.int .u64 a.d.s):=λw h=>((m w h).cells).2.2.2.2.2;obtain⟨j,hj⟩:=ay (dg (rep k t));have HJ:=ak hj;rw[hj]at HR;clear hj m a0 a1 a2 a3 a4 a5;refine aU (Below w3.heap.size w3) ?_;have S0:Below w3.heap.size w3 w3.drew:=(af6 _ _).drew;refine bJ 0 1 2 3 4 5 ?_;refine bJ 6 7 8 9 10 11 ?_;clear ma1 ma2 ma3 ma4 ma5;refine aJ.Kj [12,13,14] 15 (λx=>match x with|13=>[12]|_=>[]) (λx=>match x with|12=>44|13=>45|_=>8) (PPr w3.heap.size (Ap j) (.agg #[.int .i64 n,.int .i64 l,.int .i64 a.head,.int .i64 a.tail,.int .u64 j.v,.int .u64 j.s])) (λx=>x==14) (by kernel_rfl) (by kernel_rfl) (aju (by kernel_rfl)) HF S0 (λx _ v w w' h hb=>PPr.mono x v w w' h hb) ?box ?step ?tail
 case box=>
  intro x hx hal v w h;simp only[agm,ahA,ahD]at hx;rcases hx with rfl|rfl|rfl
  .cases hal
  .cases hal
  obtain⟨B,h1,h2,h3⟩:=h;exact⟨B,h1,(aga.1 h3).1⟩
 case step=>
  intro x hx vs w hS hP K hK;simp only[agm,ahA,ahD]at hx;rcases hx with rfl|rfl|rfl
  .refine iH.mk rfl (by rfl) ?_;simp only[mP,aho,ag5,Act.put,agx,agu,agv]at hK⊢;go_simp;have hd:=Qs w t k hkm;rw[QD.o]at hd;refine⟨rfl,agq.2 (hd.mono ?_)⟩;rintro e w4 ⟨rfl,b4⟩;rw[HJ.o];exact hK _ _ (Below.after hS b4) b4 rfl (λh=>absurd h (by decide))
  .have UY:vs 12=Ap j:=hP 12 (by simp);refine iH.mk rfl (by rfl) ?_;simp only[mP,aho,ag5,UY,Act.put,agx,agu,agv]at hK⊢;unfold Ap at hK⊢;go_simp;exact hK _ _ hS (af6 _ _) rfl (λh=>absurd h (by decide))
  refine iH.mk rfl (by rfl) ?_;simp only[mP,aho,ag5,Act.put,agx,agu,agv]at hK⊢;go_simp;exact hK _ _ (hS.alloc hS.size _) ((af6 _ _).alloc (af7 _) _) ⟨_,rfl,hS.size,aD _ _⟩ (λ_=>rfl)
 intro vs w hS hP hD;have UY:vs 12=Ap j:=hP 12 (by simp);have h15:vs 13=_:=hP 13 (by simp);obtain⟨B,e16,lB,nB⟩:UW w3.heap.size (vs 14) w:=hP 14 (by simp);clear hP hD;simp only[mP,aho,ag5,UY,h15,e16,Act.put,agx,agu,agv,agr,agj];clear UY h15 e16 vs;obtain⟨x0,x1,x2,x3,x4,x5⟩:=nB.cells;have f0:=nB.free 0;have f1:=nB.free 1;have f2:=nB.free 2;have f3:=nB.free 3;have f4:=nB.free 4;have f5:=nB.free 5;have K4:=ak (nB.set ⟨n,l,a.head,a.tail,j⟩);have B4:=ak (bY hS lB ⟨n,l,a.head,a.tail,j⟩);obtain⟨w4,hw4⟩:∃w',setW w B ⟨n,l,a.head,a.tail,j⟩=w':=⟨_,rfl⟩;rw[hw4]at K4 B4;simp only[setW]at hw4;have jX:=ak lB;simp only[w0]at x0 x1 x2 x3 x4 x5;have bw4:Below w3.heap.size w3 w4:=B4.o;have UZ:dz w4 B ⟨n,l,a.head,a.tail,j⟩:=K4.o;have qa:=au (Below.after B3.o bw4) K1.o;obtain⟨a0,a1,a2,a3,a4,a5⟩:=dz.cells qa;have g2:=UZ.free 2;have g3:=UZ.free 3;obtain⟨y0,y1,y2,y3,y4,y5⟩:=UZ.cells;clear qa bw4 UZ lB nB S0 hS hwl;by_cases h1:a.lines=0
 case' _=>
  have z1:((a.lines:Int)==0)=true:=by simp[h1]
  obtain⟨w5,eH⟩:=ay (w4.setCell ⟨B,2,none⟩ (.int .i64 n));have K5:aA (dz w5 B ⟨n,l,n,a.tail,j⟩):=ak (by rw[<-eH];exact K4.o.set2 n);have B5:aA (Below w3.heap.size w3 w5):=ak (by rw[<-eH];exact B4.o.setCell (p:=⟨B,2,none⟩) jX.o _);have z5:=K5.o.free 3;obtain⟨y0,y1,y2,y3',y4,y5⟩:=K5.o.cells;obtain⟨w6,dH⟩:=ay (w5.setCell ⟨B,3,none⟩ (.int .i64 n));have K6:aA (dz w6 B ⟨n,l,n,n,j⟩):=ak (by rw[<-dH];exact K5.o.Zp n);have B6:aA (Below w3.heap.size w3 w6):=ak (by rw[<-dH];exact B5.o.setCell (p:=⟨B,3,none⟩) jX.o _);have k6:=K6.o;obtain⟨y0,y1,y2,y3,y4,y5⟩:=k6.cells;clear k6;have HX:aA (wt (rep k t)=⟨n,l,n,n,j⟩):=ak (by rw[HR.o,af5 h1,af5 h1]);have k0:dz w6 (W.heap.size+1) w0:=au (Below.after B3.o B6.o) K3.o
 rotate_left
 case' _=>
  have z1:((a.lines:Int)==0)=false:=by simp;omega
  have HX:aA (wt (rep k t)=⟨n,l,a.head,a.tail,j⟩):=ak (by rw[HR.o,af4 h1,af4 h1]);have k0:dz w4 (W.heap.size+1) w0:=au (Below.after B3.o B4.o) K3.o
 rotate_left
 all_goals
  obtain⟨r0,r1,r2,r3,r4,r5⟩:=k0.cells;have t0:=k0.free 0;have t1:=k0.free 1;have t2:=k0.free 2;have t3:=k0.free 3;have t4:=k0.free 4;have t5:=k0.free 5;simp only[w0]at r0 r1 r2 r3 r4 r5
 case' _=>
  have KF:=ak (k0.set ⟨n,l,n,n,j⟩);have BF:=ak (bY (Below.after B1.o (Below.after B3.o B6.o)) (g:=W.heap.size+1) (by omega) ⟨n,l,n,n,j⟩);obtain⟨w9,dI⟩:∃w',setW w6 (W.heap.size+1) ⟨n,l,n,n,j⟩=w':=⟨_,rfl⟩
 rotate_left
 case' _=>
  have KF:=ak (k0.set ⟨n,l,a.head,a.tail,j⟩);have BF:=ak (bY (Below.after B1.o (Below.after B3.o B4.o)) (g:=W.heap.size+1) (by omega) ⟨n,l,a.head,a.tail,j⟩);obtain⟨w9,dI⟩:∃w',setW w4 (W.heap.size+1) ⟨n,l,a.head,a.tail,j⟩=w':=⟨_,rfl⟩
 rotate_left
 all_goals
  rw[dI]at KF BF;simp only[setW]at dI;clear k0 h1;gi_wp2_with fail
  go_wp2_with fail
  obtain⟨c0,c1,c2,c3,c4,c5⟩:=KF.o.cells
 .exact af_ (v:=.tuple #[.agg #[.int .i64 n,.int .i64 l,.int .i64 n,.int .i64 n,.int .u64 j.v,.int .u64 j.s],.nilIface]) (by simp[results,Tryz.results142,go_sem,c0,c1,c2,c3,c4,c5]) rfl ⟨by rw[HX.o],BF.o⟩
 exact af_ (v:=.tuple #[.agg #[.int .i64 n,.int .i64 l,.int .i64 a.head,.int .i64 a.tail,.int .u64 j.v,.int .u64 j.s],.nilIface]) (by simp[results,Tryz.results142,go_sem,c0,c1,c2,c3,c4,c5]) rfl ⟨by rw[HX.o],BF.o⟩
end M
end
section
open Go.ChangeShapes Go.WideShapes Go.ChangeAt Go.RowKit
theorem L_{H:Type}{enc:TypeId×Value->H}{P:Program}{f:Func}{s:ChangeSpec}{apart fresh handsOn:Bool}{W W':World}{args:Array Value}{v:Value}{ds gs:List (DataW H)}{before pa pv:List MemPlace}
    (hW:DataW.Whole enc P f.params.toList s.vars apart W args.toList ds gs before)
    (hres:∀(b:Nat) (sp:Nat->Bool) (hd:Bool),DataW.TrodAll enc P W' b sp hd f.resultTypes.toList (v.resultList f.resultTypes.size) (s.fn H (ds++gs)).results [])
    (hargs:DataW.TrodAll enc P W' 0 (λb=>decide (b<W.heap.size)) true f.params.toList args.toList (s.fn H (ds++gs)).args pa)
    (hvars:DataW.TrodVars enc P W' (λb=>decide (b<W.heap.size)) s.vars (s.fn H (ds++gs)).vars pv)
    (hps:before=pa++pv) (hb:Below W.heap.size W W'):
    s.post enc P f apart fresh handsOn false W args v W':=by
 refine⟨ds,gs,before,[],pa,pv,hW,hres _ _ _,hargs,hvars,World.keptBut_mono (λp hp=>⟨hp,?_⟩) (hb.frame (· ∈before)),λh=>by cases h⟩
 rw[hps,ags]at hp
 exact Or.inr hp
end
end Go.Proofs.YtgbhohfabhilgaaGreatDoor
