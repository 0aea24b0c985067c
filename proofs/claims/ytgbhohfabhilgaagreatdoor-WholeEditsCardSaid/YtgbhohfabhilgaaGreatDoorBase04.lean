import Derived.Test.YtgbhohfabhilgaaGreatDoorBase01
import Derived.Test.YtgbhohfabhilgaaGreatDoorProg
set_option maxRecDepth 100000
set_option maxHeartbeats 8000000
set_option linter.unusedVariables false
set_option linter.unusedSimpArgs false
namespace Go.Proofs.YtgbhohfabhilgaaGreatDoor
section
open Go.RowKit Go.Lib
namespace M
theorem maskN(a:Nat)(ha:a<18446744073709551616):bits .and .u64 (a:Int) 4294967295=((a%4294967296:Nat):Int):=by
 have h:=ai5 a 4294967295 ha (by omega);have e:a &&& 4294967295=a%4294967296:=akt a 32;rw[e]at h;exact h
theorem Xj(a:Nat)(ha:a<18446744073709551616):bits .and .u64 (a:Int) 2305843009213693951=((a%2305843009213693952:Nat):Int):=by
 have h:=ai5 a 2305843009213693951 ha (by omega);have e:a &&& 2305843009213693951=a%2305843009213693952:=akt a 61;rw[e]at h;exact h
theorem divN(a:Nat):(a:Int)/4294967296=((a/4294967296:Nat):Int):=by omega
theorem mulN(a b:Nat):(a:Int)*(b:Int)=((a*b:Nat):Int):=(ai6 a b).symm
theorem addN(a b:Nat):(a:Int)+(b:Int)=((a+b:Nat):Int):=(Int.natCast_add a b).symm
theorem wrapN(a:Nat)(ha:a<18446744073709551616):IntKind.u64.wrap (a:Int)=(a:Int):=by rw[ag4];omega
theorem wrapM(a:Nat):IntKind.u64.wrap (a:Int)=((a%18446744073709551616:Nat):Int):=by rw[ag4];omega
theorem NZ(x y:Nat)(hx:x<18446744073709551616)(hy:y<18446744073709551616)(w:World):
    Calls Tryz.prog 216 #[.int .u64 x,.int .u64 y] w λe w'=>e=.returned (.tuple #[.int .u64 ((x*y/18446744073709551616:Nat):Int),.int .u64 ((x*y%18446744073709551616:Nat):Int)])/\w'=w:=by
 obtain⟨bd,bt,bw,hhi⟩:=Lib.mul64_hi x y hx hy;have ba:=ake (a:=x/4294967296) (b:=y/4294967296) (by omega) (by omega);have bb:=ake (a:=x/4294967296) (b:=y%4294967296) (by omega) (by omega);have bc:=ake (a:=x%4294967296) (b:=y/4294967296) (by omega) (by omega);have ba':x/4294967296*(y/4294967296)<18446744073709551616:=by omega
 have bb':x/4294967296*(y%4294967296)<18446744073709551616:=by omega
 have bc':x%4294967296*(y/4294967296)<18446744073709551616:=by omega
 have bh1:x/4294967296*(y/4294967296)+(x/4294967296*(y%4294967296)+x%4294967296*(y%4294967296)/4294967296)/4294967296<18446744073709551616:=by omega
 have bh:x/4294967296*(y/4294967296)+(x/4294967296*(y%4294967296)+x%4294967296*(y%4294967296)/4294967296)/4294967296+((x/4294967296*(y%4294967296)+x%4294967296*(y%4294967296)/4294967296)%4294967296+x%4294967296*(y/4294967296))/4294967296<18446744073709551616:=by omega
 go_enter Tryz.func216,Tryz.ntmps216;go_wp2
 simp only[maskN x hx,maskN y hy,divN,mulN,addN,wrapN _ bd,wrapN _ bb',wrapN _ bt,maskN _ bt,wrapN _ bc',wrapN _ bw,wrapN _ ba',wrapN _ bh1,wrapN _ bh,wrapM (x*y)];rw[hhi];go_ret2;exact⟨rfl,rfl⟩
theorem N7{x y:Nat}(hx:x<18446744073709551616)(hy:x%2305843009213693952+x/2305843009213693952=y):(2305843009213693951<=y->y-2305843009213693951=x%2305843009213693951)/\(y<2305843009213693951->y=x%2305843009213693951)/\y<=2305843009213693959:=by
 obtain⟨q,hq⟩:=ay (x/2305843009213693952);obtain⟨r,hr⟩:=ay (x%2305843009213693952);have hx2:x=2305843009213693951*q+y:=by omega
 have hy2:y<=2305843009213693959:=by omega
 refine⟨λh=>?_,λh=>?_,hy2⟩
 .have e:x=(y-2305843009213693951)+2305843009213693951*(q+1):=by omega
  rw[e,Nat.add_mul_mod_self_left,aik (by omega)]
 rw[hx2,Nat.mul_add_mod,aik h]
theorem jA(W:World)(x:Nat)(hx:x<18446744073709551616):
    Calls Tryz.prog 215 #[.int .u64 x] W λe w'=>e=.returned (.int .u64 ((x%2305843009213693951:Nat):Int))/\w'=W:=by
 obtain⟨y,hy⟩:=ay (x%2305843009213693952+x/2305843009213693952);obtain⟨k1,k2,k3⟩:=N7 hx hy;obtain⟨z,hz⟩:=ay (x%2305843009213693951);rw[hz]at k1 k2⊢;have he:(x:Int)%2305843009213693952+(x:Int)/2305843009213693952=(y:Int):=by omega
 have hm:bits .and .u64 (x:Int) 2305843009213693951=(x:Int)%2305843009213693952:=by rw[Xj x hx];omega
 have hw:IntKind.u64.wrap ((x:Int)%2305843009213693952+(x:Int)/2305843009213693952)=(x:Int)%2305843009213693952+(x:Int)/2305843009213693952:=by rw[ag4];omega
 by_cases h:2305843009213693951<=y
 .have h1:(2305843009213693951:Int)<=(y:Int):=by omega
  have h2:IntKind.u64.wrap ((y:Int)-2305843009213693951)=(z:Int):=by rw[ag4];have:=k1 h;omega
  go_enter Tryz.func215,Tryz.ntmps215;go_upto_region 2 with(fail);go_wp2_with fail
  go_ret;exact⟨rfl,rfl⟩
 have h1:¬((2305843009213693951:Int)<=(y:Int)):=by omega
 have h2:y=z:=k2 (by omega);subst h2;go_enter Tryz.func215,Tryz.ntmps215;go_upto_region 2 with(fail);go_wp2_with fail
 go_ret;exact⟨rfl,rfl⟩
def P:Nat:=2305843009213693951
theorem UM:P=2305843009213693951:=rfl
theorem Fh(W:World)(x y:Nat)(hx:x<18446744073709551616)(hy:y<18446744073709551616):
    Calls Tryz.prog 192 #[.int .u64 x,.int .u64 y] W λe w'=>e=.returned (.int .u64 (((x+y)%P:Nat):Int))/\w'=W:=by
 obtain⟨a,ha⟩:=ay (x%2305843009213693951);obtain⟨b,hb⟩:=ay (y%2305843009213693951);have hab:a+b<18446744073709551616:=by omega
 have hw:IntKind.u64.wrap ((a:Int)+(b:Int))=((a+b:Nat):Int):=by rw[ag4];omega
 have hz:(a+b)%2305843009213693951=(x+y)%P:=by rw[<-ha,<-hb,UM,<-ahO]
 go_enter Tryz.func192,Tryz.ntmps192;go_wp2_with fail
 refine(jA W x hx).mono ?_;rintro e w1 ⟨rfl,h⟩;rw[h,ha];go_wp2_with fail
 refine(jA W y hy).mono ?_;rintro e w1 ⟨rfl,h⟩;rw[h,hb];go_wp2_with fail
 refine(jA W (a+b) hab).mono ?_;rintro e w1 ⟨rfl,h⟩;rw[h,hz];go_wp2_with fail
 go_ret;exact⟨rfl,rfl⟩
theorem N8{a b:Nat}(ha:a<2305843009213693951)(hb:b<2305843009213693951):∃h l:Nat,a*b/18446744073709551616=h/\a*b%18446744073709551616=l/\h<2305843009213693951/\l<18446744073709551616/\(h*8+l/2305843009213693952+l%2305843009213693952)%2305843009213693951=a*b%2305843009213693951/\h*8+l/2305843009213693952+l%2305843009213693952<18446744073709551616:=by
 have hm:a*b<=2305843009213693950*2305843009213693950:=Nat.mul_le_mul (by omega) (by omega);generalize a*b=n at *;refine⟨_,_,rfl,rfl,by omega,by omega,?_,by omega⟩;have e:n=(n/18446744073709551616*8+n%18446744073709551616/2305843009213693952)*2305843009213693951+(n/18446744073709551616*8+n%18446744073709551616/2305843009213693952+n%18446744073709551616%2305843009213693952):=by omega
 conv=>rhs;rw[e,Nat.mul_add_mod_self_right]
theorem qd(W:World)(x y:Nat)(hx:x<18446744073709551616)(hy:y<18446744073709551616):
    Calls Tryz.prog 193 #[.int .u64 x,.int .u64 y] W λe w'=>e=.returned (.int .u64 ((x*y%P:Nat):Int))/\w'=W:=by
 obtain⟨a,ha⟩:=ay (x%2305843009213693951);obtain⟨b,hb⟩:=ay (y%2305843009213693951);have ha2:a<2305843009213693951:=by omega
 have hb2:b<2305843009213693951:=by omega
 have hz:a*b%2305843009213693951=x*y%P:=by rw[<-ha,<-hb,UM,<-ahH]
 obtain⟨h,l,e1,e2,b1,b2,e3,b3⟩:=N8 ha2 hb2;rw[hz]at e3;have hm:bits .and .u64 (l:Int) 2305843009213693951=((l%2305843009213693952:Nat):Int):=Xj l b2;obtain⟨m,hmm⟩:=ay (l%2305843009213693952);obtain⟨d,hd⟩:=ay (l/2305843009213693952);have hl:(l:Int)/2305843009213693952=(d:Int):=by omega
 rw[hmm,hd]at e3 b3;rw[hmm]at hm;have w1:IntKind.u64.wrap ((h:Int)*8)=((h*8:Nat):Int):=by rw[ag4];omega
 have w2:IntKind.u64.wrap (((h*8:Nat):Int)+(d:Int))=((h*8+d:Nat):Int):=by rw[ag4];omega
 have w3:IntKind.u64.wrap (((h*8+d:Nat):Int)+(m:Int))=((h*8+d+m:Nat):Int):=by rw[ag4];omega
 have HE:=ak e1;have HE2:=ak e2;have Zi:=ak e3;clear e1 e2 e3 hz hmm hd;go_enter Tryz.func193,Tryz.ntmps193;go_wp2_with fail
 refine(jA W x hx).mono ?_;rintro e w1 ⟨rfl,h1⟩;rw[h1,ha];clear h1 w1;go_wp2_with fail
 refine(jA W y hy).mono ?_;rintro e w1 ⟨rfl,h1⟩;rw[h1,hb];clear h1 w1;clear ha hb;go_wp2_with fail
 refine(NZ a b (by omega) (by omega) W).mono ?_;rintro e w1 ⟨rfl,h1⟩;rw[h1,HE.o,HE2.o];clear h1 w1;go_wp2_with fail
 have e5:(h:Int)*8+(d:Int)+(m:Int)=((h*8+d+m:Nat):Int):=by omega
 rw[e5];refine(jA W (h*8+d+m) b3).mono ?_;rintro e w4 ⟨rfl,h1⟩;rw[h1,Zi.o];clear h1 w4;clear w1 w2 w3 hm hl e5;go_wp2_with fail
 go_ret;exact⟨rfl,rfl⟩
theorem Qp(a n:Nat):a^n%P=(if n%2=1 then a else 1)*(a*a%P)^(n/2)%P:=by
 have e:n=n%2+2*(n/2):=by omega
 have h2:∀k,(a*a%P)^k%P=(a*a)^k%P:=λk=>(Nat.pow_mod (a*a) k P).symm;rw[ahH,h2,<-ahH]
 conv=>lhs;rw[e,Nat.pow_add,Nat.pow_mul,Nat.pow_two]
 rcases aiB n with h|h<;>simp[h]
theorem wH(W:World)(x n:Nat)(hx:x<18446744073709551616)(hn:n<18446744073709551616):
    Calls Tryz.prog 191 #[.int .u64 x,.int .u64 n] W λe w'=>e=.returned (.int .u64 ((x^n%P:Nat):Int))/\w'=W:=by
 obtain⟨a0,ha0⟩:=ay (x%2305843009213693951);have hz:x^n%P=a0^n%P:=by rw[<-ha0,<-UM,<-Nat.pow_mod]
 have hlt:a0<2305843009213693951:=by omega
 rw[hz];obtain⟨R,hR⟩:=ay (a0^n%P);rw[hR];have HR:=ak hR;have HL:=ak hlt;go_enter Tryz.func191,Tryz.ntmps191;go_wp2_with fail
 refine(jA W x hx).mono ?_;rintro e w1 ⟨rfl,h⟩;rw[h,ha0];go_wp2_with fail
 go_loopw [0,1,5] (λu c r wr=>∃a k b:Nat,u=.int .u64 a/\c=.int .u64 k/\r=.int .u64 b/\a<2305843009213693951/\b<2305843009213693951/\k<18446744073709551616/\b*a^k%P=R/\wr=W) (λ_ c _ _=>(intOf c).toNat)
 case atStart=>exact⟨a0,n,1,rfl,rfl,rfl,HL.o,by omega,hn,by rw[ah6];exact HR.o,rfl⟩
 obtain⟨a,k,b,rfl,rfl,rfl,ha,hb,hk,hr,rfl⟩:=hrel;have hh:=Qp a k;by_cases hk0:0<k
 .have t1:(0:Int)<(k:Int):=by omega
  have hdm:∀z:Nat,z%P<2305843009213693951:=λz=>ahb _ (by decide);rcases aiB k with hm|hm
  case' _=>
   have hmi:(k:Int)%2=0:=by omega
   rw[af4 (by omega),ah6]at hh;have HN:aA (b*(a*a%P)^(k/2)%P=R):=ak (by rw[<-hr,ahH,<-hh,<-ahH]);have HA:=ak (hdm (a*a))
  rotate_left
  case' _=>
   have hmi:(k:Int)%2=1:=by omega
   rw[af5 hm]at hh;have HN:aA ((b*a%P)*(a*a%P)^(k/2)%P=R):=ak (by
    have e1:b*a^k%P=b*(a*(a*a%P)^(k/2))%P:=(by rw[ahH,hh,<-ahH]);rw[<-hr,e1,<-aiN,ahH (b*a%P),Nat.mod_mod,<-ahH])
   have HA:=ak (hdm (a*a));have HB:=ak (hdm (b*a));go_wp2_with fail
   refine(qd wr b a (by omega) (by omega)).mono ?_;rintro e w1 ⟨rfl,h⟩;rw[h];generalize b*a%P=d at HN HB⊢
  rotate_left
  all_goals
   go_wp2_with fail
   refine(qd wr a a (by omega) (by omega)).mono ?_;rintro e w1 ⟨rfl,h⟩;rw[h];generalize a*a%P=c at HN HA⊢;go_wp2_with fail
  .go_roundw
   case rel=>exact⟨c,k/2,b,rfl,by go_num,rfl,HA.o,hb,by omega,HN.o,trivial⟩
   case measure=>simp[intOf];omega
  go_roundw
  case rel=>
   exact⟨c,k/2,d,rfl,by go_num,rfl,HA.o,HB.o,by omega,HN.o,trivial⟩
  case measure=>simp[intOf];omega
 obtain rfl:k=0:=by omega
 have HB:aA (b=R):=ak (by rw[<-hr,akn,ag3,UM,aik hb]);rw[HB.o];go_wp2_with fail
 go_ret;exact⟨rfl,rfl⟩
end M
end
section
open Go.RowKit Go.Lib
namespace M
attribute [local go_sem] Oper.semAt_some
def err(c:Int):Value:=.iface 116 (.int .i64 c)
def lS(c:Int):Value:=if c=0 then .nilIface else err c
theorem yu(W:World)(n:Int):Calls Tryz.prog 105 #[.int .i64 n] W λe w'=>e=.returned (.bool (decide (0<=n/\n<=1152921504606846976)))/\w'=W:=by
 by_cases h1:0<=n
 .by_cases h2:n<=1152921504606846976
  .have e:decide (0<=n/\n<=1152921504606846976)=true:=agw ⟨h1,h2⟩;rw[e];go_enter Tryz.func105,Tryz.ntmps105;go_wp2_with fail
   go_ret;exact⟨rfl,rfl⟩
  have e:decide (0<=n/\n<=1152921504606846976)=false:=agD (λh=>h2 h.2);rw[e];go_enter Tryz.func105,Tryz.ntmps105;go_wp2_with fail
  go_ret;exact⟨rfl,rfl⟩
 have e:decide (0<=n/\n<=1152921504606846976)=false:=agD (λh=>h1 h.1);rw[e];go_enter Tryz.func105,Tryz.ntmps105;go_wp2_with fail
 go_ret;exact⟨rfl,rfl⟩
theorem oQ(W:World){n:Nat}(h:n<=1152921504606846976):Calls Tryz.prog 105 #[.int .i64 n] W λe w'=>e=.returned (.bool true)/\w'=W:=by
 refine(yu W n).mono λe w h'=>⟨?_,h'.2⟩;rw[h'.1,agw (by constructor<;>omega)]
theorem lD(W:World){a b:Nat}(ha:a<=1152921504606846976)(hb:b<=1152921504606846976):Calls Tryz.prog 56 #[.int .i64 a,.int .i64 b] W λe w'=>e=.returned (if a+b<=1152921504606846976 then .tuple #[.int .i64 ((a+b:Nat):Int),.nilIface]else .tuple #[.int .i64 0,err 2])/\w'=W:=by
 have hw:IntKind.i64.wrap (1152921504606846976-(b:Int))=1152921504606846976-(b:Int):=by rw[agd];omega
 have hw2:IntKind.i64.wrap ((a:Int)+(b:Int))=(a:Int)+(b:Int):=by rw[agd];omega
 by_cases h:a+b<=1152921504606846976
 all_goals
  first|(have t:¬((a:Int)>1152921504606846976-(b:Int)):=by omega)|(have t:(a:Int)>1152921504606846976-(b:Int):=by omega)
  first|rw[af5 h]|rw[af4 h]
  go_enter Tryz.func56,Tryz.ntmps56;go_wp2_with fail
  refine(oQ W ha).mono ?_;rintro e w1 ⟨rfl,h⟩;rw[h];go_wp2_with fail
  refine(oQ W hb).mono ?_;rintro e w1 ⟨rfl,h⟩;rw[h];go_wp2_with fail
  go_ret2
  first|exact⟨rfl,rfl⟩|exact⟨by simp,rfl⟩
theorem wI(W:World){a k:Nat}(ha:a<=1152921504606846976)(h0:0<a)(hk:k<=9223372036854775807):Calls Tryz.prog 94 #[.int .i64 a,.int .i64 k] W λe w'=>e=.returned (if a*k<=1152921504606846976 then .tuple #[.int .i64 ((a*k:Nat):Int),.nilIface]else .tuple #[.int .i64 0,err 2])/\w'=W:=by
 obtain⟨q,hq⟩:=ay (1152921504606846976/a);have hqq:Int.tdiv 1152921504606846976 (a:Int)=(q:Int):=by rw[<-hq];rfl
 have hiff:k<=q↔a*k<=1152921504606846976:=by rw[<-hq,Nat.le_div_iff_mul_le h0,ahq]
 have hq2:q<=1152921504606846976:=by rw[<-hq];exact ain _ _
 have z0:¬((a:Int)=0):=by omega
 have z1:((a:Int)==0)=false:=by simpa using z0
 have hwq:IntKind.i64.wrap (q:Int)=(q:Int):=by rw[agd];omega
 have k0:¬((k:Int)<0):=by omega
 have ee:(a:Int)*(k:Int)=((a*k:Nat):Int):=(ai6 a k).symm;by_cases h:a*k<=1152921504606846976
 all_goals
  first|(have t:¬((k:Int)>(q:Int)):=by have:=hiff.2 h;omega)|(have t:(k:Int)>(q:Int):=by have:=λx=>h (hiff.1 x);omega)
  first|(have hw2:IntKind.i64.wrap ((a:Int)*(k:Int))=(a:Int)*(k:Int):=by rw[agd,ee];omega)|skip
  first|rw[af5 h]|rw[af4 h]
  clear h hiff hq ee;go_enter Tryz.func94,Tryz.ntmps94;go_wp2_with fail
  refine(oQ W ha).mono ?_;rintro e w1 ⟨rfl,h⟩;rw[h];clear h w1;go_wp2_with fail
  go_ret2
  first|exact⟨rfl,rfl⟩|exact⟨by simp,rfl⟩
theorem wJ(W:World)(n l h:Int):Calls Tryz.prog 108 #[.int .i64 n,.int .i64 l,.int .i64 h] W λe w'=>e=.returned (.int .i64 (if n<l then l else if n>h then h else n))/\w'=W:=by
 by_cases h1:n<l
 .rw[af5 h1];go_enter Tryz.func108,Tryz.ntmps108;go_wp2_with fail
  go_ret;exact⟨rfl,rfl⟩
 rw[af4 h1];by_cases h2:n>h
 .rw[af5 h2];go_enter Tryz.func108,Tryz.ntmps108;go_wp2_with fail
  go_ret;exact⟨rfl,rfl⟩
 rw[af4 h2];go_enter Tryz.func108,Tryz.ntmps108;go_wp2_with fail
 go_ret;exact⟨rfl,rfl⟩
end M
end
namespace M
def Q:Nat:=2305843009213693951
def bs:Nat:=1103515245
def stepM(m c v b:Nat):Nat:=(v*c+(b+1))%m
theorem Bd{m c:Nat}(hm:0<m):∀(t:List Nat) (v:Nat),v<m->t.foldl (stepM m c) v<m
 | [],v,h=>h
 |b::t,v,_=>Bd hm t _ (ahb _ hm)
theorem Bf(m c:Nat):∀(t:List Nat) (v:Nat),t.foldl (stepM m c) v%m=(v*c^t.length+t.foldl (stepM m c) 0)%m
 | [],v=>by simp
 |b::t,v=>by
  rw[ag5,ag5,Bf m c t (stepM m c v b),agc,aiR]
  rw[ahO (v*_),Bf m c t (stepM m c 0 b),<-ahO]
  have h1:∀x:Nat,(x%m*c^t.length+t.foldl (stepM m c) 0)%m=(x*c^t.length+t.foldl (stepM m c) 0)%m:=λx=>by
   rw[ahO,Nat.mod_mul_mod,<-ahO]
  unfold stepM at h1⊢
  rw[h1,aiS,ahi]
  have h2:∀A X:Nat,(A+((b+1)%m*c^t.length+X))%m=(A+((b+1)*c^t.length+X))%m:=λA X=>by
   rw[<-akk,<-akk,ahO,ahO A,Nat.mod_mul_mod,<-ahO A,<-ahO]
  rw[h2,aha,aiN,ahq c,akk]
def Kk(t:List Nat):Nat:=t.foldl (stepM Q bs) 0
structure Dg where
 v:Nat
 s:Nat
def mU(a b:Dg):Dg:=⟨(a.v*b.s+b.v)%Q,a.s*b.s%Q⟩
def dg(t:List Nat):Dg:=⟨Kk t,bs^t.length%Q⟩
structure Wt where
 len:Nat
 lines:Nat
 head:Nat
 tail:Nat
 d:Dg
def N9(t:List Nat):Nat:=t.findIdx (· ==10)
def N_(t:List Nat):Nat:=t.reverse.findIdx (· ==10)
def wt(t:List Nat):Wt:=⟨t.length,t.count 10,N9 t,N_ t,dg t⟩
def lF(a b:Wt):Wt:=⟨a.len+b.len,a.lines+b.lines,if a.lines=0 then a.len+b.head else a.head,if b.lines=0 then b.len+a.tail else b.tail,mU a.d b.d⟩
def rep(k:Nat)(t:List Nat):List Nat:=(List.replicate k t).flatten
theorem Qq(t:List Nat):rep 0 t=[]:=rfl
theorem iB(t:List Nat):rep 1 t=t:=by simp[rep]
theorem ji(k:Nat)(t:List Nat):rep (k+1) t=t++rep k t:=by simp[rep,ag7]
theorem sS(j k:Nat)(t:List Nat):rep (j+k) t=rep j t++rep k t:=by
 induction j with
 |zero=>rw[ahi];rfl
 |succ j ih=>rw[Nat.succ_add,ji,ih,ji,agf]
theorem fQ(k:Nat)(t:List Nat):(rep k t).length=k*t.length:=by simp[rep]
theorem UN(j k:Nat)(t:List Nat):rep j (rep k t)=rep (j*k) t:=by
 induction j with
 |zero=>rw[aiS];rfl
 |succ j ih=>rw[ji,ih,ag6,akm,sS]
theorem Ea:0<Q:=by decide
theorem Kl(t:List Nat):Kk t<Q:=Bd Ea t 0 Ea
theorem Kn(s t:List Nat):Kk (s++t)=(Kk s*(bs^t.length%Q)+Kk t)%Q:=by
 have h:=Bf Q bs t (Kk s);have h2:Kk (s++t)=t.foldl (stepM Q bs) (Kk s):=by unfold Kk;rw[ai2]
 rw[h2,<-aik (Bd Ea t (Kk s) (Kl s)),h];show(Kk s*bs^t.length+Kk t)%Q=_;rw[ahO,ahH,ahO (Kk s*(bs^t.length%Q)),ahH (Kk s) (bs^t.length%Q),Nat.mod_mod]
theorem oU(s t:List Nat):dg (s++t)=mU (dg s) (dg t):=by
 unfold dg mU;simp only[Dg.mk.injEq];refine⟨Kn s t,?_⟩;rw[af8,Nat.pow_add,ahH]
theorem Bg(s t:List Nat):N9 (s++t)=if s.count 10=0 then s.length+N9 t else N9 s:=by
 unfold N9;rw[List.findIdx_append];by_cases h:s.count 10=0
 .have h2:¬(s.findIdx (· ==10)<s.length):=by
   rw[akz];rintro⟨x,hx,e⟩;have:x=10:=by simpa using e
   subst this;exact(List.count_eq_zero.1 h) hx
  rw[af4 h2,af5 h,akm]
 have h2:s.findIdx (· ==10)<s.length:=by
  rw[akz];exact⟨10,List.count_pos_iff.1 (Nat.pos_of_ne_zero h),by simp⟩
 rw[af5 h2,af4 h]
theorem Ko(s t:List Nat):N_ (s++t)=if t.count 10=0 then t.length+N_ s else N_ t:=by
 have:=Bg t.reverse s.reverse;rw[<-ahS]at this;unfold N9 at this;unfold N_;rw[this,List.count_reverse,ajw]
theorem yw(s t:List Nat):wt (s++t)=lF (wt s) (wt t):=by
 unfold wt lF;simp only[Wt.mk.injEq];exact⟨by simp,by simp,Bg s t,Ko s t,oU s t⟩
structure Good(w:Wt):Prop where
 none:w.lines=0->w.head=w.len/\w.tail=w.len
 some:0<w.lines->w.head+w.tail+w.lines<=w.len
 one:w.lines=1->w.head+w.tail+1=w.len
theorem Good.join{a b:Wt}(ha:Good a)(hb:Good b):Good (lF a b):=by
 obtain⟨a1,a2,a3⟩:=ha;obtain⟨b1,b2,b3⟩:=hb;obtain⟨al,an,ah,at',ad⟩:=a;obtain⟨bl,bn,bh,bt,bd⟩:=b;dsimp only at *;unfold lF;refine⟨λh=>?_,λh=>?_,λh=>?_⟩
 all_goals
  dsimp only at *;split<;>split<;>omega
theorem Fj(t:List Nat):Good (wt t):=by
 induction t with
 |nil=>exact⟨λ_=>⟨rfl,rfl⟩,λh=>by simp[wt]at h,λh=>by simp[wt]at h⟩
 |cons b t ih=>
  have e:b::t=[b]++t:=rfl;rw[e,yw];refine Good.join ?_ ih;by_cases h:b=10
  .subst h;exact⟨λh=>by simp[wt]at h,λ_=>by simp[wt,N9,N_,ai1],λ_=>by simp[wt,N9,N_,ai1]⟩
  have h0:[b].count 10=0:=by simp[List.count_cons,h]
  have hb:(b==10)=false:=by simpa using h
  have h1:N9 [b]=1:=by simp[N9,ai1,hb]
  have h2:N_ [b]=1:=by simp[N_,ai1,hb]
  refine⟨λ_=>⟨by simp[wt,h1],by simp[wt,h2]⟩,λhh=>?_,λhh=>?_⟩
  .have:0<[b].count 10:=hh;omega
  have:[b].count 10=1:=hh;omega
end M
section
open Go.RowKit Go.Lib
theorem aD(W:World)(o:Obj):(W.alloc o).heap[W.heap.size]?=some o:=by
 show(W.heap.push o)[W.heap.size]?=_;simp
theorem aC{W:World}{g:Nat}{cs:Array Value}{t:TypeId}{i:Nat}(v:Value)(h:W.heap[g]?=some (.cells cs t (0,0))):(W.setCell ⟨g,i,none⟩ v).heap[g]?=some (.cells (cs.setIfInBounds i v) t (0,0)):=by
 obtain⟨hlt,hk⟩:=aga.1 h;show(W.heap.modify g _)[g]?=_;rw[ah9 (by rw[Array.size_modify];exact hlt),Array.getElem_modify_self,hk];rfl
theorem au{A B:World}{g:Nat}{o:Obj}(hb:Below A.heap.size A B)(h:A.heap[g]?=some o):B.heap[g]?=some o:=(hb.block g (aga.1 h).1).trans h
theorem Below.after{A B C:World}(h:Below A.heap.size A B)(k:Below B.heap.size B C):Below A.heap.size A C:=h.trans (k.mono h.size)
namespace M
attribute [local go_sem] Oper.semAt_some
def oJ(W:World)(g:Nat)(d:Dg):Prop:=W.heap[g]?=some (.cells #[.int .u64 d.v,.int .u64 d.s] 90 (0,0))
abbrev Ap(d:Dg):Value:=.agg #[.int .u64 d.v,.int .u64 d.s]
theorem oJ.cells{W:World}{g:Nat}{d:Dg}(h:oJ W g d):(W.cell? ⟨g,0,none⟩=some (.int .u64 d.v)/\W.cell? ⟨g,1,none⟩=some (.int .u64 d.s))/\W.frozen? ⟨g,0,none⟩=false/\W.frozen? ⟨g,1,none⟩=false:=by
 unfold oJ at h;simp[World.cell?,World.frozen?,h]
theorem oJ.set{W:World}{g:Nat}{d:Dg}(h:oJ W g d)(d':Dg):oJ ((W.setCell ⟨g,0,none⟩ (.int .u64 d'.v)).setCell ⟨g,1,none⟩ (.int .u64 d'.s)) g d':=by
 unfold oJ at h⊢;exact aC _ (aC _ h)
abbrev wK(w:Wt):Value:=.agg #[.int .i64 w.len,.int .i64 w.lines,.int .i64 w.head,.int .i64 w.tail,.int .u64 w.d.v,.int .u64 w.d.s]
def dz(W:World)(g:Nat)(w:Wt):Prop:=W.heap[g]?=some (.cells #[.int .i64 w.len,.int .i64 w.lines,.int .i64 w.head,.int .i64 w.tail,.int .u64 w.d.v,.int .u64 w.d.s] 92 (0,0))
section
variable {W:World} {g:Nat} {w:Wt}
theorem dz.cells(h:dz W g w):W.cell? ⟨g,0,none⟩=some (.int .i64 w.len)/\W.cell? ⟨g,1,none⟩=some (.int .i64 w.lines)/\W.cell? ⟨g,2,none⟩=some (.int .i64 w.head)/\W.cell? ⟨g,3,none⟩=some (.int .i64 w.tail)/\W.cell? ⟨g,4,none⟩=some (.int .u64 w.d.v)/\W.cell? ⟨g,5,none⟩=some (.int .u64 w.d.s):=by
 unfold dz at h;simp[World.cell?,h]
theorem dz.free(h:dz W g w)(i:Nat):W.frozen? ⟨g,i,none⟩=false:=by
 unfold dz at h;simp[World.frozen?,h]
abbrev setW(W:World)(g:Nat)(w:Wt):World:=(((((W.setCell ⟨g,0,none⟩ (.int .i64 w.len)).setCell ⟨g,1,none⟩ (.int .i64 w.lines)).setCell ⟨g,2,none⟩ (.int .i64 w.head)).setCell ⟨g,3,none⟩ (.int .i64 w.tail)).setCell ⟨g,4,none⟩ (.int .u64 w.d.v)).setCell ⟨g,5,none⟩ (.int .u64 w.d.s)
theorem dz.set(h:dz W g w)(w':Wt):dz (setW W g w') g w':=by
 unfold dz at h⊢;exact aC _ (aC _ (aC _ (aC _ (aC _ (aC _ h)))))
theorem bY{n:Nat}{A:World}(h:Below n A W)(hg:n<=g)(w:Wt):Below n A (setW W g w):=
 (((((h.setCell (p:=⟨g,0,none⟩) hg _).setCell (p:=⟨g,1,none⟩) hg _).setCell (p:=⟨g,2,none⟩) hg _).setCell (p:=⟨g,3,none⟩) hg _).setCell (p:=⟨g,4,none⟩) hg _).setCell (p:=⟨g,5,none⟩) hg _
end
def w0:Wt:=⟨0,0,0,0,⟨0,0⟩⟩
theorem Eb(W:World):Calls Tryz.prog 160 #[] W λe w'=>e=.returned (Ap (dg []))/\Below W.heap.size W w':=by
 go_enter Tryz.func160,Tryz.ntmps160;go_wp2_with fail
 exact af_ (v:=Ap (dg [])) (by simp[results,Tryz.results160,go_sem];exact⟨rfl,rfl⟩) rfl ⟨rfl,(af6 _ _).alloc (af7 _) _⟩
theorem Oa(W:World):Calls Tryz.prog 127 #[] W λe w'=>e=.returned (wK (wt []))/\Below W.heap.size W w':=by
 obtain⟨W1,hW1⟩:=ay (W.alloc (.cells #[.int .i64 0,.int .i64 0,.int .i64 0,.int .i64 0,.int .u64 0,.int .u64 0] 92));have k1:dz W1 W.heap.size w0:=by rw[<-hW1];exact aD _ _
 have b1:Below W.heap.size W W1:=by rw[<-hW1];exact(af6 _ _).alloc (af7 _) _
 have K1:=ak k1;have B1:=ak b1;go_enter Tryz.func127,Tryz.ntmps127;go_wp2_with fail
 refine(Eb W1).mono ?_;rintro e w1 ⟨rfl,b2⟩;have k2:=au b2 K1.o;obtain⟨c0,c1,c2,c3,c4,c5⟩:=dz.cells k2;have f0:=dz.free k2 0;have f1:=dz.free k2 1;have f2:=dz.free k2 2;have f3:=dz.free k2 3;have f4:=dz.free k2 4;have f5:=dz.free k2 5;have K3:=ak (dz.set k2 (wt []));have B3:=ak (bY (Below.after B1.o b2) (af7 _) (wt []));obtain⟨w3,hw3⟩:=ay (setW w1 W.heap.size (wt []));rw[hw3]at K3 B3;have e0:Ap (dg [])=.agg #[.int .u64 0,.int .u64 1]:=rfl;rw[e0];have Zj:(((((w1.setCell ⟨W.heap.size,0,none⟩ (.int .i64 0)).setCell ⟨W.heap.size,1,none⟩ (.int .i64 0)).setCell ⟨W.heap.size,2,none⟩ (.int .i64 0)).setCell ⟨W.heap.size,3,none⟩ (.int .i64 0)).setCell ⟨W.heap.size,4,none⟩ (.int .u64 0)).setCell ⟨W.heap.size,5,none⟩ (.int .u64 1)=w3:=hw3;go_wp2_with fail
 obtain⟨c0,c1,c2,c3,c4,c5⟩:=K3.o.cells;exact af_ (v:=wK (wt [])) (by simp[results,Tryz.results127,go_sem,c0,c1,c2,c3,c4,c5]) rfl ⟨rfl,B3.o⟩
theorem zF(W:World)(b:Nat)(hb:b<256):Calls Tryz.prog 197 #[.int .u8 b] W λe w'=>e=.returned (Ap (dg [b]))/\Below W.heap.size W w':=by
 have e0:Ap (dg [b])=.agg #[.int .u64 ((b:Int)+1),.int .u64 1103515245]:=by
  have h1:Kk [b]=b+1:=by show(0*bs+(b+1))%Q=_;rw[aiS,ahi];exact aik (by unfold Q;omega)
  have h2:bs ^ [b].length%Q=1103515245:=rfl;unfold Ap dg;dsimp only;rw[h1,h2];rfl
 rw[e0];have hw:IntKind.u64.wrap ((b:Int)+1)=(b:Int)+1:=by rw[ag4];omega
 have hw2:IntKind.u64.wrap (b:Int)=(b:Int):=by rw[ag4];omega
 go_enter Tryz.func197,Tryz.ntmps197;go_wp2_with fail
 exact af_ (v:=.agg #[.int .u64 ((b:Int)+1),.int .u64 1103515245]) (by simp[results,Tryz.results197,go_sem]) rfl ⟨rfl,(af6 _ _).alloc (af7 _) _⟩
theorem ab4{b:Nat}(h:b≠10):wt [b]=⟨1,0,1,1,dg [b]⟩:=by
 have hb:(b==10)=false:=by simpa using h
 simp[wt,N9,N_,ai1,hb,List.count_cons]
theorem Hr(W:World)(b:Nat)(hb:b<256):Calls Tryz.prog 161 #[.int .u8 b] W λe w'=>e=.returned (wK (wt [b]))/\Below W.heap.size W w':=by
 obtain⟨W1,hW1⟩:=ay (W.alloc (.cells #[.int .i64 0,.int .i64 0,.int .i64 0,.int .i64 0,.int .u64 0,.int .u64 0] 92));have k1:dz W1 W.heap.size w0:=by rw[<-hW1];exact aD _ _
 have b1:Below W.heap.size W W1:=by rw[<-hW1];exact(af6 _ _).alloc (af7 _) _
 have K1:=ak k1;have B1:=ak b1;clear k1 b1;by_cases h10:b=10
 case' _=>
  have hbb:((b:Int)==10)=true:=by simp[h10]
  have e10:wt [b]=⟨1,1,0,0,dg [b]⟩:=by rw[h10];rfl
 rotate_left
 case' _=>
  have hbb:((b:Int)==10)=false:=by simp;omega
  have e10:=ab4 h10
 rotate_left
 all_goals
  clear h10;go_enter Tryz.func161,Tryz.ntmps161;go_wp2_with fail
  refine(zF W1 b hb).mono ?_;rintro e w1 ⟨rfl,b2⟩;obtain⟨d,hd⟩:=ay (dg [b]);have ev:Ap d=.agg #[.int .u64 d.v,.int .u64 d.s]:=rfl;rw[hd,ev]
 case' _=>
  have HW:aA (wt [b]=⟨1,1,0,0,d⟩):=ak (by rw[e10,hd])
 rotate_left
 case' _=>
  have HW:aA (wt [b]=⟨1,0,1,1,d⟩):=ak (by rw[e10,hd])
 rotate_left
 all_goals
  have k2:=au b2 K1.o;obtain⟨c0,c1,c2,c3,c4,c5⟩:=dz.cells k2;have f0:=dz.free k2 0;have f1:=dz.free k2 1;have f2:=dz.free k2 2;have f3:=dz.free k2 3;have f4:=dz.free k2 4;have f5:=dz.free k2 5
 .have K3:=ak (dz.set k2 ⟨1,1,0,0,d⟩);have B3:=ak (bY (Below.after B1.o b2) (af7 _) ⟨1,1,0,0,d⟩);obtain⟨w3,hw3⟩:=ay (setW w1 W.heap.size ⟨1,1,0,0,d⟩);rw[hw3]at K3 B3;have Zj:(((((w1.setCell ⟨W.heap.size,0,none⟩ (.int .i64 1)).setCell ⟨W.heap.size,1,none⟩ (.int .i64 1)).setCell ⟨W.heap.size,2,none⟩ (.int .i64 0)).setCell ⟨W.heap.size,3,none⟩ (.int .i64 0)).setCell ⟨W.heap.size,4,none⟩ (.int .u64 d.v)).setCell ⟨W.heap.size,5,none⟩ (.int .u64 d.s)=w3:=hw3;clear hw3 k2 b2 hW1 ev hd;go_wp2_with fail
  obtain⟨c0,c1,c2,c3,c4,c5⟩:=K3.o.cells;exact af_ (v:=wK ⟨1,1,0,0,d⟩) (by simp[results,Tryz.results161,go_sem,c0,c1,c2,c3,c4,c5]) rfl ⟨by rw[HW.o],B3.o⟩
 have K3:=ak (dz.set k2 ⟨1,0,1,1,d⟩);have B3:=ak (bY (Below.after B1.o b2) (af7 _) ⟨1,0,1,1,d⟩);obtain⟨w3,hw3⟩:=ay (setW w1 W.heap.size ⟨1,0,1,1,d⟩);rw[hw3]at K3 B3;have Zj:(((((w1.setCell ⟨W.heap.size,0,none⟩ (.int .i64 1)).setCell ⟨W.heap.size,1,none⟩ (.int .i64 0)).setCell ⟨W.heap.size,2,none⟩ (.int .i64 1)).setCell ⟨W.heap.size,3,none⟩ (.int .i64 1)).setCell ⟨W.heap.size,4,none⟩ (.int .u64 d.v)).setCell ⟨W.heap.size,5,none⟩ (.int .u64 d.s)=w3:=hw3;clear hw3 k2 b2 hW1 ev hd;go_wp2_with fail
 obtain⟨c0,c1,c2,c3,c4,c5⟩:=K3.o.cells;exact af_ (v:=wK ⟨1,0,1,1,d⟩) (by simp[results,Tryz.results161,go_sem,c0,c1,c2,c3,c4,c5]) rfl ⟨by rw[HW.o],B3.o⟩
end M
end
section
open Go.RowKit Go.Lib
namespace M
attribute [local go_sem] Oper.semAt_some
theorem P_Q:P=Q:=rfl
def Dg.ok(d:Dg):Prop:=d.v<18446744073709551616/\d.s<18446744073709551616
theorem UO:Q<18446744073709551616:=by decide
theorem Xk(t:List Nat):(dg t).ok:=⟨aiQ (Kl t) UO,aiQ (ahb _ Ea) UO⟩
theorem sU(W:World){a b:Dg}(ha:a.ok)(hb:b.ok):Calls Tryz.prog 198 #[.agg #[.int .u64 a.v,.int .u64 a.s],.agg #[.int .u64 b.v,.int .u64 b.s]] W λe w'=>e=.returned (Ap (mU a b))/\Below W.heap.size W w':=by
 have HF:∀f,Fence.wide.fn f:=λ_=>trivial;obtain⟨W1,hW1⟩:=ay (((W.alloc (.cells #[.int .u64 a.v,.int .u64 a.s] 90)).alloc (.cells #[.int .u64 b.v,.int .u64 b.s] 90)).alloc (.cells #[.int .u64 0,.int .u64 0] 90));have k1:oJ W1 W.heap.size a:=by
  rw[<-hW1];exact au ((af6 _ _).alloc (af7 _) _) (au ((af6 _ _).alloc (af7 _) _) (aD W _))
 have k2:oJ W1 (W.heap.size+1) b:=by
  rw[<-hW1];have:=aD (W.alloc (.cells #[.int .u64 a.v,.int .u64 a.s] 90)) (.cells #[.int .u64 b.v,.int .u64 b.s] 90);rw[ag1]at this;exact au ((af6 _ _).alloc (af7 _) _) this
 have k3:oJ W1 (W.heap.size+1+1) ⟨0,0⟩:=by
  rw[<-hW1];have:=aD ((W.alloc (.cells #[.int .u64 a.v,.int .u64 a.s] 90)).alloc (.cells #[.int .u64 b.v,.int .u64 b.s] 90)) (.cells #[.int .u64 0,.int .u64 0] 90);simp only[ag1]at this;exact this
 have b1:Below W.heap.size W W1:=by
  rw[<-hW1];exact(((af6 _ W).alloc (af7 _) _).alloc (by simp) _).alloc (by simp only[ag1];omega) _
 have a0:∀w,Below W1.heap.size W1 w->w.cell? ⟨W.heap.size,0,none⟩=some (.int .u64 a.v):=λw h=>(oJ.cells (au h k1)).1.1;have a1:∀w,Below W1.heap.size W1 w->w.cell? ⟨W.heap.size,1,none⟩=some (.int .u64 a.s):=λw h=>(oJ.cells (au h k1)).1.2;have b0:∀w,Below W1.heap.size W1 w->w.cell? ⟨W.heap.size+1,0,none⟩=some (.int .u64 b.v):=λw h=>(oJ.cells (au h k2)).1.1;have b1':∀w,Below W1.heap.size W1 w->w.cell? ⟨W.heap.size+1,1,none⟩=some (.int .u64 b.s):=λw h=>(oJ.cells (au h k2)).1.2;have HA:=ak ha;have HB:=ak hb;have B1:=ak b1;have K3:=ak k3;have HJ:=ak (show(mU a b).v=(a.v*b.s%P+b.v)%P/\(mU a b).s=a.s*b.s%P from⟨by unfold mU;rw[P_Q,Nat.mod_add_mod],rfl⟩);have HM:aA (∀z:Nat,z%P<18446744073709551616):=ak (λz=>aiQ (ahb _ Ea) UO);go_enter Tryz.func198,Tryz.ntmps198;go_wp2_with fail
 refine dD (S:=Below W1.heap.size W1) ((af6 _ _).drew) λw2 S0=>?_;refine bJ 0 1 2 3 5 6 ?_;refine tk4 8 9 10 11 ?_;refine aT 4 λK hK=>?_;go_simp
 try with_reducible refine⟨rfl,?_⟩
 refine agq.2 ((qd w2 a.v b.s HA.o.1 HB.o.2).mono ?_);rintro e w ⟨rfl,h⟩;rw[h];obtain⟨x,hx⟩:=ay (a.v*b.s%P);have HX:=ak hx;rw[hx];refine hK _ _ S0 ?_;refine aT 7 λK hK=>?_;go_simp
 try with_reducible refine⟨rfl,?_⟩
 refine agq.2 ((Fh w2 x b.v (by rw[<-HX.o];exact HM.o _) HB.o.1).mono ?_);rintro e w ⟨rfl,h⟩;rw[h];obtain⟨y,hy⟩:=ay ((x+b.v)%P);have HY:=ak hy;rw[hy];refine hK _ _ S0 ?_;refine aT 12 λK hK=>?_;go_simp
 try with_reducible refine⟨rfl,?_⟩
 refine agq.2 ((qd w2 a.s b.s HA.o.2 HB.o.2).mono ?_);rintro e w ⟨rfl,h⟩;rw[h];obtain⟨z,hz⟩:=ay (a.s*b.s%P);have HZ:=ak hz;rw[hz];refine hK _ _ S0 ?_;refine tk1 13 ?_;refine aJ.cK 14 (by kernel_rfl) ?_;simp only[agr,agj];have k3:=au S0 K3.o;obtain⟨⟨c0,c1⟩,f0,f1⟩:=oJ.cells k3;obtain⟨w3,hw3⟩:=ay ((w2.setCell ⟨W.heap.size+1+1,0,none⟩ (.int .u64 y)).setCell ⟨W.heap.size+1+1,1,none⟩ (.int .u64 z));have K4:aA (oJ w3 (W.heap.size+1+1) ⟨y,z⟩):=ak (by rw[<-hw3];exact oJ.set k3 ⟨y,z⟩);have B4:aA (Below W.heap.size W w3):=ak (by
  rw[<-hw3];exact((Below.after B1.o S0).setCell (p:=⟨W.heap.size+1+1,0,none⟩) (by dsimp only;omega) _).setCell (p:=⟨W.heap.size+1+1,1,none⟩) (by dsimp only;omega) _)
 have HE:aA (Ap (mU a b)=.agg #[.int .u64 y,.int .u64 z]):=ak (by
  have h1:=HJ.o.1;have h2:=HJ.o.2;rw[HX.o,HY.o]at h1;rw[HZ.o]at h2;unfold Ap;rw[h1,h2])
 gi_wp2_with fail
 go_wp2_with fail
 obtain⟨⟨c0,c1⟩,-⟩:=K4.o.cells;exact af_ (v:=.agg #[.int .u64 y,.int .u64 z]) (by simp[results,Tryz.results198,go_sem,c0,c1]) rfl ⟨by rw[HE.o],B4.o⟩
theorem aB{W:World}{g k i:Nat}{o:Obj}{v:Value}(hg:k≠g)(h:W.heap[k]?=some o):(W.setCell ⟨g,i,none⟩ v).heap[k]?=some o:=by
 rw[agU _ _ _ _ hg];exact h
theorem Qr(u:List Nat)(k:Nat):rep k u=rep (k%2) u++rep (k/2) (u++u):=by
 have e:u++u=rep 2 u:=by rw[ji,iB]
 rw[e,UN,<-sS];congr 1;omega
theorem Qs(W:World)(t:List Nat)(k:Nat)(hk:k<=9223372036854775807):Calls Tryz.prog 174 #[.agg #[.int .u64 (dg t).v,.int .u64 (dg t).s],.int .i64 k] W λe w'=>e=.returned (Ap (dg (rep k t)))/\Below W.heap.size W w':=by
 obtain⟨a,ha⟩:=ay (dg t);rw[ha];obtain⟨W1,hW1⟩:=ay ((W.alloc (.cells #[.int .u64 a.v,.int .u64 a.s] 90)).alloc (.cells #[.int .u64 0,.int .u64 0] 90));have k1:oJ W1 W.heap.size a:=by
  rw[<-hW1];exact au ((af6 _ _).alloc (af7 _) _) (aD W _)
 have k2:oJ W1 (W.heap.size+1) ⟨0,0⟩:=by
  rw[<-hW1];have:=aD (W.alloc (.cells #[.int .u64 a.v,.int .u64 a.s] 90)) (.cells #[.int .u64 0,.int .u64 0] 90);rw[ag1]at this;exact this
 have b1:Below W.heap.size W W1:=by
  rw[<-hW1];exact((af6 _ W).alloc (af7 _) _).alloc (by simp) _
 have K1:=ak k1;have K2:=ak k2;have B1:=ak b1;have HA:=ak ha;go_enter Tryz.func174,Tryz.ntmps174;go_wp2_with fail
 refine(Eb W1).mono ?_;rintro e w1 ⟨rfl,b2⟩;have ev:Ap (dg [])=.agg #[.int .u64 0,.int .u64 1]:=rfl;rw[ev];obtain⟨g,hg⟩:=ay (w1.heap.size);obtain⟨W3,hW3⟩:=ay (w1.alloc (.cells #[.int .u64 0,.int .u64 1] 90));have HI:aA (oJ W3 W.heap.size (dg t)/\oJ W3 (W.heap.size+1) ⟨0,0⟩/\oJ W3 g (dg [])/\Below W.heap.size W W3/\W.heap.size+1<g):=ak (by
  have h3:Below w1.heap.size w1 W3:=by rw[<-hW3];exact(af6 _ _).alloc (af7 _) _
  refine⟨by rw[HA.o];exact au h3 (au b2 K1.o),au h3 (au b2 K2.o),by rw[<-hW3,<-hg];exact aD _ _,Below.after (Below.after B1.o b2) h3,?_⟩;have:=(aga.1 K2.o).1;have:=b2.size;omega)
 have iI:=ak HI.o.2.2.2.2;go_wp2_with fail
 try rw[hg]
 go_loopw [1] (λc wr=>∃(j:Nat) (r u:List Nat),c=.int .i64 j/\j<=9223372036854775807/\oJ wr W.heap.size (dg u)/\oJ wr (W.heap.size+1) ⟨0,0⟩/\oJ wr g (dg r)/\r++rep j u=rep k t/\Below W.heap.size W wr) (λc _=>(intOf c).toNat)
 case atStart=>exact⟨k,[],t,rfl,hk,HI.o.1,HI.o.2.1,HI.o.2.2.1,rfl,HI.o.2.2.2.1⟩
 obtain⟨j,r,u,rfl,hj,q1,q2,q3,hr,hb⟩:=hrel;by_cases hj0:0<j
 .have t1:(0:Int)<(j:Int):=by omega
  have hh:=Qr u j;obtain⟨d,hd⟩:=ay (dg u);obtain⟨s,hs⟩:=ay (dg r);rw[hd]at q1;rw[hs]at q3;have Hd:aA d.ok:=ak (by rw[<-hd];exact Xk _);have Hs:aA s.ok:=ak (by rw[<-hs];exact Xk _);have Hdd:aA (dg (u++u)=mU d d):=ak (by rw[oU,hd]);have Hsd:aA (dg (r++u)=mU s d):=ak (by rw[oU,hs,hd]);have Q1:=ak q1;have Q2:=ak q2;have Q3:=ak q3;have HB:=ak hb;have HS:=ak hs;obtain⟨⟨c0,c1⟩,f0,f1⟩:=q1.cells;obtain⟨⟨d0,d1⟩,e0,e1⟩:=q3.cells;rcases aiB j with hm|hm
  case' _=>
   have hmi:(j:Int)%2=0:=by omega
   have HN:aA (r++rep (j/2) (u++u)=rep k t):=ak (by rw[<-hr,hh,hm];rfl);go_wp2_with fail
   refine(sU wr Hd.o Hd.o).mono ?_;rintro e w2 ⟨rfl,b2⟩
  rotate_left
  case' _=>
   have hmi:(j:Int)%2=1:=by omega
   have HN:aA ((r++u)++rep (j/2) (u++u)=rep k t):=ak (by rw[<-hr,hh,hm,iB,agf]);go_wp2_with fail
   refine(sU wr Hs.o Hd.o).mono ?_;rintro e w2 ⟨rfl,b2⟩;obtain⟨y,hy⟩:=ay (mU s d);have ev:Ap y=.agg #[.int .u64 y.v,.int .u64 y.s]:=rfl;have HY:aA (dg (r++u)=y):=ak (by rw[Hsd.o,hy]);rw[hy,ev];have k3:=au b2 Q3.o;obtain⟨⟨d0,d1⟩,e0,e1⟩:=oJ.cells k3;obtain⟨w3,hw3⟩:=ay ((w2.setCell ⟨g,0,none⟩ (.int .u64 y.v)).setCell ⟨g,1,none⟩ (.int .u64 y.s));have HE:aA (oJ w3 W.heap.size d/\oJ w3 (W.heap.size+1) ⟨0,0⟩/\oJ w3 g y/\Below W.heap.size W w3):=ak (by
    rw[<-hw3];refine⟨?_,?_,oJ.set k3 y,((Below.after HB.o b2).setCell (p:=⟨g,0,none⟩) (by have:=iI.o;dsimp only;omega) _).setCell (p:=⟨g,1,none⟩) (by have:=iI.o;dsimp only;omega) _⟩
    .exact aB (by have:=iI.o;omega) (aB (by have:=iI.o;omega) (au b2 Q1.o))
    exact aB (by have:=iI.o;omega) (aB (by have:=iI.o;omega) (au b2 Q2.o)))
   have q1:=HE.o.1;obtain⟨⟨c0,c1⟩,f0,f1⟩:=q1.cells;go_wp2_with fail
   refine(sU w3 Hd.o Hd.o).mono ?_;rintro e w4 ⟨rfl,b4⟩
  rotate_left
  all_goals
   obtain⟨x,hx⟩:=ay (mU d d);have ev:Ap x=.agg #[.int .u64 x.v,.int .u64 x.s]:=rfl;have HX:aA (dg (u++u)=x):=ak (by rw[Hdd.o,hx]);rw[hx,ev]
  .have k2:=au b2 Q1.o;obtain⟨⟨c0,c1⟩,f0,f1⟩:=oJ.cells k2;obtain⟨w3,hw3⟩:=ay ((w2.setCell ⟨W.heap.size,0,none⟩ (.int .u64 x.v)).setCell ⟨W.heap.size,1,none⟩ (.int .u64 x.s));have HE:aA (oJ w3 W.heap.size (dg (u++u))/\oJ w3 (W.heap.size+1) ⟨0,0⟩/\oJ w3 g (dg r)/\Below W.heap.size W w3):=ak (by
    rw[<-hw3,HX.o];refine⟨oJ.set k2 x,?_,?_,((Below.after HB.o b2).setCell (p:=⟨W.heap.size,0,none⟩) (af7 _) _).setCell (p:=⟨W.heap.size,1,none⟩) (af7 _) _⟩
    .exact aB (by omega) (aB (by omega) (au b2 Q2.o))
    rw[HS.o];exact aB (by have:=iI.o;omega) (aB (by have:=iI.o;omega) (au b2 Q3.o)))
   go_wp2_with fail
   go_roundw
   case rel=>exact⟨j/2,r,u++u,by go_num,by omega,HE.o.1,HE.o.2.1,HE.o.2.2.1,HN.o,HE.o.2.2.2⟩
   case measure=>simp[intOf];omega
  have k4:=au b4 HE.o.1;obtain⟨⟨c0,c1⟩,f0,f1⟩:=oJ.cells k4;obtain⟨w5,eH⟩:=ay ((w4.setCell ⟨W.heap.size,0,none⟩ (.int .u64 x.v)).setCell ⟨W.heap.size,1,none⟩ (.int .u64 x.s));have HE2:aA (oJ w5 W.heap.size (dg (u++u))/\oJ w5 (W.heap.size+1) ⟨0,0⟩/\oJ w5 g (dg (r++u))/\Below W.heap.size W w5):=ak (by
   rw[<-eH,HX.o];refine⟨oJ.set k4 x,?_,?_,((Below.after HE.o.2.2.2 b4).setCell (p:=⟨W.heap.size,0,none⟩) (af7 _) _).setCell (p:=⟨W.heap.size,1,none⟩) (af7 _) _⟩
   .exact aB (by omega) (aB (by omega) (au b4 HE.o.2.1))
   rw[HY.o];exact aB (by have:=iI.o;omega) (aB (by have:=iI.o;omega) (au b4 HE.o.2.2.1)))
  go_wp2_with fail
  go_roundw
  case rel=>exact⟨j/2,r++u,u++u,by go_num,by omega,HE2.o.1,HE2.o.2.1,HE2.o.2.2.1,HN.o,HE2.o.2.2.2⟩
  case measure=>simp[intOf];omega
 obtain rfl:j=0:=by omega
 obtain⟨d,hd⟩:=ay (dg r);have HR:aA (dg (rep k t)=d):=ak (by rw[<-hr,Qq,agi,hd]);rw[hd]at q3;obtain⟨⟨d0,d1⟩,-⟩:=q3.cells;obtain⟨⟨c0,c1⟩,f0,f1⟩:=q2.cells;obtain⟨w3,hw3⟩:=ay ((wr.setCell ⟨W.heap.size+1,0,none⟩ (.int .u64 d.v)).setCell ⟨W.heap.size+1,1,none⟩ (.int .u64 d.s));have HE:aA (oJ w3 (W.heap.size+1) d/\Below W.heap.size W w3):=ak (by
  rw[<-hw3];exact⟨oJ.set q2 d,(hb.setCell (p:=⟨W.heap.size+1,0,none⟩) (by dsimp only;omega) _).setCell (p:=⟨W.heap.size+1,1,none⟩) (by dsimp only;omega) _⟩)
 go_wp2_with fail
 obtain⟨⟨c0,c1⟩,-⟩:=HE.o.1.cells;exact af_ (v:=.agg #[.int .u64 d.v,.int .u64 d.s]) (by simp[results,Tryz.results174,go_sem,c0,c1]) rfl ⟨by rw[HR.o],HE.o.2⟩
end M
end
end Go.Proofs.YtgbhohfabhilgaaGreatDoor
