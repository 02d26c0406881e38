/- Part of TopAudits. -/
import Derived.Test.YtmgdbfmlnmahpaaGreatDoorG11
import Derived.Test.YtmgdbfmlnmahpaaGreatDoorG12
import Derived.Lib.ItoaNum
import Derived.Laws.BitsLemmas
import Derived.Maps.OwnOps
import Derived.Maps.OwnSet
import Derived.Maps.RangeWalk
namespace Go.Proofs.YtmgdbfmlnmahpaaGreatDoor
set_option linter.unusedSimpArgs false
set_option linter.unusedVariables false
set_option maxRecDepth 100000
set_option maxHeartbeats 4000000
open Go.Proofs.Tryz
open Go.RowKit Go.Shelf
section
variable {f:Nat}
theorem dF (hf:f<=3)(w:World):Calls prog 216 #[.int .i64 f] w λe w'=>e=.returned (.bool true)/\w'=w:=by
 have h3:(f:Int)<=3:=by omega
 go_enter func216,ntmps216;go_wp2_with fail;go_ret;exact⟨rfl,rfl⟩
theorem pV (A:Nat)(a b:Nat)(ha:a<=aJ)(hb:b<=aJ)(w:World)(hA:w.heap[A]? =some (.cells #[.int .u64 a,.int .u64 b] 22 (0,0))):
  Calls prog 332 #[.slice (some ⟨A,0,none⟩) 2 2] w λe w'=>e=.returned (.int .u64 (jF a b:Nat))/\w'=w:=by
 have c0:=aE hA 0;have c1:=aE hA 1;have hm:aJ=18446744073709551615:=rfl;have ha':(a:Int)<=18446744073709551615:=by have:=ha;rw[hm] at this;omega
 have hb':(b:Int)<=18446744073709551615:=by have:=hb;rw[hm] at this;omega
 by_cases hs:18446744073709551615<a+b
 .have HSAT:Hid (((jF a b:Nat):Int)=18446744073709551615):=by
   show _=_;unfold jF;rw[hm];omega
  clear hm ha hb;go_enter func332,ntmps332;go_wp2_with fail
  go_loop [3,8] (λsm i=>(i=.int .i64 0/\sm=.int .u64 0)\/(i=.int .i64 1/\sm=.int .u64 a)) (λ_ i=>2-(intOf i).toNat)
  case atStart=>exact .inl ⟨rfl,rfl⟩
  case round=>
   rcases hrel with⟨rfl,rfl⟩|⟨rfl,rfl⟩
   .go_wp2_with fail
    go_round
    case rel=>exact .inr ⟨rfl,by first|rfl|simp⟩
    case measure=>simp[intOf]
   .have hd:18446744073709551615-(a:Int)<(b:Int):=by omega
    go_wp2_with fail;go_ret;exact⟨by rw[HSAT.out];rfl,rfl⟩
 .have HSAT:Hid (((jF a b:Nat):Int)=(a:Int)+(b:Int)):=by
   show _=_;unfold jF;rw[hm];omega
  clear hm ha hb;go_enter func332,ntmps332;go_wp2_with fail
  go_loop [3,8] (λsm i=>(i=.int .i64 0/\sm=.int .u64 0)\/(i=.int .i64 1/\sm=.int .u64 a)\/(i=.int .i64 2/\sm=.int .u64 ((a:Int)+(b:Int)))) (λ_ i=>2-(intOf i).toNat)
  case atStart=>exact .inl ⟨rfl,rfl⟩
  case round=>
   rcases hrel with⟨rfl,rfl⟩|⟨rfl,rfl⟩|⟨rfl,rfl⟩
   .go_wp2_with fail
    go_round
    case rel=>exact .inr (.inl ⟨rfl,by first|rfl|simp⟩)
    case measure=>simp[intOf]
   .have hd:¬(18446744073709551615-(a:Int)<(b:Int)):=by omega
    have hs2:(a:Int)+(b:Int)<=18446744073709551615:=by omega
    go_wp2_with fail
    go_round
    case rel=>exact .inr (.inr ⟨rfl,by first|rfl|simp⟩)
    case measure=>simp[intOf]
   .go_wp2_with fail;go_ret;exact⟨by rw[HSAT.out];rfl,rfl⟩
theorem uL (v:Nat)(hv:v<=aJ)(h0:v≠0):Lib.bitLen v=Nat.log2 v+1/\Nat.log2 v<=63:=by
 have hv':v<=18446744073709551615:=hv;obtain⟨h1,h2,h3⟩:=Lib.bitLenAux_bounds 64 v (by omega) h0;have hle:Lib.bitLenAux 64 v<=64:=Lib.bitLen_le v 64 (by omega) (by omega);have e:Nat.log2 v=Lib.bitLenAux 64 v-1:=(Nat.log2_eq_iff h0).2 ⟨h2,by rwa[Nat.sub_add_cancel h1]⟩;refine⟨?_,by omega⟩;show Lib.bitLenAux 64 v=_;omega
theorem aIr (v k:Nat)(h1:2^k<=v)(h2:v<2^(k+1))(hk:k<=63):v*2^(63-k)<2^64/\v*2^(63-k)*2=(v-2^k)*2^(64-k)+2^64/\(v-2^k)*2^(64-k)<2^64:=by
 have e1:2^k*2^(63-k)=2^63:=by rw[<-Nat.pow_add];congr 1;omega
 have e2:2^(k+1)*2^(63-k)=2^64:=by rw[<-Nat.pow_add];congr 1;omega
 have e3:2^(64-k)=2^(63-k)*2:=by rw[<-Nat.pow_succ];congr 1;omega
 have p:0<2^(63-k):=Nat.pow_pos (by decide);have a1:v*2^(63-k)<2^(k+1)*2^(63-k):=Nat.mul_lt_mul_of_pos_right h2 p;have a2:(v-2^k)*2^(64-k)=v*2^(63-k)*2-2^64:=by
  rw[e3,Nat.sub_mul,<-Nat.mul_assoc,<-Nat.mul_assoc,e1]
 have a3:2^k*2^(63-k)<=v*2^(63-k):=Nat.mul_le_mul_right _ h1;rw[e2] at a1;rw[e1] at a3;refine⟨a1,?_,?_⟩
 .rw[a2];omega
 .rw[a2];omega
theorem aF8 (f x k:Nat)(hf:f<=3)(hk:k<=63):x*2^(64-k)/2^(64-f)=x*2^f/2^k:=by
 have p:0<2^k:=Nat.pow_pos (by decide);have q:0<2^(64-f):=Nat.pow_pos (by decide);have e1:2^(64-k)*2^k=2^f*2^(64-f):=by rw[<-Nat.pow_add,<-Nat.pow_add,show 64-k+k=64 from by omega,show f+(64-f)=64 from by omega]
 rw[<-Nat.mul_div_mul_right (x*2^(64-k)) (2^(64-f)) p,Nat.mul_assoc,e1,<-Nat.mul_assoc,Nat.mul_comm (2^(64-f)) (2^k),Nat.mul_div_mul_right _ _ q]
theorem aDb (v k:Nat)(h1:2^k<=v)(h2:v<2^(k+1))(hk:k<=63):IntKind.u64.wrap (IntKind.u64.wrap ((v:Int)*2^(63-k))*2)=(((v-2^k)*2^(64-k):Nat):Int):=by
 obtain⟨a1,a2,a3⟩:=aIr v k h1 h2 hk;have c:(v:Int)*2^(63-k)=((v*2^(63-k):Nat):Int):=by push_cast;rfl
 rw[c];generalize v*2^(63-k)=m at*;generalize(v-2^k)*2^(64-k)=n at*;simp[IntKind.wrap,IntKind.bits,IntKind.signed];omega
theorem yU (hf:f<=3)(w:World):Calls prog 328 #[.int .i64 f,.int .u64 0] w λe w'=>e=.returned (.int .i64 0)/\w'=w:=by
 go_enter func328,ntmps328;go_wp2_with fail;refine(dF hf _).mono ?_;rintro e w1 ⟨rfl,rfl⟩;go_wp2_with fail;go_ret;exact⟨rfl,rfl⟩
theorem lX (hf:f<=3)(v:Nat)(hv:v<=aJ)(w:World):Calls prog 328 #[.int .i64 f,.int .u64 v] w λe w'=>e=.returned (.int .i64 (vQ f v:Nat))/\Below w.heap.size w w':=by
 by_cases h0:v=0
 .subst h0;refine(yU hf w).mono ?_;rintro e w' ⟨rfl,rfl⟩;exact⟨rfl,aW⟩
 have hL:=aA (fN (v:Int) w (by omega) (by have:v<=18446744073709551615:=hv;omega));have hz:¬(v:Int)=0:=by omega
 obtain⟨hb1,hb2⟩:=uL v hv h0;have hp1:=aI6 h0;have hp2:=aJl (v:=v);have HE:Hid (vQ f v=1+Nat.log2 v*2^f+(v-2^Nat.log2 v)*2^f/2^Nat.log2 v):=by
  show _=_;unfold vQ;rw[if_neg h0]
 have HQ:=aA (aJv f v);generalize Nat.log2 v=k at*;rw[show(v:Int).toNat=v from rfl,hb1] at hL;have HW:=aA (aDb v k hp1 hp2 hb2);have HS:=aA (aF8 f (v-2^k) k hf hb2);generalize vQ f v=r at*;clear hv hb1 hp1 hp2;have hk:(k:Int)<=63:=by omega
 generalize(v-2^k)*2^f/2^k=q at*;have hf':f=0\/f=1\/f=2\/f=3:=by omega
 clear hf;rcases hf' with rfl|rfl|rfl|rfl
 .go_enter func328,ntmps328;go_wp2_with fail;refine(dF (f:=0) (by omega) _).mono ?_;rintro e w1 ⟨rfl,rfl⟩;go_wp2_with fail;refine hL.out.mono ?_;rintro e w1 ⟨rfl,rfl⟩;clear hL;go_wp2_with fail;rw[HW.out];generalize(v-2^k)*2^(64-k)=m at*;have st:=St.start w1;obtain⟨bl2,E2,hne2,sh2,rl,hEx,hbx,hst⟩:=st.aW1;refine aZ sh2 (by kernel_rfl) (by kernel_rfl) ?_
  repeat(first|go_big_quiet_step (fail)|quiet_step (fail))
  refine wpQuiet_nil ?_;intro y;have hb:=(hbx y).out;clear hbx rl hst sh2 hEx st;generalize y.W=w4 at*;have hfin:wrap64 (1+(k:Int)+wrap64 ((m:Int)/18446744073709551616))=(r:Int):=by
   have hs:m/18446744073709551616=q:=HS.out;have he:r=1+k*1+q:=HE.out;have hq:q<1:=HQ.out;simp[wrap64];omega
  first|rw[hfin]|skip
  go_wp2_with fail;go_ret
  first|exact⟨rfl,hb⟩|exact⟨by rw[<-hfin];rfl,hb⟩
 .go_enter func328,ntmps328;go_wp2_with fail;refine(dF (f:=1) (by omega) _).mono ?_;rintro e w1 ⟨rfl,rfl⟩;go_wp2_with fail;refine hL.out.mono ?_;rintro e w1 ⟨rfl,rfl⟩;clear hL;go_wp2_with fail;rw[HW.out];generalize(v-2^k)*2^(64-k)=m at*;have st:=St.start w1;obtain⟨bl2,E2,hne2,sh2,rl,hEx,hbx,hst⟩:=st.aW1;refine aZ sh2 (by kernel_rfl) (by kernel_rfl) ?_
  repeat(first|go_big_quiet_step (fail)|quiet_step (fail))
  refine wpQuiet_nil ?_;intro y;have hb:=(hbx y).out;clear hbx rl hst sh2 hEx st;generalize y.W=w4 at*;have hfin:wrap64 (1+(k:Int)*2+wrap64 ((m:Int)/9223372036854775808))=(r:Int):=by
   have hs:m/9223372036854775808=q:=HS.out;have he:r=1+k*2+q:=HE.out;have hq:q<2:=HQ.out;simp[wrap64];omega
  first|rw[hfin]|skip
  go_wp2_with fail;go_ret
  first|exact⟨rfl,hb⟩|exact⟨by rw[<-hfin];rfl,hb⟩
 .go_enter func328,ntmps328;go_wp2_with fail;refine(dF (f:=2) (by omega) _).mono ?_;rintro e w1 ⟨rfl,rfl⟩;go_wp2_with fail;refine hL.out.mono ?_;rintro e w1 ⟨rfl,rfl⟩;clear hL;go_wp2_with fail;rw[HW.out];generalize(v-2^k)*2^(64-k)=m at*;have st:=St.start w1;obtain⟨bl2,E2,hne2,sh2,rl,hEx,hbx,hst⟩:=st.aW1;refine aZ sh2 (by kernel_rfl) (by kernel_rfl) ?_
  repeat(first|go_big_quiet_step (fail)|quiet_step (fail))
  refine wpQuiet_nil ?_;intro y;have hb:=(hbx y).out;clear hbx rl hst sh2 hEx st;generalize y.W=w4 at*;have hfin:wrap64 (1+(k:Int)*4+wrap64 ((m:Int)/4611686018427387904))=(r:Int):=by
   have hs:m/4611686018427387904=q:=HS.out;have he:r=1+k*4+q:=HE.out;have hq:q<4:=HQ.out;simp[wrap64];omega
  first|rw[hfin]|skip
  go_wp2_with fail;go_ret
  first|exact⟨rfl,hb⟩|exact⟨by rw[<-hfin];rfl,hb⟩
 .go_enter func328,ntmps328;go_wp2_with fail;refine(dF (f:=3) (by omega) _).mono ?_;rintro e w1 ⟨rfl,rfl⟩;go_wp2_with fail;refine hL.out.mono ?_;rintro e w1 ⟨rfl,rfl⟩;clear hL;go_wp2_with fail;rw[HW.out];generalize(v-2^k)*2^(64-k)=m at*;have st:=St.start w1;obtain⟨bl2,E2,hne2,sh2,rl,hEx,hbx,hst⟩:=st.aW1;refine aZ sh2 (by kernel_rfl) (by kernel_rfl) ?_
  repeat(first|go_big_quiet_step (fail)|quiet_step (fail))
  refine wpQuiet_nil ?_;intro y;have hb:=(hbx y).out;clear hbx rl hst sh2 hEx st;generalize y.W=w4 at*;have hfin:wrap64 (1+(k:Int)*8+wrap64 ((m:Int)/2305843009213693952))=(r:Int):=by
   have hs:m/2305843009213693952=q:=HS.out;have he:r=1+k*8+q:=HE.out;have hq:q<8:=HQ.out;simp[wrap64];omega
  first|rw[hfin]|skip
  go_wp2_with fail;go_ret
  first|exact⟨rfl,hb⟩|exact⟨by rw[<-hfin];rfl,hb⟩
def wE (f a:Nat):Prop:=a=0\/(1<=a/\(a-1)/2^f<64/\(f<=(a-1)/2^f\/(a-1)%2^f%2^(f-(a-1)/2^f)=0))
theorem xT (hf:f<=3)(v:Nat)(hv:v<=aJ):wE f (vQ f v):=by
 by_cases h0:v=0
 .subst h0;exact .inl rfl
 obtain⟨_,h63⟩:=uL v hv h0;have hp1:=aI6 h0;have hq:=aJv f v;have e:vQ f v=1+Nat.log2 v*2^f+(v-2^Nat.log2 v)*2^f/2^Nat.log2 v:=by unfold vQ;rw[if_neg h0]
 refine .inr ?_;rw[e];generalize Nat.log2 v=k at*;have hk3:k<f->(v-2^k)*2^f/2^k=(v-2^k)*2^(f-k):=by
  intro h;have:2^f=2^(f-k)*2^k:=by rw[<-Nat.pow_add];congr 1;omega
  rw[this,<-Nat.mul_assoc,Nat.mul_div_cancel _ (Nat.pow_pos (by decide))]
 generalize v-2^k=x at*;generalize x*2^f/2^k=p at*;have hP:0<2^f:=Nat.pow_pos (by decide);have e0:1+k*2^f+p-1=p+2^f*k:=by rw[Nat.mul_comm (2^f)];omega
 have e1:(1+k*2^f+p-1)/2^f=k:=by rw[e0,Nat.add_mul_div_left _ _ hP,Nat.div_eq_of_lt hq,Nat.zero_add]
 have e2:(1+k*2^f+p-1)%2^f=p:=by rw[e0,Nat.add_mul_mod_self_left,Nat.mod_eq_of_lt hq]
 rw[e1,e2];refine⟨by generalize k*2^f=z;omega,by omega,?_⟩
 by_cases h3:f<=k
 .exact .inl h3
 .exact .inr (by rw[hk3 (by omega)];exact Nat.mul_mod_left _ _)
theorem nP {a:Nat}(hf:f<=3)(h:wE f a):a<=1000:=by
 rcases h with rfl|⟨h1,h2,-⟩
 .exact cJ _
 .have hf':f=0\/f=1\/f=2\/f=3:=by omega
  rcases hf' with rfl|rfl|rfl|rfl<;>simp at h2<;>omega
theorem pL (n:Int)(h₀:0<=n)(h₁:n<2^63):IntKind.i64.wrap n=n:=by rw[IntKind.wrap_i64];omega
theorem aFt (x:Int)(h₀:0<=x)(h₁:x<2^63):bits .and .i64 x 7=x%8:=bits_mask .i64 63 (by decide) pL 3 (by decide) x h₀ h₁
theorem yD (x:Int)(h₀:0<=x)(h₁:x<2^63):bits .and .i64 x 3=x%4:=bits_mask .i64 63 (by decide) pL 2 (by decide) x h₀ h₁
theorem sH (x:Int)(h₀:0<=x)(h₁:x<2^63):bits .and .i64 x 1=x%2:=bits_mask .i64 63 (by decide) pL 1 (by decide) x h₀ h₁
def aB0 (e:Ending):Prop:=∃(x:Nat) (y:Int),x<=aJ/\e=.returned (.tuple #[.int .u64 x,.int .u64 y,.bool true])
theorem iJ (x y:Int)(h0:0<=x)(h1:x<=18446744073709551615):aB0 (.returned (.tuple #[.int .u64 x,.int .u64 y,.bool true])):=by
 obtain⟨n,rfl⟩:=Int.eq_ofNat_of_zero_le h0;exact⟨n,y,by show n<=18446744073709551615;omega,rfl⟩
theorem aDx (z:Int):0<=IntKind.u64.wrap z/\IntKind.u64.wrap z<=18446744073709551615:=by
 rw[IntKind.wrap_u64];omega
theorem eK (a b:Int):0<=bits .or .u64 a b/\bits .or .u64 a b<=18446744073709551615:=aDx _
theorem yT (hf:f<=3)(w:World):Calls prog 217 #[.int .i64 f,.int .i64 0] w λe w'=>aB0 e/\Below w.heap.size w w':=by
 go_enter func217,ntmps217;go_wp2_with fail;refine wp_scope_straight ?_;go_wp2_with fail;refine(dF hf _).mono ?_;rintro e w1 ⟨rfl,rfl⟩;go_wp2_with fail;simp only[Exit.noGoto]
 go_ret3
 exact⟨⟨0,0,cJ _,rfl⟩,aW⟩
theorem aNd (x:Int)(h₀:0<=x)(h₁:x<2^63):bits .and .i64 x 0=x%1:=bits_mask .i64 63 (by decide) pL 0 (by decide) x h₀ h₁
theorem rI (hf:f<=3)(a:Nat)(ha:wE f a)(w:World):Calls prog 217 #[.int .i64 f,.int .i64 a] w λe w'=>aB0 e/\Below w.heap.size w w':=by
 rcases ha with rfl|⟨h1,h64,hc⟩
 .exact yT hf w
 have hap:¬(a:Int)=0:=by omega
 have haq:¬(a:Int)<0:=by omega
 have hau:(a:Int)<=1000:=by have:=nP hf (.inr ⟨h1,h64,hc⟩);omega
 have hf':f=0\/f=1\/f=2\/f=3:=by omega
 clear hf;rcases hf' with rfl|rfl|rfl|rfl
 .obtain⟨k,hk⟩:∃k,(a-1)/1=k:=⟨_,rfl⟩;obtain⟨p,hp⟩:∃p,(a-1)%1=p:=⟨_,rfl⟩;simp only[Nat.reducePow] at h64 hc;rw[hk] at h64;rw[hk,hp] at hc;have hp8:p<1:=by omega
  have HA:=aA (show bits .and .i64 ((a:Int)-1) 0=(p:Int) by rw[aNd _ (by omega) (by omega)];omega);have HK:=aA (show((a:Int)-1)=(k:Int) by omega);clear hk hp;have hk64:¬64<=(k:Int):=by omega
  go_enter func217,ntmps217;go_wp2_with fail;refine wp_scope_straight ?_;go_wp2_with fail;refine(dF (f:=0) (by omega) _).mono ?_;rintro e w1 ⟨rfl,rfl⟩;go_wp2_with fail;obtain⟨bl2,E2,hne2,sh2,rl,hEx,hbx,hst⟩:=(St.start w1).aW1;refine aZ sh2 (by kernel_rfl) (by kernel_rfl) ?_
  repeat(first|go_big_quiet_step (fail)|quiet_step (fail))
  rw[HA.out,HK.out];refine wpQuiet_nil ?_;intro y;have hb:=(hbx y).out;clear hbx rl hst sh2 hEx HA HK hau hap haq h1;generalize y.W=w4 at*;have h3:0<=k:=cJ _;have h3':0<=(k:Int):=by omega
  clear hc;go_wp2_with fail;obtain⟨bl2,E2,hne2,sh2,rl,hEx,hbx,hst⟩:=(St.start w4).aW1;refine aZ sh2 (by kernel_rfl) (by kernel_rfl) ?_
  repeat(first|go_big_quiet_step (fail)|quiet_step (fail))
  refine wpQuiet_nil ?_;intro y;have hb5:=(hbx y).out;clear hbx rl hst sh2 hEx;generalize y.W=w5 at*;go_wp2_with fail;simp only[Exit.noGoto]
  go_ret3
  refine⟨iJ _ _ ?_ ?_,hb.trans (hb5.mono hb.size)⟩
  .exact(eK _ _).1
  .exact(eK _ _).2
 .obtain⟨k,hk⟩:∃k,(a-1)/2=k:=⟨_,rfl⟩;obtain⟨p,hp⟩:∃p,(a-1)%2=p:=⟨_,rfl⟩;simp only[Nat.reducePow] at h64 hc;rw[hk] at h64;rw[hk,hp] at hc;have hp8:p<2:=by omega
  have HA:=aA (show bits .and .i64 ((a:Int)-1) 1=(p:Int) by rw[sH _ (by omega) (by omega)];omega);have HK:=aA (show((a:Int)-1)/2=(k:Int) by omega);clear hk hp;have hk64:¬64<=(k:Int):=by omega
  go_enter func217,ntmps217;go_wp2_with fail;refine wp_scope_straight ?_;go_wp2_with fail;refine(dF (f:=1) (by omega) _).mono ?_;rintro e w1 ⟨rfl,rfl⟩;go_wp2_with fail;obtain⟨bl2,E2,hne2,sh2,rl,hEx,hbx,hst⟩:=(St.start w1).aW1;refine aZ sh2 (by kernel_rfl) (by kernel_rfl) ?_
  repeat(first|go_big_quiet_step (fail)|quiet_step (fail))
  rw[HA.out,HK.out];refine wpQuiet_nil ?_;intro y;have hb:=(hbx y).out;clear hbx rl hst sh2 hEx HA HK hau hap haq h1;generalize y.W=w4 at*
  by_cases h3:1<=k
  .have h3':1<=(k:Int):=by omega
   clear hc;go_wp2_with fail;obtain⟨bl2,E2,hne2,sh2,rl,hEx,hbx,hst⟩:=(St.start w4).aW1;refine aZ sh2 (by kernel_rfl) (by kernel_rfl) ?_
   repeat(first|go_big_quiet_step (fail)|quiet_step (fail))
   refine wpQuiet_nil ?_;intro y;have hb5:=(hbx y).out;clear hbx rl hst sh2 hEx;generalize y.W=w5 at*;go_wp2_with fail;simp only[Exit.noGoto]
   go_ret3
   refine⟨iJ _ _ ?_ ?_,hb.trans (hb5.mono hb.size)⟩
   .exact(eK _ _).1
   .exact(eK _ _).2
  .have hk':k=0:=by omega
   have hc':=hc.resolve_left h3;clear hc h3;rcases hk' with rfl
   .have hm:bits .and .i64 (p:Int) 1=0:=by rw[sH _ (by omega) (by omega)];simp at hc';omega
    clear hc';go_wp2_with fail;simp only[Exit.noGoto]
    go_ret3
    refine⟨iJ _ _ ?_ ?_,hb⟩
    .exact(eK _ _).1
    .exact(eK _ _).2
 .obtain⟨k,hk⟩:∃k,(a-1)/4=k:=⟨_,rfl⟩;obtain⟨p,hp⟩:∃p,(a-1)%4=p:=⟨_,rfl⟩;simp only[Nat.reducePow] at h64 hc;rw[hk] at h64;rw[hk,hp] at hc;have hp8:p<4:=by omega
  have HA:=aA (show bits .and .i64 ((a:Int)-1) 3=(p:Int) by rw[yD _ (by omega) (by omega)];omega);have HK:=aA (show((a:Int)-1)/4=(k:Int) by omega);clear hk hp;have hk64:¬64<=(k:Int):=by omega
  go_enter func217,ntmps217;go_wp2_with fail;refine wp_scope_straight ?_;go_wp2_with fail;refine(dF (f:=2) (by omega) _).mono ?_;rintro e w1 ⟨rfl,rfl⟩;go_wp2_with fail;obtain⟨bl2,E2,hne2,sh2,rl,hEx,hbx,hst⟩:=(St.start w1).aW1;refine aZ sh2 (by kernel_rfl) (by kernel_rfl) ?_
  repeat(first|go_big_quiet_step (fail)|quiet_step (fail))
  rw[HA.out,HK.out];refine wpQuiet_nil ?_;intro y;have hb:=(hbx y).out;clear hbx rl hst sh2 hEx HA HK hau hap haq h1;generalize y.W=w4 at*
  by_cases h3:2<=k
  .have h3':2<=(k:Int):=by omega
   clear hc;go_wp2_with fail;obtain⟨bl2,E2,hne2,sh2,rl,hEx,hbx,hst⟩:=(St.start w4).aW1;refine aZ sh2 (by kernel_rfl) (by kernel_rfl) ?_
   repeat(first|go_big_quiet_step (fail)|quiet_step (fail))
   refine wpQuiet_nil ?_;intro y;have hb5:=(hbx y).out;clear hbx rl hst sh2 hEx;generalize y.W=w5 at*;go_wp2_with fail;simp only[Exit.noGoto]
   go_ret3
   refine⟨iJ _ _ ?_ ?_,hb.trans (hb5.mono hb.size)⟩
   .exact(eK _ _).1
   .exact(eK _ _).2
  .have hk':k=0\/k=1:=by omega
   have hc':=hc.resolve_left h3;clear hc h3;rcases hk' with rfl|rfl
   .have hm:bits .and .i64 (p:Int) 3=0:=by rw[yD _ (by omega) (by omega)];simp at hc';omega
    clear hc';go_wp2_with fail;simp only[Exit.noGoto]
    go_ret3
    refine⟨iJ _ _ ?_ ?_,hb⟩
    .exact(eK _ _).1
    .exact(eK _ _).2
   .have hm:bits .and .i64 (p:Int) 1=0:=by rw[sH _ (by omega) (by omega)];simp at hc';omega
    clear hc';go_wp2_with fail;simp only[Exit.noGoto]
    go_ret3
    refine⟨iJ _ _ ?_ ?_,hb⟩
    .exact(eK _ _).1
    .exact(eK _ _).2
 .obtain⟨k,hk⟩:∃k,(a-1)/8=k:=⟨_,rfl⟩;obtain⟨p,hp⟩:∃p,(a-1)%8=p:=⟨_,rfl⟩;simp only[Nat.reducePow] at h64 hc;rw[hk] at h64;rw[hk,hp] at hc;have hp8:p<8:=by omega
  have HA:=aA (show bits .and .i64 ((a:Int)-1) 7=(p:Int) by rw[aFt _ (by omega) (by omega)];omega);have HK:=aA (show((a:Int)-1)/8=(k:Int) by omega);clear hk hp;have hk64:¬64<=(k:Int):=by omega
  go_enter func217,ntmps217;go_wp2_with fail;refine wp_scope_straight ?_;go_wp2_with fail;refine(dF (f:=3) (by omega) _).mono ?_;rintro e w1 ⟨rfl,rfl⟩;go_wp2_with fail;obtain⟨bl2,E2,hne2,sh2,rl,hEx,hbx,hst⟩:=(St.start w1).aW1;refine aZ sh2 (by kernel_rfl) (by kernel_rfl) ?_
  repeat(first|go_big_quiet_step (fail)|quiet_step (fail))
  rw[HA.out,HK.out];refine wpQuiet_nil ?_;intro y;have hb:=(hbx y).out;clear hbx rl hst sh2 hEx HA HK hau hap haq h1;generalize y.W=w4 at*
  by_cases h3:3<=k
  .have h3':3<=(k:Int):=by omega
   clear hc;go_wp2_with fail;obtain⟨bl2,E2,hne2,sh2,rl,hEx,hbx,hst⟩:=(St.start w4).aW1;refine aZ sh2 (by kernel_rfl) (by kernel_rfl) ?_
   repeat(first|go_big_quiet_step (fail)|quiet_step (fail))
   refine wpQuiet_nil ?_;intro y;have hb5:=(hbx y).out;clear hbx rl hst sh2 hEx;generalize y.W=w5 at*;go_wp2_with fail;simp only[Exit.noGoto]
   go_ret3
   refine⟨iJ _ _ ?_ ?_,hb.trans (hb5.mono hb.size)⟩
   .exact(eK _ _).1
   .exact(eK _ _).2
  .have hk':k=0\/k=1\/k=2:=by omega
   have hc':=hc.resolve_left h3;clear hc h3;rcases hk' with rfl|rfl|rfl
   .have hm:bits .and .i64 (p:Int) 7=0:=by rw[aFt _ (by omega) (by omega)];simp at hc';omega
    clear hc';go_wp2_with fail;simp only[Exit.noGoto]
    go_ret3
    refine⟨iJ _ _ ?_ ?_,hb⟩
    .exact(eK _ _).1
    .exact(eK _ _).2
   .have hm:bits .and .i64 (p:Int) 3=0:=by rw[yD _ (by omega) (by omega)];simp at hc';omega
    clear hc';go_wp2_with fail;simp only[Exit.noGoto]
    go_ret3
    refine⟨iJ _ _ ?_ ?_,hb⟩
    .exact(eK _ _).1
    .exact(eK _ _).2
   .have hm:bits .and .i64 (p:Int) 1=0:=by rw[sH _ (by omega) (by omega)];simp at hc';omega
    clear hc';go_wp2_with fail;simp only[Exit.noGoto]
    go_ret3
    refine⟨iJ _ _ ?_ ?_,hb⟩
    .exact(eK _ _).1
    .exact(eK _ _).2
end
section
variable {l:List (Nat×Nat)}
def iS (x:Nat×Nat):List Value:=[.int .i64 (x.1:Nat),.int .u64 (x.2:Nat)]
theorem fW (x:Nat×Nat):(iS x).length=2:=rfl
theorem aE1 (x:Nat×Nat):∀v∈iS x,v.oneCell'=true:=by intro v hv;simp[iS] at hv;rcases hv with rfl|rfl<;>rfl
abbrev pY (f:Nat)(s:Option Addr)(n cap:Nat):Value:=.agg #[.int .i64 f,.slice s n cap]
def iR (f:Nat)(l:List (Nat×Nat)):Prop:=jD l/\nJ l/\∀x∈l,wE f x.1
theorem qS {W:World}{s:Option Addr}(h:Rd 2 iS W s l){i:Nat}{x:Nat×Nat}(hx:l[i]? =some x):∃g o,s=some ⟨g,o,none⟩/\g<W.heap.size/\W.cell? ⟨g,o+i*2,none⟩=some (.int .i64 (x.1:Nat))/\W.cell? ⟨g,o+i*2+1,none⟩=some (.int .u64 (x.2:Nat)):=by
 obtain⟨g,o,e,hg,hc⟩:=h i x hx;exact⟨g,o,e,hg,hc 0 _ rfl,hc 1 _ rfl⟩
def aTd (l:List (Nat×Nat)):Nat->Int
 |0=> -1
 |k+1=>((l.getD k (0,0)).1:Nat)
theorem aR3 (h:jD l){k:Nat}{x:Nat×Nat}(hx:l[k]? =some x):aTd l k<(x.1:Int):=by
 cases k with
 |zero=>show(-1:Int)<_;omega
 |succ k=>
  obtain⟨hk,e⟩:=gJ.1 hx;have:=List.pairwise_iff_getElem.1 h k (k+1) (by omega) hk (by omega);rw[e] at this;show(((l.getD k (0,0)).1:Nat):Int)<_;have e2:l.getD k (0,0)=l[k]:=by simp[List.getD,cZ (show k<l.length by omega)]
  rw[e2];omega
theorem aLh {k:Nat}{x:Nat×Nat}(hx:l[k]? =some x):aTd l (k+1)=(x.1:Nat):=by
 show(((l.getD k (0,0)).1:Nat):Int)=_;simp[List.getD,hx]
theorem iL {f:Nat}(hf:f<=3)(l:List (Nat×Nat))(hl:iR f l)(s:Option Addr)(cap:Nat)(hlen:l.length<=1000000)(hcap:l.length<=cap)(w:World)(hL:Rd 2 iS w s l):
  Calls prog 177 #[pY f s l.length cap] w λe w'=>e=.returned (.bool true)/\Below w.heap.size w w':=by
 have st:=(St.start w).alloc (cs:= #[.int .i64 f,.slice s l.length cap]) (T:=101);have rl:=st.rs;go_enter func177,ntmps177;go_wp2_with fail;refine(dF hf _).mono ?_;rintro e w1 ⟨rfl,rfl⟩;go_wp2_with fail
 go_loopw [3,16] (λbf i wr=>∃k:Nat,k<=l.length/\i=.int .i64 k/\(∃z:Int,z=aTd l k/\bf=.int .i64 z)/\St w [(w.heap.size,#[.int .i64 f,.slice s l.length cap],101)] (λ_=>True) wr) (λ_ i _=>l.length-(intOf i).toNat)
 case atStart=>exact⟨0,cJ _,rfl,⟨_,rfl,rfl⟩,st⟩
 case round=>
  clear rl st;obtain⟨k,hk,rfl,⟨z,hz,rfl⟩,st⟩:=hrel;have rl:=st.rl
  by_cases hlt:k<l.length
  .obtain⟨x,hx⟩:∃x,l[k]? =some x:=⟨_,cZ hlt⟩;obtain⟨g,o,rfl,hg,hc1,hc2⟩:=qS (hL.aWu aH st.below) hx;have hgb:=hl.2.2 x (bK hx);have hpos:=(hl.2.1 x (bK hx)).1;have hbf:=aR3 hl.1 hx;have HN:=aA (aLh hx);obtain⟨xa,xn⟩:=x;simp only at hc1 hc2 hgb hpos hbf HN;rw[<-hz] at hbf;have hn0:¬((xn:Int)=0):=by omega
   have hle:¬((xa:Int)<=z):=by omega
   have HB:=aA (λW=>rI hf xa hgb W);have stb:=st.alloc (cs:= #[.int .i64 (xa:Nat),.int .u64 (xn:Nat)]) (T:=277);clear hx hz hgb hpos hbf;go_wp2_with fail;refine(HB.out _).mono ?_;rintro e w2 ⟨⟨y1,y2,-,rfl⟩,hb2⟩;have st2:=stb.to hb2;have rl:=st2.rl;clear stb hb2 st hc1 hc2 HB;go_wp2_with fail
   .rename_i hor;exfalso;rcases hor with hor|hor
    .rw[beq_iff_eq] at hor;omega
    .omega
   .refine⟨⟨k+1,hlt,by go_num,⟨_,HN.out.symm,rfl⟩,st2.less _ (List.sublist_cons_self _ _)⟩,?_⟩;simp[intOf];omega
  .obtain rfl:k=l.length:=by omega
   go_wp2_with fail;go_ret;exact⟨rfl,st.below⟩
end
section
variable {l:List (Nat×Nat)} {b f n:Nat} {W:World}
theorem wL :Maps.Keyed prog 3:=Maps.int_keyed underlying3
theorem aRs :prog.underlying 478=some (.map 3 22):=underlying478
theorem aUo (w:World):(zeroValue 22).run prog w=.ok (.int .u64 0) w:=by kernel_rfl
abbrev dE (W:World)(b n:Nat)(l:List (Nat×Nat)):Prop:=W.ownsMap prog 3 (plainElem prog 22) b n (dM l)
abbrev aAz (f b:Nat):Value:=.agg #[.map (some b),.int .i64 f]
def aOg (B:Nat)(cs:Array Value):Value->World->Prop:=λv W=>∃A,v=.slice (some ⟨A,0,none⟩) 2 2/\B<=A/\W.heap[A]? =some (.cells cs 22 (0,0))
theorem aKh (B:Nat)(cs:Array Value):bO (aOg B cs):=λ_ _ _ ⟨b,h1,h2,h3⟩ hb=>⟨b,h1,h2,(hb.block b (aC h3)).trans h3⟩
theorem aRz (h:∀x∈l,x.2<=aJ)(a:Nat):mP a l<=aJ:=by
 induction l with
 |nil=>exact cJ _
 |cons x l ih=>
  unfold mP;split
  .exact h x (by simp)
  .exact ih (λy hy=>h y (by simp[hy]))
theorem aEa (h:dE W b n l)(a:Nat)(ha:a<=1000):(Instr.lookup 478 (.map (some b)) (.int .i64 a) false).run prog W=.ok (.int .u64 (mP a l:Nat)) W:=by
 obtain⟨c,hrun,hat,_⟩:=h.lookup_int wL aRs underlying22 (aUo _) (key:=.int .i64 a) (kl:=.int .i64 a) (Maps.keyOf_int_mk underlying3 (WalkArith.wf_i64 (by omega)));rw[aSs] at hat
 simp only[DataW.lit.injEq,Lit.int.injEq,true_and] at hat
 rw[hrun,<-hat]
theorem pG (hf:f<=3)(b m:Nat)(l:List (Nat×Nat))(hl:jD l)(hm:∀x∈l,x.2<=aJ)(q n:Nat)(ha:q<=1000)(hn:n<=aJ)(hmx:m<=1000000)(w:World)(hc:dE w b m l):
  Calls prog 327 #[aAz f b,.int .i64 q,.int .u64 n] w λe w'=>e=.returned (.tuple #[])/\dE w' b (m+1) (sG q n l)/\w.grownBy w' (some b):=by
 have st:=(St.start w).alloc (cs:= #[.map (some b),.int .i64 f]) (T:=480);have hbz:=hc.lt;have HOLD:=aA (aRz hm q);have HPUT:=aA (aS8 hl q (jF (mP q l) n));have HLK:=aA (λW (hW:Below w.heap.size w W)=>aEa (hc.kept (aU hW none) (by simp)) q ha);obtain⟨old,hold⟩:∃old,mP q l=old:=⟨_,rfl⟩;have HH:Hid (sG q n l=mT q (jF old n) l):=by show _=_;unfold sG;rw[hold]
 rw[hold] at HOLD HPUT HLK;have HTG:=aA (λA W hA=>pV A old n HOLD.out hn W hA);obtain⟨nw,hnw⟩:∃nw,jF old n=nw:=⟨_,rfl⟩;have HNW:=aA (show nw<=aJ by rw[<-hnw];exact lB _ _);rw[hnw] at HPUT HH HTG;clear hold hnw hm hn;go_enter func327,ntmps327;go_wp2_with fail;refine rS st 10 [.val (pv w.heap.size 0),.val (.map (some b)),.val (.int .i64 q),.val (pv w.heap.size 0),.val (.map (some b)),.val (.int .i64 q),.val (.int .u64 old),.val (.int .u64 n),.fct (aOg w.heap.size #[.int .u64 old,.int .u64 n]) (aKh _ _),.val (.int .u64 nw)] ?spec ?endd
 case spec=>
  refine⟨?_,?_,?_,?_,?_,?_,?_,?_,?_,?_,trivial⟩
  all_goals(intro ρ W kc kf hW sW rl hu hd;simp only[aI,World.size_alloc] at rl)
  have u3:ρ (.tmp 3)=pv w.heap.size 0:=cR hu 3;rotate_left;have u6:ρ (.tmp 6)=_:=aK hd 0 6;rotate_left;have u1:ρ (.tmp 1)=.int .i64 q:=cR hu 1;rotate_left;have u3:ρ (.tmp 3)=pv w.heap.size 0:=cR hu 3;rotate_left;have u9:ρ (.tmp 9)=_:=aK hd 3 9;rotate_left;have u1:ρ (.tmp 1)=.int .i64 q:=cR hu 1;rotate_left;have u10:ρ (.tmp 10)=_:=aK hd 4 10;have u11:ρ (.tmp 11)=_:=aK hd 5 11;have hlk:=HLK.out W (sW.below);rotate_left;have u2:ρ (.tmp 2)=.int .u64 n:=cR hu 2;rotate_left
  .have u12:ρ (.tmp 12)=_:=aK hd 6 12;have u13:ρ (.tmp 13)=_:=aK hd 7 13;refine aF rfl ?_;go_simp;exact⟨aW.alloc aH _,W.heap.size,rfl,sW.below.size,kH _ _⟩
  .obtain⟨A,u14,hA,hN⟩:aOg w.heap.size #[.int .u64 old,.int .u64 n] (ρ (.tmp 14)) W:=aK hd 8 14;refine aF rfl ?_;go_simp;refine⟨aW,(HTG.out A W hN).mono ?_⟩;rintro e w' ⟨rfl,rfl⟩;exact⟨_,rfl,aW,rfl⟩
  all_goals(refine aF rfl ?_;go_simp;exact aG rfl)
 case endd=>
  rintro v W hW sW rl ⟨hf8,-⟩;clear rl;have hownW:dE W b m l:=hc.kept (aU sW.below none) (by simp);have hgw:w.grownBy W (some b):=aU sW.below _;have hwl:(Lit.int .u64 nw).wf=true:=WalkArith.wf_u64 (by have:nw<=18446744073709551615:=HNW.out;omega);clear hf8 hW sW st hc HLK HTG HOLD HNW;refine wpList_mapUpdate_own W rfl _ _ _ 478 rfl 3 22 wL aRs _ b m _ (by simp[Act.eval,Act.put]) hownW (by unfold maxLen;omega) (.int .i64 q) (.int .u64 nw) _ (by simp[Act.eval,Act.put]) (by simp[Act.eval,Act.put]) (Maps.keyOf_int_mk underlying3 (WalkArith.wf_i64 (by omega))) (.lit (.int .u64 nw)) [] (plainElem_int underlying22 hwl) ?_;intro w1 hown1 hgrow1;go_wp2_with fail;go_end0;refine⟨rfl,?_,hgw.andThen hgrow1 (λj hj=>.inr hj)⟩;show w1.ownsMap _ _ _ _ _ (dM (sG q n l));rw[HH.out,<-HPUT.out];exact hown1
theorem dE.set (h:dE W b n l){g:Nat}(hg:b≠g)(o:Nat)(v:Value):dE (W.setCell ⟨g,o,none⟩ v) b n l:=by
 obtain⟨es,clock,hb,F,hs,hD⟩:=h;exact⟨es,clock,(Below.heap_setCell W ⟨g,o,none⟩ v b hg).trans hb,F,hs,hD⟩
theorem dE.below {W':World}(h:dE W b n l)(hb:Below W.heap.size W W'):dE W' b n l:=h.kept (aU hb none) (by simp)
theorem uX (hf:f<=3)(w:World):Calls prog 331 #[.int .i64 f] w λe w'=>∃b,e=.returned (.tuple #[aAz f b,.nilIface])/\w.heap.size<=b/\dE w' b 0 []/\Below w.heap.size w w':=by
 have hmm:= @run_makeMap prog;have st:=(St.start w).alloc (cs:= #[.map none,.int .i64 0]) (T:=480);go_enter func331,ntmps331;go_wp2_with fail;refine(dF hf _).mono ?_;rintro e w1 ⟨rfl,rfl⟩;go_wp2_with fail;have hb2:=((Below.refl w.heap.size w).alloc aH (.cells #[.map (some (w.heap.size+1)),.int .i64 f] 480)).alloc (by simp) (.map #[] 0);have hmk:=World.ownsMap_made (w.alloc (.cells #[.map (some (w.heap.size+1)),.int .i64 f] 480)) prog 3 (plainElem (H:=Unit) prog 22);rw[World.size_alloc] at hmk;exact bodyPost_ret (v:=.tuple #[aAz f (w.heap.size+1),.nilIface]) (by simp[results,results331,go_sem]) rfl ⟨_,rfl,Nat.le_succ _,hmk,hb2⟩
theorem St.aW6 {w0:World}{bl:List cH}{w w':World}{k:Nat}(h:St w0 bl (λ_=>True) w)(hg:w.grownBy w' (some k))(h0:w0.heap.size<=k)(hr:∀x∈bl,x.1≠k):St w0 bl (λ_=>True) w':=
 ⟨h.below.grown hg h.below.size (λj hj=>by cases hj;exact h0),λx hx=>(hg.block _ (aC (h.blk x hx)) (λe=>by cases e;exact hr x hx rfl)).trans (h.blk x hx),h.nd,trivial,λ_ _ _ _=>trivial⟩
theorem dE.ne (h:dE W b n l){g:Nat}{cs:Array Value}{T:TypeId}(hg:W.heap[g]? =some (.cells cs T (0,0))):g≠b:=by
 rintro rfl;obtain⟨es,clock,hb,_⟩:=h;rw[hb] at hg;cases hg
theorem dE.aXd {w0:World}{bl:List cH}{E:World->Prop}(h:dE W b n l)(st:St w0 bl E W):∀x∈bl,x.1≠b:=λx hx=>h.ne (st.blk x hx)
theorem aAm (a:Nat):∀l:List (Nat×Nat),(∀x∈l,x.1<a)->mP a l=0
 |[],_=>rfl
 |x::l,h=>by
  unfold mP;have:=h x (by simp);rw[if_neg (by omega),aAm a l (λy hy=>h y (by simp[hy]))]
theorem aAu (a n:Nat):∀l:List (Nat×Nat),(∀x∈l,x.1<a)->mT a n l=l++[(a,n)]
 |[],_=>rfl
 |x::l,h=>by
  unfold mT;have:=h x (by simp);rw[if_neg (by omega),if_neg (by omega),aAu a n l (λy hy=>h y (by simp[hy]))];rfl
theorem aMd (h:jD l)(hp:nJ l){k:Nat}{x:Nat×Nat}(hx:l[k]? =some x):sG x.1 x.2 (l.take k)=l.take (k+1):=by
 obtain⟨hk,e⟩:=gJ.1 hx;have hlow:∀y∈l.take k,y.1<x.1:=by
  intro y hy;obtain⟨j,hj,ej⟩:=List.mem_take_iff_getElem.1 hy;have:=List.pairwise_iff_getElem.1 h j k (by omega) hk (by omega);rw[ej,e] at this;exact this
 have hm:=(hp x (bK hx)).2;unfold sG;rw[aAm _ _ hlow,aAu _ _ _ hlow,List.take_add_one,hx];have e0:jF 0 x.2=x.2:=by unfold jF;omega
 rw[e0];rfl
theorem uW (hf:f<=3)(l:List (Nat×Nat))(hl:iR f l)(s:Option Addr)(cap:Nat)(hlen:l.length<=1000000)(hcap:l.length<=cap)(hsm:∀x∈l,x.1<=1000)(w:World)(hL:Rd 2 iS w s l):
  Calls prog 325 #[pY f s l.length cap] w λe w'=>∃b,e=.returned (.tuple #[aAz f b,.nilIface])/\w.heap.size<=b/\dE w' b l.length l/\Below w.heap.size w w':=by
 have st0:=((St.start w).alloc (cs:= #[.int .i64 f,.slice s l.length cap]) (T:=101)).alloc (cs:= #[.map none,.int .i64 0]) (T:=480);simp only[World.size_alloc] at st0;have HR:=aA (λW hW=>iL hf l hl s cap hlen hcap W hW);go_enter func325,ntmps325;go_wp2_with fail;refine(HR.out _ (hL.aWu aH st0.below)).mono ?_;rintro e w1 ⟨rfl,hb1⟩;have st1:=st0.to hb1;have rl:=st1.rl;clear st0 hb1;go_wp2_with fail;refine(uX hf _).mono ?_;rintro e w2 ⟨b,rfl,hB,hM,hb2⟩;have hwb:w.heap.size<=b:=dR st1.below.size hB;have st2:=(st1.to hb2).alloc (cs:= #[.map (some b),.int .i64 f]) (T:=480);have hM2:=hM.alloc (.cells #[.map (some b),.int .i64 f] 480);have rl:=st2.rs;clear st1 hb2 hM HR;go_wp2_with fail
 go_loopw [23] (λi wr=>∃k:Nat,k<=l.length/\i=.int .i64 k/\dE wr b k (l.take k)/\St w [(w2.heap.size,#[.map (some b),.int .i64 f],480),(w.heap.size+1,#[.map none,.int .i64 0],480),(w.heap.size,#[.int .i64 f,.slice s l.length cap],101)] (λ_=>True) wr) (λi _=>l.length-(intOf i).toNat)
 case atStart=>exact⟨0,cJ _,rfl,hM2,st2⟩
 case round=>
  clear rl st2 hM2;obtain⟨k,hk,rfl,hMk,st⟩:=hrel;have rl:=st.rl
  by_cases hlt:k<l.length
  .obtain⟨x,hx⟩:∃x,l[k]? =some x:=⟨_,cZ hlt⟩;obtain⟨g,o,rfl,hg,hc1,hc2⟩:=qS (hL.aWu aH st.below) hx;have HT:=aA (aMd hl.1 hl.2.1 hx);have hx1:=hsm x (bK hx);have hx2:=(hl.2.1 x (bK hx)).2;obtain⟨xa,xn⟩:=x;simp only at hc1 hc2 HT hx1 hx2;have HP:=aA (λW hW=>pG hf b k (l.take k) (hl.1.sublist (List.take_sublist _ _)) (λy hy=>(hl.2.1 y (List.mem_of_mem_take hy)).2) xa xn hx1 hx2 (by omega) W hW);have stb:=st.alloc (cs:= #[.int .i64 (xa:Nat),.int .u64 (xn:Nat)]) (T:=277);have hMb:=hMk.alloc (.cells #[.int .i64 (xa:Nat),.int .u64 (xn:Nat)] 277);clear hx hx2 hMk;go_wp2_with fail;refine(HP.out _ hMb).mono ?_;rintro e w3 ⟨rfl,hM3,hg3⟩;have st3:=stb.aW6 hg3 hwb (dE.aXd hMb stb);rw[HT.out] at hM3;clear stb hMb st hc1 hc2 HP HT;go_wp2_with fail;go_roundw
   case rel=>exact⟨k+1,hlt,by go_num,hM3,st3.less _ (List.sublist_cons_self _ _)⟩
   case measure=>simp[intOf];omega
  .obtain rfl:k=l.length:=by omega
   rw[List.take_length] at hMk;have hne:w.heap.size+1≠b:=dE.ne hMk (st.blk (w.heap.size+1,#[.map none,.int .i64 0],480) (by simp));have st4:=((st.aW5 1 rfl (o:=0) (v:=.map (some b)) (by omega)).aW5 1 rfl (o:=1) (v:=.int .i64 f) (by omega));have hM4:=dE.set (dE.set hMk hne.symm 0 (.map (some b))) hne.symm 1 (.int .i64 f);simp only[jP,List.modify_succ_cons,List.modify_zero_cons,List.setIfInBounds_toArray,List.set_cons_zero,List.set_cons_succ] at st4;go_wp2_with fail;exact bodyPost_ret (v:=.tuple #[aAz f b,.nilIface]) (by simp[results,results325,go_sem,rl]) rfl ⟨b,rfl,hwb,hM4,st4.below⟩
end
end Go.Proofs.YtmgdbfmlnmahpaaGreatDoor
