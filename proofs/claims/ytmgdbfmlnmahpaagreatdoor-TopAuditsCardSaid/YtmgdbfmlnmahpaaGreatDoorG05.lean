/- Part of TopAudits. -/
import Derived.Test.YtmgdbfmlnmahpaaGreatDoorChecked
import Derived.Test.YtmgdbfmlnmahpaaGreatDoorG03
import Derived.Test.YtmgdbfmlnmahpaaGreatDoorG04
import Derived.LoopTactic
import Derived.WalkKit
import Derived.Shelf.Abstract
namespace Go.Proofs.YtmgdbfmlnmahpaaGreatDoor
set_option linter.unusedSimpArgs false
set_option linter.unusedVariables false
set_option maxRecDepth 100000
set_option maxHeartbeats 4000000
open Go.Proofs.Tryz
open Go.RowKit
def cM (n:Nat):List Value:=[.int .u64 n]
theorem aY (n:Nat):(cM n).length=1:=rfl
theorem fF (n:Nat):∀v∈cM n,v.oneCell'=true:=by intro v hv;simp[cM] at hv;subst hv;rfl
abbrev dH (W:World)(s:Option Addr)(L:List Nat):Prop:=Rd 1 cM W s L
theorem oK :eM prog 41 22 1 8:=eM.mk (z:=.int .u64 0) underlying41 (by kernel_rfl) rfl (by decide)
theorem dH.at {W:World}{s:Option Addr}{L:List Nat}(h:dH W s L){i x:Nat}(hx:L[i]? =some x):∃g o,s=some ⟨g,o,none⟩/\g<W.heap.size/\W.cell? ⟨g,o+i,none⟩=some (.int .u64 x):=by
 obtain⟨g,o,e,hg,hc⟩:=h i x hx;refine⟨g,o,e,hg,?_⟩;have:=hc 0 (.int .u64 x) rfl;rwa[Nat.mul_one,Nat.add_zero] at this
theorem aFk (w:World)(n:Nat):Below w.heap.size w (w.drewN n):=⟨rfl,rfl,rfl,aH,λ_ _=>rfl⟩
theorem aRb {i j:Nat}(h:i<j):i<=(i+j)/2/\(i+j)/2<j:=by omega
set_option maxRecDepth 100000 in
theorem aIp (n:Nat)(hn:n<=1000000)(g:Nat)(cb:Array Value)(p:Nat->Bool)(w:World)(eg:∀args w,(callFunc g args).run prog w=.ok (.enter g args) w)
  (hf:∀W,Below w.heap.size w W->∀i:Nat,i<n->Calls prog g (#[.int .i64 i]++cb) W λe W'=>e=.returned (.bool (p i))/\Below W.heap.size W W')
  (m:Nat) (hm:m<=n) (h0:∀i,i<m->p i=false) (h1:∀i,m<=i->i<n->p i=true):
  Calls prog 284 #[.int .i64 n,.func (.func g) #[] cb] w λe w'=>e=.returned (.int .i64 m)/\Below w.heap.size w w':=by
 have HF:=aA hf;have H0:=aA h0;have H1:=aA h1;clear hf h0 h1;go_enter func284,ntmps284;go_wp2_with fail
 go_loopw [5,6] (λvi vj wr=>∃i j:Nat,vi=.int .i64 i/\vj=.int .i64 j/\i<=m/\m<=j/\j<=n/\Below w.heap.size w wr) (λvi vj _=>(intOf vj).toNat-(intOf vi).toNat)
 case atStart=>exact⟨0,n,rfl,rfl,cJ _,hm,aH,aW⟩
 case round=>
  obtain⟨i,j,rfl,rfl,hi,hj,hjn,hb⟩:=hrel
  by_cases hij:i<j
  .obtain⟨h2,h3⟩:=aRb hij;obtain⟨h,hh,h4,h5⟩:∃h:Nat,((i:Int)+(j:Int))/2=(h:Int)/\i<=h/\h<j:=⟨(i+j)/2,by omega,h2,h3⟩;have HH:=aA hh;clear h2 h3 hh;go_wp2_with fail;rw[HH.out];refine(HF.out wr hb h (by omega)).mono ?_;rintro e w1 ⟨rfl,hb1⟩;have hb2:=hb.trans (hb1.mono hb.size);cases hp:p h with
   |false=>
    have hm2:h+1<=m:=by
     rcases Nat.lt_or_ge h m with c|c
     .exact c
     .have:=H1.out h c (by omega);rw[hp] at this;cases this
    clear hp hb hb1;go_wp2_with fail;go_roundw
    case rel=>exact⟨h+1,j,by go_num,rfl,hm2,hj,hjn,hb2⟩
    case measure=>simp[intOf];omega
   |true=>
    have hm2:m<=h:=by
     rcases Nat.lt_or_ge h m with c|c
     .have:=H0.out h c;rw[hp] at this;cases this
     .exact c
    clear hp hb hb1;go_wp2_with fail;go_roundw
    case rel=>exact⟨i,h,rfl,rfl,hi,hm2,by omega,hb2⟩
    case measure=>simp[intOf];omega
  .obtain rfl:j=m:=by omega
   obtain rfl:i=j:=by omega
   clear hj hij hi;go_wp2_with fail;go_ret;exact⟨rfl,hb⟩
theorem aGj (L:List Nat)(s:Option Addr)(cap n i:Nat)(hi:i<L.length)(hlen:L.length<=1000000)(hcap:L.length<=cap)(Bl Bn:Nat)(w:World)(hL:dH w s L)
  (hcl:w.cell? ⟨Bl,0,none⟩=some (.slice s L.length cap)) (hcn:w.cell? ⟨Bn,0,none⟩=some (.int .u64 n)):
  Calls prog 285 (#[.int .i64 i]++ #[pv Bl 0,pv Bn 0]) w λe w'=>e=.returned (.bool (!decide (L.getD i 0<n)))/\Below w.heap.size w w':=by
 obtain⟨x,hx⟩:∃x,L[i]? =some x:=⟨_,cZ hi⟩;obtain⟨g,o,rfl,hg,hc⟩:=hL.at hx;have e0:(!decide (L.getD i 0<n))=decide (n<=x):=by
  simp only[List.getD,hx,Option.getD_some];rw[<-decide_not];exact decide_eq_decide.2 (by omega)
 rw[e0];clear e0 hx;show Calls prog 285 #[.int .i64 i,pv Bl 0,pv Bn 0] w _;go_enter func285,ntmps285;go_wp2_with fail;go_quiet(fail);go_wp2_with fail;go_ret;exact⟨rfl,aFk _ _⟩
theorem aKo (L:List Nat)(ha:yM L)(s:Option Addr)(cap n:Nat)(hlen:L.length<=1000000)(hcap:L.length<=cap)(w:World)(hL:dH w s L):
  Calls prog 280 #[.slice s L.length cap,.int .u64 n] w λe w'=>e=.returned (.int .i64 (fG L n:Int))/\Below w.heap.size w w':=by
 have st:=((St.start w).alloc (cs:= #[.slice s L.length cap]) (T:=41)).alloc (cs:= #[.int .u64 n]) (T:=22);simp only[World.size_alloc] at st;have hle:=aD2 L n;have hs0:∀i,i<fG L n->(!decide (L.getD i 0<n))=false:=by
  intro i hi;obtain⟨x,hx⟩:∃x,L[i]? =some x:=⟨_,cZ (by omega)⟩;have:=(qO n L ha i x hx).1 hi;simp[List.getD,hx,this]
 have hs1:∀i,fG L n<=i->i<L.length->(!decide (L.getD i 0<n))=true:=by
  intro i h1 h2;obtain⟨x,hx⟩:∃x,L[i]? =some x:=⟨_,cZ h2⟩;have:=qO n L ha i x hx;simp[List.getD,hx];omega
 have HS:=aA (aIp L.length hlen 285 #[pv w.heap.size 0,pv (w.heap.size+1) 0] (λi=> !decide (L.getD i 0<n)) ((w.alloc (.cells #[.slice s L.length cap] 41)).alloc (.cells #[.int .u64 n] 22))
  (enters_of func285 (by kernel_rfl) rfl)
  (λW hb i hi=>aGj L s cap n i hi hlen hcap w.heap.size (w.heap.size+1) W (hL.aWu aH (st.to hb).below) ((st.to hb).rules.2.2.2.1 0) ((st.to hb).rules.1 0))
  (fG L n) hle hs0 hs1)
 have hbw:=st.below;clear hs0 hs1 st hle;go_enter func280,ntmps280;go_wp2_with fail;refine HS.out.mono ?_;rintro e w1 ⟨rfl,hb1⟩;have hb:=hbw.trans (hb1.mono hbw.size);go_wp2_with fail;go_ret;exact⟨rfl,hb⟩
theorem aPf (L:List Nat)(s:Option Addr)(cap at' n:Nat)(hat:at'<=L.length)(hlen:L.length<=1000000)(hcap:L.length<=cap)(w:World)(hL:dH w s L)(r:Bool)(hr:r=true↔L[at']? =some n):
  Calls prog 281 #[.slice s L.length cap,.int .i64 at',.int .u64 n] w λe w'=>e=.returned (.bool r)/\w'=w:=by
 by_cases h1:at'<L.length
 .obtain⟨x,hx⟩:∃x,L[at']? =some x:=⟨_,cZ h1⟩;obtain⟨g,o,rfl,hg,hc⟩:=hL.at hx
  by_cases hxn:x=n
  .obtain rfl:r=true:=hr.2 (by rw[hx,hxn]);subst hxn;clear hr hx hL hat
   go_enter func281,ntmps281;go_wp2_with fail;go_ret;exact⟨rfl,rfl⟩
  .obtain rfl:r=false:=by
    rw[<-Bool.not_eq_true,hr,hx];intro e;exact hxn (oSi e)
   have hb:((x:Int)==(n:Int))=false:=by rw[beq_eq_false_iff_ne];omega
   clear hr hx hL hat hxn;go_enter func281,ntmps281;go_wp2_with fail;go_ret;exact⟨rfl,rfl⟩
 .obtain rfl:at'=L.length:=by omega
  obtain rfl:r=false:=by
   rw[<-Bool.not_eq_true,hr,List.getElem?_eq_none aH];intro e;cases e
  clear hr hL hat
  go_enter func281,ntmps281;go_wp2_with fail;go_ret;exact⟨rfl,rfl⟩
def aTv (w:World)(s0:Option Addr)(L:List Nat)(e:Ending)(w':World):Prop:=
 ∃s cap,e=.returned (.slice s L.length cap)/\L.length<=cap/\cap<=9223372036854775807/\(s=none->cap=0)/\aTc w.heap.size s0 s/\dH w' s L/\Below w.heap.size w w'
theorem aP1 (L:List Nat)(ha:yM L)(s:Option Addr)(cap n:Nat)(hlen:L.length<=100000)(hcap:L.length<=cap)(hcm:cap<=9223372036854775807)(hn:s=none->cap=0)(hpl:dJ s)(w:World)(hL:dH w s L):
  Calls prog 275 #[.slice s L.length cap,.int .u64 n] w (aTv w s (gT n L)):=by
 have hle:=aD2 L n;have HP:=aA (aKo L ha s cap n (by omega) hcap w hL);have HI:=aA (λW r h=>aPf L s cap (fG L n) n hle (by omega) hcap W h r)
 by_cases c:L[fG L n]? =some n
 .have e0:gT n L=L:=by rw[aHd n L ha,if_pos c]
  rw[e0];have HC:=aA c;clear e0 c;generalize fG L n=at' at*;go_enter func275,ntmps275;go_wp2_with fail;refine HP.out.mono ?_;rintro e w1 ⟨rfl,hb1⟩;have hL1:=hL.keep _ _ hb1;clear HP;go_wp2_with fail;refine(HI.out w1 true hL1 (by simp[HC.out])).mono ?_;rintro e w2 ⟨rfl,rfl⟩;clear HI HC;go_wp2_with fail;go_ret;exact⟨s,cap,rfl,hcap,hcm,hn,⟨hpl,.inl rfl⟩,hL1,hb1⟩
 .have e0:gT n L=L.take (fG L n)++[n]++L.drop (fG L n):=by rw[aHd n L ha,if_neg c];simp
  have HE:=aA e0;have HC:=aA c;clear e0 c;generalize fG L n=at' at*;go_enter func275,ntmps275;go_wp2_with fail;refine HP.out.mono ?_;rintro e w1 ⟨rfl,hb1⟩;have hL1:=hL.keep _ _ hb1;clear HP;go_wp2_with fail;refine(HI.out w1 false hL1 (by simp;exact HC.out)).mono ?_;rintro e w2 ⟨rfl,rfl⟩;clear HI HC;have HTA:=aA (show at'=(L.take at').length by rw[List.length_take];omega);have HTD:=aA (show L.length-at'=(L.drop at').length from List.length_drop.symm);have htl:(L.take at').length+1<=1000000:=by rw[List.length_take];omega
  have htl2:(L.take at'++[n]).length+(L.drop at').length<=1000000:=by rw[List.length_append,List.length_take,List.length_drop,List.length_singleton];omega
  cases s with
  |none=>
   obtain rfl:=kV hL1;obtain rfl:=hn rfl;obtain rfl:at'=0:=by simpa using hle
   go_wp2_with(first|(at_builtin;refine kS oK aY fF rfl (.tmp 18) (.tmp 20) rfl none ([]:List Nat) 0 rfl n rfl (λ_=>rfl) (St.start w2) (Rd.nil _ _) _ rfl w2.heap.size rfl rfl htl (by decide) ?_;intro v3 w3 ap3)|(at_builtin;refine cY oK aY fF rfl (.tmp 22) (.tmp 25) rfl w2.heap.size v3 ([]++[n]:List Nat) rfl ap3.st ap3.own aH (by simp) ap3.size ([]:List Nat) 0 rfl none 0 rfl (λ_=>rfl) (Rd.nil _ _) htl2 (by decide) ?_;intro v4 w4 ap4));change aLr _ _ _ _ _ _ _ (gT n []) _ _ at ap4;have hown4:=ap4.own;obtain⟨s4,c4,rfl,h4a,h4b,h4c,h4d,h4e⟩:=hown4.form aY;have hfr:=hown4.aXq;clear hown4;have hb4:=hb1.trans (ap4.st.below.mono hb1.size);clear ap3 ap4 HE hL1 hL;go_wp2_with fail;go_ret;exact⟨s4,c4,rfl,h4a,h4b,h4d,⟨h4e,.inr λg o e=>dR hb1.size (hfr g o e)⟩,h4c,hb4⟩
  |some ad=>
   obtain⟨g,o,rfl⟩:=hpl ad rfl
   by_cases hcc:cap=at'
   .have HDN:=aA (show L.drop at'=[] from List.drop_of_length_le (by omega));obtain rfl:at'=cap:=hcc.symm;have HLN:=aA (show L.length=at' by omega);clear hcc;go_wp2_with(first|(at_builtin;refine kS oK aY fF rfl (.tmp 18) (.tmp 20) rfl (some ⟨g,o,none⟩) (L.take at') at' HTA.out n rfl (λh=>by cases h) (St.start w2) (hL1.take at') _ rfl w2.heap.size rfl rfl htl (by decide) ?_;intro v3 w3 ap3)|(at_builtin;refine cY oK aY fF rfl (.tmp 22) (.tmp 25) rfl w2.heap.size v3 (L.take at'++[n]) rfl ap3.st ap3.own aH (by simp) ap3.size (L.drop at') 0 (by rw[HDN.out];rfl) (some ⟨g,o,none⟩) 0 rfl (λh=>by cases h) (by rw[HDN.out];exact Rd.nil _ _) htl2 (by decide) ?_;intro v4 w4 ap4));rw[<-HE.out] at ap4;have hown4:=ap4.own;obtain⟨s4,c4,rfl,h4a,h4b,h4c,h4d,h4e⟩:=hown4.form aY;have hfr:=hown4.aXq;clear hown4;have hb4:=hb1.trans (ap4.st.below.mono hb1.size);clear ap3 ap4 HE hL1 hL;go_wp2_with fail;go_ret;exact⟨s4,c4,rfl,h4a,h4b,h4d,⟨h4e,.inr λg o e=>dR hb1.size (hfr g o e)⟩,h4c,hb4⟩
   .have HDR:=aA ((hL1.drop at'));rw[Nat.mul_one] at HDR;have hcc2:at'<cap:=by omega
    go_wp2_with(first|(at_builtin;refine kS oK aY fF rfl (.tmp 18) (.tmp 20) rfl (some ⟨g,o,none⟩) (L.take at') at' HTA.out n rfl (λh=>by cases h) (St.start w2) (hL1.take at') _ rfl w2.heap.size rfl rfl htl (by decide) ?_;intro v3 w3 ap3)|(at_builtin;refine cY oK aY fF rfl (.tmp 22) (.tmp 25) rfl w2.heap.size v3 (L.take at'++[n]) rfl ap3.st ap3.own aH (by simp) ap3.size (L.drop at') (L.length-at') HTD.out (some ⟨g,o+at',none⟩) (cap-at') rfl (λh=>by cases h) (Rd.keep _ _ HDR.out ap3.st.below) htl2 (by decide) ?_;intro v4 w4 ap4));rw[<-HE.out] at ap4;have hown4:=ap4.own;obtain⟨s4,c4,rfl,h4a,h4b,h4c,h4d,h4e⟩:=hown4.form aY;have hfr:=hown4.aXq;clear hown4;have hb4:=hb1.trans (ap4.st.below.mono hb1.size);clear ap3 ap4 HE hL1 hL;go_wp2_with fail;go_ret;exact⟨s4,c4,rfl,h4a,h4b,h4d,⟨h4e,.inr λg o e=>dR hb1.size (hfr g o e)⟩,h4c,hb4⟩
@[go_sem] theorem aUm (w:World):(Instr.typeAssert .nilIface 137 447 true).run prog w=.ok (.tuple #[.agg #[.string ⟨#[]⟩],.bool false]) w:=by kernel_rfl
theorem mX (w:World):Calls prog 269 #[.nilIface] w λe w'=>e=.returned (.int .i64 0)/\Below w.heap.size w w':=by
 go_enter func269,ntmps269;go_wp2_with fail;go_ret;exact⟨rfl,aW.alloc aH _⟩
theorem iN (L:List Nat)(ha:yM L)(s:Option Addr)(cap:Nat)(hlen:L.length<=64)(hcap:L.length<=cap)(w:World)(hL:dH w s L):
  Calls prog 174 #[.agg #[.slice s L.length cap]] w λe w'=>e=.returned (.bool true)/\Below w.heap.size w w':=by
 have st:=(St.start w).alloc (cs:= #[.slice s L.length cap]) (T:=94);have hb:=st.below;have rl:=st.rs;go_enter func174,ntmps174;go_wp2_with fail
 go_loop [12] (λi=>∃k:Nat,k<=L.length/\i=.int .i64 k) (λi=>L.length-(intOf i).toNat)
 case atStart=>exact⟨0,cJ _,rfl⟩
 case round=>
  obtain⟨k,hk,rfl⟩:=hrel
  by_cases h1:k<L.length
  .obtain⟨x,hx⟩:∃x,L[k]? =some x:=⟨_,cZ h1⟩;obtain⟨g,o,rfl,hg,hc⟩:=hL.at hx;have hc1:=(hb.cell (p:=⟨g,o+k,none⟩) hg).trans hc;cases k with
   |zero=>
    rw[Nat.add_zero] at hc1;clear hx hc;go_wp2_with fail
    go_round
    case rel=>exact⟨1,by omega,rfl⟩
    case measure=>simp[intOf];omega
   |succ k=>
    obtain⟨y,hy⟩:∃y,L[k]? =some y:=⟨_,cZ (by omega)⟩;obtain⟨g',o',e',hg',hc'⟩:=hL.at hy;cases e';have hc2:=(hb.cell (p:=⟨g,o+k,none⟩) hg).trans hc';have hyx:¬x<=y:=by
     have:=List.pairwise_iff_getElem.1 ha k (k+1) (by omega) h1 (by omega);have e1:L[k]=y:=by simpa[cZ (show k<L.length by omega)] using hy
     have e2:L[k+1]=x:=by simpa[cZ h1] using hx
     omega
    have hd:decide ((x:Int)<=(y:Int))=false:=decide_eq_false (by omega);clear hx hy hc hc';go_wp2_with fail
    go_round
    case rel=>exact⟨k+2,by omega,by go_num⟩
    case measure=>simp[intOf];omega
  .obtain rfl:k=L.length:=by omega
   go_wp2_with fail;go_ret;exact⟨rfl,hb⟩
theorem aDq (L:List Nat)(ha:yM L)(s:Option Addr)(cap:Nat)(hlen:L.length<=64)(hcap:L.length<=cap)(w:World)(hL:dH w s L):
  Calls prog 265 #[.agg #[.slice s L.length cap]] w λe w'=>e=.returned (.int .u64 L.length)/\Below w.heap.size w w':=by
 have st:=(St.start w).alloc (cs:= #[.slice s L.length cap]) (T:=94);have HR:=aA (iN L ha s cap hlen hcap _ (hL.keep _ _ st.below));go_enter func265,ntmps265;go_wp2_with fail;refine HR.out.mono ?_;rintro e w1 ⟨rfl,hb1⟩;have st1:=st.to hb1;have rl:=st1.rl;have hb2:=st1.below;clear HR st st1 hb1 hL;go_wp2_with fail;go_ret;exact⟨rfl,hb2⟩
theorem aJp (L M:List Nat)(hl:L.length<=1000000)(hm:M.length<=1000000)(s t:Option Addr)(c d:Nat)(w:World)(hL:dH w s L)(hM:dH w t M)(r:Bool)(hr:r=true↔L=M):
  Calls prog 178 #[.slice s L.length c,.slice t M.length d] w λe w'=>e=.returned (.bool r)/\Below w.heap.size w w':=by
 by_cases hlen:L.length=M.length
 .have hlb:((L.length:Int) !=(M.length:Int))=false:=by simp[hlen]
  have HLen:=aA hlen;have HR:=aA hr;have hle:M.length<=L.length:=by omega
  clear hlen hr;go_enter func178,ntmps178;go_wp2_with fail
  go_loopw [13] (λi wr=>∃k:Nat,k<=L.length/\i=.int .i64 k/\Hid (L.take k=M.take k)/\St w [] (λ_=>True) wr) (λi _=>L.length-(intOf i).toNat)
  case atStart=>exact⟨0,cJ _,rfl,aA rfl,St.start w⟩
  case round=>
   obtain⟨k,hk,rfl,H,st⟩:=hrel
   by_cases h1:k<L.length
   .have h2:k<M.length:=by have:=HLen.out;omega
    obtain⟨x,hx⟩:∃x,L[k]? =some x:=⟨_,cZ h1⟩;obtain⟨y,hy⟩:∃y,M[k]? =some y:=⟨_,cZ h2⟩;obtain⟨g,o,rfl,hgl,hc⟩:=hL.at hx;obtain⟨g',o',rfl,hgl',hc'⟩:=hM.at hy;have HX:=aA hx;have HY:=aA hy;clear hx hy;have cx:=(st.below.cell (p:=⟨g,o+k,none⟩) hgl).trans hc;have cy:=(st.below.cell (p:=⟨g',o'+k,none⟩) hgl').trans hc';clear hc hc'
    by_cases hxy:x=y
    .have hb:((x:Int) !=(y:Int))=false:=by simp[hxy]
     have HXY:=aA hxy;clear hxy;go_wp2_with fail;go_quiet(fail);have st3:=st.drewN (n:=nq);clear st cx cy;go_wp2_with fail;go_roundw
     case rel=>exact⟨k+1,h1,by go_num,by
      show _=_;rw[List.take_add_one,List.take_add_one,H.out,HX.out,HY.out,HXY.out],st3⟩
     case measure=>simp[intOf];omega
    .have hb:((x:Int) !=(y:Int))=true:=by rw[bne_iff_ne];omega
     obtain rfl:r=false:=by
      rw[<-Bool.not_eq_true,HR.out];intro e;have h3:=HX.out;rw[e,HY.out] at h3;exact hxy (oSi h3).symm
     clear hxy;go_wp2_with fail;go_quiet(fail);have st3:=st.drewN (n:=nq);clear st cx cy;go_wp2_with fail;go_ret;exact⟨rfl,st3.below⟩
   .obtain rfl:k=L.length:=by omega
    obtain rfl:r=true:=by
     rw[HR.out];have:=H.out;rwa[List.take_of_length_le aH,List.take_of_length_le hle] at this
    go_wp2_with fail;go_ret;exact⟨rfl,st.below⟩
 .have hlb:((L.length:Int) !=(M.length:Int))=true:=by rw[bne_iff_ne];omega
  obtain rfl:r=false:=by
   rw[<-Bool.not_eq_true,hr];intro e;exact hlen (by rw[e])
  clear hlen hr;go_enter func178,ntmps178;go_wp2_with fail;go_ret;exact⟨rfl,aW⟩
end Go.Proofs.YtmgdbfmlnmahpaaGreatDoor
