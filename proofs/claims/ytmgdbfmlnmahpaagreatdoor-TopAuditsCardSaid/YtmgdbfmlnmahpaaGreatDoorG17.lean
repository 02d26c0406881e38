/- Part of TopAudits. -/
import Derived.Test.YtmgdbfmlnmahpaaGreatDoorG15
import Derived.Test.YtmgdbfmlnmahpaaGreatDoorG16
import Derived.Laws.StructEq
import Derived.KernelRfl
import Derived.Maps.Own
namespace Go.Proofs.YtmgdbfmlnmahpaaGreatDoor
set_option linter.unusedSimpArgs false
set_option linter.unusedVariables false
set_option maxRecDepth 100000
set_option maxHeartbeats 4000000
open Go.Proofs.Tryz
section
open Go.RowKit
structure Hd where
 s:Option Addr
 cap:Nat
abbrev Hd.v (h:Hd)(n:Nat):Value:=.slice h.s n h.cap
structure bS {α:Type}(k:Nat)(enc:α->List Value)(W:World)(h:Hd)(L:List α):Prop where
 rd:Rd k enc W h.s L
 cap:L.length<=h.cap
 max:h.cap<=9223372036854775807
 nil:h.s=none->h.cap=0
 plain:dJ h.s
theorem bS.aWu {α:Type}{k:Nat}{enc:α->List Value}{W W':World}{h:Hd}{L:List α}(r:bS k enc W h L)(hb:Below W.heap.size W W'):bS k enc W' h L:=⟨r.rd.aWu aH hb,r.cap,r.max,r.nil,r.plain⟩
theorem bS.none {α:Type}{k:Nat}{enc:α->List Value}(W:World):bS k enc W ⟨none,0⟩ ([]:List α):=⟨Rd.nil _ _,aH,cJ _,λ_=>rfl,dJ.none⟩
theorem bS.own {α:Type}{k:Nat}{enc:α->List Value}{e:TypeId}(hk:∀x,(enc x).length=k){W:World}{B:Nat}{v:Value}{L:List α}(h:aL k enc e W B v L):∃d:Hd,v=d.v L.length/\bS k enc W d L:=by
 obtain⟨s,cap,rfl,h1,h2,h3,h4,h5⟩:=h.form hk;exact⟨⟨s,cap⟩,rfl,h3,h1,h2,h4,h5⟩
def aT (B:Nat)(d:Hd):Prop:=∀g o,d.s=some ⟨g,o,none⟩->B<=g
theorem aT.mono {B B':Nat}{d:Hd}(h:aT B d)(hb:B'<=B):aT B' d:=λg o e=>dR hb (h g o e)
theorem aT.none (B:Nat):aT B ⟨none,0⟩:=λ_ _ e=>by cases e
theorem bS.aXa {α:Type}{k:Nat}{enc:α->List Value}{e:TypeId}(hk:∀x,(enc x).length=k){W:World}{B:Nat}{v:Value}{L:List α}(h:aL k enc e W B v L):∃d:Hd,v=d.v L.length/\bS k enc W d L/\aT B d:=by
 obtain⟨d,rfl,hd⟩:=bS.own hk h;refine⟨d,rfl,hd,λg o e=> ?_⟩;rcases h.2 with⟨hv,_⟩|⟨g',cap,cur,hv,hB,_⟩
 .cases hv':d.s with
  |none=>rw[hv'] at e;cases e
  |some a=>rw[Hd.v,hv'] at hv;cases hv
 .rw[Hd.v,e] at hv;cases hv;exact hB
def aM (B:Nat)(W W':World):Prop:=(∀k,B<=k->W'.heap[k]? =W.heap[k]?)/\W'.heap.size=W.heap.size
theorem aM.refl (B:Nat)(W:World):aM B W W:=⟨λ_ _=>rfl,rfl⟩
theorem aM.set {B:Nat}{W W':World}(h:aM B W W'){b o:Nat}(hb:b<B)(v:Value):aM B W (W'.setCell ⟨b,o,.none⟩ v):=
 ⟨λk hk=>(Below.heap_setCell W' ⟨b,o,.none⟩ v k (by show k≠b;omega)).trans (h.1 k hk),by rw[<-h.2];simp[World.setCell]⟩
theorem bS.up {α:Type}{k:Nat}{enc:α->List Value}{W W':World}{B:Nat}{h:Hd}{L:List α}(r:bS k enc W h L)(hf:aT B h)(hk:aM B W W'):bS k enc W' h L:=by
 refine⟨λi x hx=> ?_,r.cap,r.max,r.nil,r.plain⟩;obtain⟨g,o,e,hg,hc⟩:=r.rd i x hx;refine⟨g,o,e,by rw[hk.2];exact hg,λj u hu=> ?_⟩;rw[<-hc j u hu];simp only[World.cell?,hk.1 g (hf g o e)]
structure dQ where
 name:ByteArray
 val:ByteArray
def cO (x:dQ):List Value:=[.string x.name,.string x.val]
theorem cE (x:dQ):(cO x).length=2:=rfl
theorem rQ (x:dQ):∀v∈cO x,v.oneCell'=true:=by intro v hv;simp[cO] at hv;rcases hv with rfl|rfl<;>rfl
inductive Sk where
 |dist (L:List Nat)
 |reg (j:Nat) (R:ByteArray)
 |cnt (j:Nat) (L:List Nat)
 |hst (j:Nat) (l:List (Nat×Nat))
def Sk.kind :Sk->Int
 | .dist _=>1
 | .reg _ _=>1
 | .cnt _ _=>2
 | .hst _ _=>3
def Sk.lev :Sk->Nat
 | .dist _=>0
 | .reg j _=>j
 | .cnt j _=>j
 | .hst j _=>j
def Sk.e :Sk->List Nat
 | .dist L=>L
 |_=>[]
def Sk.bits :Sk->Nat
 | .reg j _=>8-j
 |_=>0
def Sk.aWx :Sk->ByteArray
 | .reg _ R=>R
 |_=>⟨#[]⟩
def Sk.c :Sk->List Nat
 | .cnt _ L=>L
 |_=>[]
def Sk.g :Sk->List (Nat×Nat)
 | .hst _ l=>l
 |_=>[]
def Sk.rows :Sk->Int
 | .cnt _ _=>2
 |_=>0
def bM (j:Nat):Nat:=32/2^j
def Sk.aWv :Sk->Nat
 | .cnt j _=>bM j
 |_=>0
def Sk.aWw :Sk->Nat
 | .hst j _=>3-j
 |_=>0
def Sk.Ok :Sk->Prop
 | .dist L=>yM L/\dK L/\L.length<=64
 | .reg j R=>(1<=j/\j<=4)/\pM (2^(8-j)) (57+j) R
 | .cnt j L=>j<=3/\dK L/\L.length=2*bM j
 | .hst j l=>j<=3/\iR (3-j) l
theorem mG {j:Nat}(h:1<=j/\j<=4):jA (8-j) (2^(8-j)) (57+j):=by
 obtain⟨h1,h2⟩:=h;rcases(show j=1\/j=2\/j=3\/j=4 by omega) with rfl|rfl|rfl|rfl<;>simp[jA]
theorem pB {j:Nat}(h:j<=3):iF (bM j) (2*bM j):=by
 rcases(show j=0\/j=1\/j=2\/j=3 by omega) with rfl|rfl|rfl|rfl<;>simp[iF,bM]
theorem fU {f:Nat}(hf:f<=3){l:List (Nat×Nat)}(h:iR f l):(∀x∈l,x.1<=1000)/\l.length<=1001:=by
 have h1:∀x∈l,x.1<=1000:=λx hx=>nP hf (h.2.2 x hx);refine⟨h1,?_⟩;have key:∀(m:List (Nat×Nat)) (n:Nat),jD m->(∀x∈m,n<=x.1/\x.1<=1000)->n<=1001->m.length+n<=1001:=by
  intro m
  induction m with
  |nil=>intro n _ _ hn;simpa using hn
  |cons x m ih=>
   intro n ha hm hn;obtain⟨a1,a2⟩:=List.pairwise_cons.1 ha;have hx:=hm x (by simp);have:=ih (x.1+1) a2 (λy hy=>⟨by have:=a1 y hy;omega,(hm y (by simp[hy])).2⟩) (by omega);simp only[List.length_cons];omega
 have:=key l 0 h.1 (λx hx=>⟨cJ _,h1 x hx⟩) (by omega);omega
structure aR where
 e:Hd
 c:Hd
 g:Hd
abbrev aR.v (x:Sk)(h:aR):Value:=.agg #[.int .i64 x.kind,.int .i64 x.lev,h.e.v x.e.length,.int .i64 x.bits,.string x.aWx,.int .i64 x.rows,.int .i64 x.aWv,h.c.v x.c.length,.int .i64 x.aWw,h.g.v x.g.length]
structure bW (W:World)(x:Sk)(h:aR):Prop where
 e:bS 1 cM W h.e x.e
 c:bS 1 cM W h.c x.c
 g:bS 2 iS W h.g x.g
theorem bW.aWu {W W':World}{x:Sk}{h:aR}(r:bW W x h)(hb:Below W.heap.size W W'):bW W' x h:=⟨r.e.aWu hb,r.c.aWu hb,r.g.aWu hb⟩
def cQ (B:Nat)(h:aR):Prop:=aT B h.e/\aT B h.c/\aT B h.g
theorem cQ.mono {B B':Nat}{d:aR}(h:cQ B d)(hb:B'<=B):cQ B' d:=⟨h.1.mono hb,h.2.1.mono hb,h.2.2.mono hb⟩
theorem bW.up {W W':World}{B:Nat}{x:Sk}{h:aR}(r:bW W x h)(hf:cQ B h)(hk:aM B W W'):bW W' x h:=⟨r.e.up hf.1 hk,r.c.up hf.2.1 hk,r.g.up hf.2.2 hk⟩
def qR (w:World)(S:Sk->Prop)(e:Ending)(w':World):Prop:=∃(x:Sk) (h:aR),(S x/\x.Ok)/\e=.returned (h.v x)/\bW w' x h/\cQ w.heap.size h/\RowKit.Below w.heap.size w w'
structure aP where
 lab:List dQ
 sk:Sk
 seen:Nat
 l:Hd
 k:aR
def aN (x:aP):List Value:=[x.l.v x.lab.length,.int .i64 x.sk.kind,.int .i64 x.sk.lev,x.k.e.v x.sk.e.length,.int .i64 x.sk.bits,.string x.sk.aWx,.int .i64 x.sk.rows,.int .i64 x.sk.aWv,x.k.c.v x.sk.c.length,.int .i64 x.sk.aWw,x.k.g.v x.sk.g.length,.int .u64 (x.seen:Nat)]
theorem cN (x:aP):(aN x).length=12:=rfl
theorem rX (x:aP):∀v∈aN x,v.oneCell'=true:=by
 intro v hv;simp[aN] at hv;rcases hv with rfl|rfl|rfl|rfl|rfl|rfl|rfl|rfl|rfl|rfl|rfl|rfl<;>rfl
structure yK (W:World)(x:aP):Prop where
 l:bS 2 cO W x.l x.lab
 k:bW W x.sk x.k
theorem yK.aWu {W W':World}{x:aP}(r:yK W x)(hb:Below W.heap.size W W'):yK W' x:=⟨r.l.aWu hb,r.k.aWu hb⟩
structure mN (W:World)(h:Hd)(T:List aP):Prop where
 t:bS 12 aN W h T
 s:∀x∈T,yK W x
theorem mN.aWu {W W':World}{h:Hd}{T:List aP}(r:mN W h T)(hb:Below W.heap.size W W'):mN W' h T:=⟨r.t.aWu hb,λx hx=>(r.s x hx).aWu hb⟩
theorem aPt {W:World}{h:Hd}{T:List aP}(r:mN W h T){i:Nat}{x:aP}(hx:T[i]? =some x):∃g o,h.s=some ⟨g,o,none⟩/\g<W.heap.size/\∀j u,(aN x)[j]? =some u->W.cell? ⟨g,o+i*12+j,none⟩=some u:=r.t.rd i x hx
end
section
open Go.RowKit Go.Shelf
theorem aSr :eM prog 161 229 2 32:=eM.mk (z:=.agg #[.string ⟨#[]⟩,.string ⟨#[]⟩]) underlying161 (by kernel_rfl) rfl (by decide)
theorem xC :eM prog 74 167 12 168:=eM.mk (z:=.agg #[.slice none 0 0,.int .i64 0,.int .i64 0,.slice none 0 0,.int .i64 0,.string ⟨#[]⟩,.int .i64 0,.int .i64 0,.slice none 0 0,.int .i64 0,.slice none 0 0,.int .u64 0]) underlying74 (by kernel_rfl) rfl (by decide)
theorem lH {α:Type}(w:World)(e:TypeId)(k:Nat)(enc:α->List Value):aL k enc e (w.alloc (.cells #[] e)) w.heap.size (.slice (some ⟨w.heap.size,0,none⟩) 0 0) ([]:List α):=
 ⟨by simp,.inr ⟨w.heap.size,0,#[],rfl,aH,kH w _,aH,by unfold maxLen;omega,by simp,by simp⟩⟩
def aA6 {α:Type}(k:Nat)(enc:α->List Value)(w:World)(L:List α)(e:Ending)(w':World):Prop:=
 ∃d:Hd,e=.returned (d.v L.length)/\bS k enc w' d L/\aT w.heap.size d/\RowKit.Below w.heap.size w w'
theorem fJ (L:List Nat)(hl:L.length<=100000)(h:Hd)(w:World)(hL:bS 1 cM w h L):
  Calls prog 138 #[h.v L.length] w (aA6 1 cM w L):=by
 obtain⟨s,cap⟩:=h;obtain⟨hrd,hcap,hmax,hnil,hpl⟩:=hL;simp only at hrd hcap hmax hnil hpl;show Calls prog 138 #[.slice s L.length cap] w _;cases s with
 |none=>
  obtain rfl:=kV hrd;obtain rfl:cap=0:=hnil rfl;show Calls prog 138 #[.slice none 0 0] w _;have hq:=Lib.run_eql_slice_nil (P:=prog);go_enter func138,ntmps138;go_wp2_with fail;go_ret;exact⟨⟨none,0⟩,rfl,bS.none _,aT.none _,aW⟩
 |some ad=>
  obtain⟨g,o,rfl⟩:=hpl _ rfl;have hlb:L.length+0<=1000000:=by omega
  have HL:=aA hrd;clear hpl hnil hmax;have hq:=Lib.run_eql_slice_nil (P:=prog);go_enter func138,ntmps138;go_wp2_with(at_builtin;refine cY oK aY fF rfl (.tmp 5) (.tmp 6) rfl w.heap.size (.slice (some ⟨w.heap.size,0,none⟩) 0 0) ([]:List Nat) rfl ((St.start w).to (aW.alloc aH _)) (lH w 22 1 cM) aH (by simp) ?_ L L.length rfl (some ⟨g,o,none⟩) cap rfl (λh=>by cases h) (HL.out.aWu aH (aW.alloc aH _)) ?_ (by decide) ?_)
  .simp
  .simpa using hlb
  intro v' w' ap;obtain⟨d,rfl,hd,hf⟩:=bS.aXa aY ap.own;go_wp2_with fail;go_ret;exact⟨d,rfl,hd,hf,ap.st.below⟩
theorem mJ (L:List (Nat×Nat))(hl:L.length<=100000)(h:Hd)(w:World)(hL:bS 2 iS w h L):
  Calls prog 139 #[h.v L.length] w (aA6 2 iS w L):=by
 obtain⟨s,cap⟩:=h;obtain⟨hrd,hcap,hmax,hnil,hpl⟩:=hL;simp only at hrd hcap hmax hnil hpl;show Calls prog 139 #[.slice s L.length cap] w _;cases s with
 |none=>
  obtain rfl:=kV hrd;obtain rfl:cap=0:=hnil rfl;show Calls prog 139 #[.slice none 0 0] w _;have hq:=Lib.run_eql_slice_nil (P:=prog);go_enter func139,ntmps139;go_wp2_with fail;go_ret;exact⟨⟨none,0⟩,rfl,bS.none _,aT.none _,aW⟩
 |some ad=>
  obtain⟨g,o,rfl⟩:=hpl _ rfl;have hlb:L.length+0<=1000000:=by omega
  have HL:=aA hrd;clear hpl hnil hmax;have hq:=Lib.run_eql_slice_nil (P:=prog);go_enter func139,ntmps139;go_wp2_with(at_builtin;refine cY aSd fW aE1 rfl (.tmp 5) (.tmp 6) rfl w.heap.size (.slice (some ⟨w.heap.size,0,none⟩) 0 0) ([]:List (Nat×Nat)) rfl ((St.start w).to (aW.alloc aH _)) (lH w 277 2 iS) aH (by simp) ?_ L L.length rfl (some ⟨g,o,none⟩) cap rfl (λh=>by cases h) (HL.out.aWu aH (aW.alloc aH _)) ?_ (by decide) ?_)
  .simp
  .simpa using hlb
  intro v' w' ap;obtain⟨d,rfl,hd,hf⟩:=bS.aXa fW ap.own;go_wp2_with fail;go_ret;exact⟨d,rfl,hd,hf,ap.st.below⟩
theorem qW (L:List dQ)(hl:L.length<=100000)(h:Hd)(w:World)(hL:bS 2 cO w h L):
  Calls prog 159 #[h.v L.length] w (aA6 2 cO w L):=by
 obtain⟨s,cap⟩:=h;obtain⟨hrd,hcap,hmax,hnil,hpl⟩:=hL;simp only at hrd hcap hmax hnil hpl;show Calls prog 159 #[.slice s L.length cap] w _;cases s with
 |none=>
  obtain rfl:=kV hrd;obtain rfl:cap=0:=hnil rfl;show Calls prog 159 #[.slice none 0 0] w _;have hq:=Lib.run_eql_slice_nil (P:=prog);go_enter func159,ntmps159;go_wp2_with fail;go_ret;exact⟨⟨none,0⟩,rfl,bS.none _,aT.none _,aW⟩
 |some ad=>
  obtain⟨g,o,rfl⟩:=hpl _ rfl;have hlb:L.length+0<=1000000:=by omega
  have HL:=aA hrd;clear hpl hnil hmax;have hq:=Lib.run_eql_slice_nil (P:=prog);go_enter func159,ntmps159;go_wp2_with(at_builtin;refine cY aSr cE rQ rfl (.tmp 5) (.tmp 6) rfl w.heap.size (.slice (some ⟨w.heap.size,0,none⟩) 0 0) ([]:List dQ) rfl ((St.start w).to (aW.alloc aH _)) (lH w 229 2 cO) aH (by simp) ?_ L L.length rfl (some ⟨g,o,none⟩) cap rfl (λh=>by cases h) (HL.out.aWu aH (aW.alloc aH _)) ?_ (by decide) ?_)
  .simp
  .simpa using hlb
  intro v' w' ap;obtain⟨d,rfl,hd,hf⟩:=bS.aXa cE ap.own;go_wp2_with fail;go_ret;exact⟨d,rfl,hd,hf,ap.st.below⟩
theorem aGn (L:List aP)(hl:L.length<=100000)(h:Hd)(w:World)(hL:bS 12 aN w h L):
  Calls prog 160 #[h.v L.length] w (aA6 12 aN w L):=by
 obtain⟨s,cap⟩:=h;obtain⟨hrd,hcap,hmax,hnil,hpl⟩:=hL;simp only at hrd hcap hmax hnil hpl;show Calls prog 160 #[.slice s L.length cap] w _;cases s with
 |none=>
  obtain rfl:=kV hrd;obtain rfl:cap=0:=hnil rfl;show Calls prog 160 #[.slice none 0 0] w _;have hq:=Lib.run_eql_slice_nil (P:=prog);go_enter func160,ntmps160;go_wp2_with fail;go_ret;exact⟨⟨none,0⟩,rfl,bS.none _,aT.none _,aW⟩
 |some ad=>
  obtain⟨g,o,rfl⟩:=hpl _ rfl;have hlb:L.length+0<=1000000:=by omega
  have HL:=aA hrd;clear hpl hnil hmax;have hq:=Lib.run_eql_slice_nil (P:=prog);go_enter func160,ntmps160;go_wp2_with(at_builtin;refine cY xC cN rX rfl (.tmp 5) (.tmp 6) rfl w.heap.size (.slice (some ⟨w.heap.size,0,none⟩) 0 0) ([]:List aP) rfl ((St.start w).to (aW.alloc aH _)) (lH w 167 12 aN) aH (by simp) ?_ L L.length rfl (some ⟨g,o,none⟩) cap rfl (λh=>by cases h) (HL.out.aWu aH (aW.alloc aH _)) ?_ (by decide) ?_)
  .simp
  .simpa using hlb
  intro v' w' ap;obtain⟨d,rfl,hd,hf⟩:=bS.aXa cN ap.own;go_wp2_with fail;go_ret;exact⟨d,rfl,hd,hf,ap.st.below⟩
end
section
open Go.RowKit Go.Shelf
@[go_sem high] theorem aWk (a b a' b':Int)(w:World):(Op.equalIn 10000 277 (.agg #[.int .i64 a,.int .u64 b]) (.agg #[.int .i64 a',.int .u64 b'])).run prog w=.ok (a==a'&&b==b') w:=by
 have u3:=underlying22;have a3:=isAgg22;have z3:=sizeOf22;have u4:=underlying3;have a4:=isAgg3;have z4:=sizeOf3;have hS:prog.underlying 277=some (.struct (prog.fieldsOf 277)):=by kernel_rfl
 have hp:prog.stoodInHeld 277=false:=by kernel_rfl
 rw[show(10000:Nat)=9999+1 from rfl,run_equalIn_agg w 9999 277 _ _ hS hp];simp only[Program.fieldsOf,underlying277];go_simp
 by_cases h1:a=a'<;>by_cases h2:b=b'<;>simp[h1,h2]
@[go_sem high] theorem aWm (a a':Int)(t t':ByteArray)(w:World):(Op.equalIn 10000 96 (.agg #[.int .i64 a,.string t]) (.agg #[.int .i64 a',.string t'])).run prog w=.ok (a==a'&&t.toList==t'.toList) w:=by
 have u3:=underlying9;have a3:=isAgg9;have z3:=sizeOf9;have u4:=underlying3;have a4:=isAgg3;have z4:=sizeOf3;have hS:prog.underlying 96=some (.struct (prog.fieldsOf 96)):=by kernel_rfl
 have hp:prog.stoodInHeld 96=false:=by kernel_rfl
 rw[show(10000:Nat)=9999+1 from rfl,run_equalIn_agg w 9999 96 _ _ hS hp];simp only[Program.fieldsOf,underlying96];go_simp
 by_cases h1:a=a'<;>by_cases h2:t.toList=t'.toList<;>simp[h1,h2]
@[go_sem high] theorem aWs (s s' t t':ByteArray)(w:World):(Op.equalIn 10000 229 (.agg #[.string s,.string t]) (.agg #[.string s',.string t'])).run prog w=.ok (s.toList==s'.toList&&t.toList==t'.toList) w:=by
 have u3:=underlying9;have a3:=isAgg9;have z3:=sizeOf9;have hS:prog.underlying 229=some (.struct (prog.fieldsOf 229)):=by kernel_rfl
 have hp:prog.stoodInHeld 229=false:=by kernel_rfl
 rw[show(10000:Nat)=9999+1 from rfl,run_equalIn_agg w 9999 229 _ _ hS hp];simp only[Program.fieldsOf,underlying229];go_simp
 by_cases h1:s.toList=s'.toList<;>by_cases h2:t.toList=t'.toList<;>simp[h1,h2]
theorem aMo (r q:Int)(L:List Nat)(hl:L.length<=1000000)(s t:Option Addr)(c d:Nat)(w:World)(hL:dH w s L)(hM:dH w t L):
  Calls prog 136 #[.agg #[.int .i64 r,.int .i64 q,.slice s L.length c],.agg #[.int .i64 r,.int .i64 q,.slice t L.length d]] w λe w'=>e=.returned (.bool true)/\Below w.heap.size w w':=by
 have st0:=((St.start w).alloc (cs:= #[.int .i64 r,.int .i64 q,.slice s L.length c]) (T:=98)).alloc (cs:= #[.int .i64 r,.int .i64 q,.slice t L.length d]) (T:=98);have hb0:=st0.below;have HR:=aA (aJp L L hl hl s t c d _ (hL.aWu aH hb0) (hM.aWu aH hb0) true (by simp));clear st0;go_enter func136,ntmps136;go_wp2_with fail;refine HR.out.mono ?_;rintro e w1 ⟨rfl,hb1⟩;have hb2:=hb0.trans (hb1.mono hb0.size);clear HR hb0 hb1;go_wp2_with fail;go_ret;exact⟨rfl,hb2⟩
theorem aLm (f:Int)(l:List (Nat×Nat))(hl:l.length<=1000000)(s t:Option Addr)(c d:Nat)(w:World)(hL:Rd 2 iS w s l)(hM:Rd 2 iS w t l):
  Calls prog 137 #[.agg #[.int .i64 f,.slice s l.length c],.agg #[.int .i64 f,.slice t l.length d]] w λe w'=>e=.returned (.bool true)/\RowKit.Below w.heap.size w w':=by
 have st0:=((St.start w).alloc (cs:= #[.int .i64 f,.slice s l.length c]) (T:=101)).alloc (cs:= #[.int .i64 f,.slice t l.length d]) (T:=101);simp only[World.size_alloc] at st0;go_enter func137,ntmps137;go_wp2_with fail
 go_loopw [24] (λi wr=>∃k:Nat,k<=l.length/\i=.int .i64 k/\St w [(w.heap.size+1,#[.int .i64 f,.slice t l.length d],101),(w.heap.size,#[.int .i64 f,.slice s l.length c],101)] (λ_=>True) wr) (λi _=>l.length-(intOf i).toNat)
 case atStart=>exact⟨0,cJ _,rfl,st0⟩
 case round=>
  clear st0;obtain⟨k,hk,rfl,st⟩:=hrel;have rl:=st.rl
  by_cases hlt:k<l.length
  .obtain⟨x,hx⟩:∃x,l[k]? =some x:=⟨_,cZ hlt⟩;obtain⟨g,o,rfl,hg,hc1,hc2⟩:=qS (hL.aWu aH st.below) hx;obtain⟨g',o',rfl,hg',hc1',hc2'⟩:=qS (hM.aWu aH st.below) hx;obtain⟨xa,xn⟩:=x;simp only at hc1 hc2 hc1' hc2';clear hx;go_wp2_with fail;have stb:=st.alloc (cs:= #[.int .i64 (xa:Nat),.int .u64 (xn:Nat)]) (T:=277);have hc3:(wr.alloc (.cells #[.int .i64 (xa:Nat),.int .u64 (xn:Nat)] 277)).cell? ⟨g',o'+k*2,none⟩=some (.int .i64 (xa:Nat)):=((aW.alloc aH _).cell (p:=⟨g',_,none⟩) hg').trans hc1';have hc4:(wr.alloc (.cells #[.int .i64 (xa:Nat),.int .u64 (xn:Nat)] 277)).cell? ⟨g',o'+k*2+1,none⟩=some (.int .u64 (xn:Nat)):=((aW.alloc aH _).cell (p:=⟨g',_,none⟩) hg').trans hc2';go_quiet(fail);have st3:=stb.drewN (n:=nq);clear hc1 hc2 hc3 hc4 hc1' hc2' rl;go_wp2_with fail;go_roundw
   case rel=>exact⟨k+1,hlt,by go_num,st3.less _ (List.sublist_cons_self _ _)⟩
   case measure=>simp[intOf];omega
  .obtain rfl:k=l.length:=by omega
   go_wp2_with fail;go_ret;exact⟨rfl,st.below⟩
end
def Sk.new (k:Nat):Sk:=if k=1 then .dist [] else if k=2 then .cnt 0 (fZ 64) else .hst 0 []
theorem Sk.aXr (k:Nat):(Sk.new k).Ok:=by
 unfold Sk.new;split
 .exact⟨List.Pairwise.nil,by simp[dK],by simp⟩
 .split
  .exact⟨by omega,mF 64,by rw[iE];rfl⟩
  .exact⟨by omega,List.Pairwise.nil,by simp[nJ],by simp⟩
def aOk (x:Sk)(a:Nat)(y:Sk):Prop:=y.kind=x.kind/\∀L,x=.dist L->(gT a L).length<=64->y=.dist (gT a L)
def gW (x z y:Sk):Prop:=y.kind=x.kind/\∀L M,x=.dist L->z=.dist M->(aO L M).length<=64->y=.dist (aO L M)
def uS (x y:Sk):Prop:=y.kind=x.kind/\y.lev=x.lev+1
def wT (x y:Sk):Prop:=y.kind=x.kind/\y.lev=x.lev
def aLp (x:Sk)(l:Nat)(y:Sk):Prop:=y.kind=x.kind/\y.lev=max x.lev l/\(l<=x.lev->y=x)
def Sk.bot (x:Sk):Nat:=if x.kind=1 then 4 else 3
theorem Sk.aXe {x:Sk}(h:x.Ok):x.lev<=x.bot:=by
 cases x with
 |dist L=>exact cJ _
 |reg j R=>exact h.1.2
 |cnt j L=>exact h.1
 |hst j l=>exact h.1
theorem vX {x y:Sk}(h:y.kind=x.kind):y.bot=x.bot:=by unfold Sk.bot;rw[h]
theorem Sk.Ok.len {x:Sk}(h:x.Ok):x.e.length<=64/\x.c.length<=64/\x.g.length<=1001:=by
 cases x with
 |dist L=>exact⟨h.2.2,cJ _,cJ _⟩
 |reg j R=>exact⟨cJ _,cJ _,cJ _⟩
 |cnt j L=>exact⟨cJ _,by show L.length<=64;rw[h.2.2];exact(pB h.1).n,cJ _⟩
 |hst j l=>exact⟨cJ _,cJ _,(fU (by omega) h.2).2⟩
def Sk.cost :Sk->Nat
 | .dist L=>8*L.length+16
 | .reg _ R=>R.data.size+16
 | .cnt _ L=>8*L.length+16
 | .hst _ l=>16*l.length+16
theorem Sk.aXt (x:Sk)(hx:x.Ok):16<=x.cost/\x.cost<=20000:=by
 have h:=hx.len;cases x with
 |dist L=>have h1:L.length<=64:=h.1;show 16<=8*L.length+16/\8*L.length+16<=_;omega
 |reg j R=>
  have h1:=(mG hx.1).bounds;have h2:R.data.size=2^(8-j):=hx.2.1;show 16<=R.data.size+16/\R.data.size+16<=_;omega
 |cnt j L=>have h1:L.length<=64:=h.2.1;show 16<=8*L.length+16/\8*L.length+16<=_;omega
 |hst j l=>have h1:l.length<=1001:=h.2.2;show 16<=16*l.length+16/\16*l.length+16<=_;omega
section
open Go.RowKit Go.Shelf
theorem aH0 (x:Sk)(hx:x.Ok)(h h':aR)(w:World)(hK:bW w x h)(hK':bW w x h'):
  Calls prog 88 #[h.v x,h'.v x] w λe w'=>e=.returned (.bool true)/\Below w.heap.size w w':=by
 obtain⟨⟨es,ec⟩,⟨cs,cc⟩,⟨gs,gc⟩⟩:=h;obtain⟨⟨es',ec'⟩,⟨cs',cc'⟩,⟨gs',gc'⟩⟩:=h';obtain⟨l1,l2,l3⟩:=hx.len;have HE:=aA (λW hW=>aHw x.e x.e (by omega) (by omega) es es' ec ec' W (hK.e.rd.aWu aH hW) (hK'.e.rd.aWu aH hW) true (by simp));have HC:=aA (λW hW=>aMo x.rows (x.aWv:Int) x.c (by omega) cs cs' cc cc' W (hK.c.rd.aWu aH hW) (hK'.c.rd.aWu aH hW));have HG:=aA (λW hW=>aLm (x.aWw:Int) x.g (by omega) gs gs' gc gc' W (hK.g.rd.aWu aH hW) (hK'.g.rd.aWu aH hW));have st0:=((St.start w).alloc (cs:= #[.int .i64 x.kind,.int .i64 x.lev,.slice es x.e.length ec,.int .i64 x.bits,.string x.aWx,.int .i64 x.rows,.int .i64 x.aWv,.slice cs x.c.length cc,.int .i64 x.aWw,.slice gs x.g.length gc]) (T:=103)).alloc (cs:= #[.int .i64 x.kind,.int .i64 x.lev,.slice es' x.e.length ec',.int .i64 x.bits,.string x.aWx,.int .i64 x.rows,.int .i64 x.aWv,.slice cs' x.c.length cc',.int .i64 x.aWw,.slice gs' x.g.length gc']) (T:=103);simp only[World.size_alloc] at st0;clear hK hK' hx l1 l2 l3;show Calls prog 88 #[.agg #[.int .i64 x.kind,.int .i64 x.lev,.slice es x.e.length ec,.int .i64 x.bits,.string x.aWx,.int .i64 x.rows,.int .i64 x.aWv,.slice cs x.c.length cc,.int .i64 x.aWw,.slice gs x.g.length gc],.agg #[.int .i64 x.kind,.int .i64 x.lev,.slice es' x.e.length ec',.int .i64 x.bits,.string x.aWx,.int .i64 x.rows,.int .i64 x.aWv,.slice cs' x.c.length cc',.int .i64 x.aWw,.slice gs' x.g.length gc']] w _;generalize x.kind=kd at*;generalize x.rows=rw at*;generalize(x.aWv:Int)=cl at*;generalize(x.aWw:Int)=fi at*;generalize(x.lev:Int)=lv at*;generalize(x.bits:Int)=bs at*;generalize x.aWx=rg at*;generalize x.e=E at*;generalize x.c=C at*;generalize x.g=G at*;go_enter func88,ntmps88;go_wp2_with fail;refine(HE.out _ st0.below).mono ?_;rintro e w1 ⟨rfl,hb1⟩;have st1:=st0.to hb1;have rl:=st1.rs;clear HE st0 hb1
 go_wp2_with fail;refine(HC.out _ st1.below).mono ?_;rintro e w2 ⟨rfl,hb2⟩;have st2:=st1.to hb2;have rl:=st2.rs;clear HC st1 hb2;go_wp2_with fail;refine(HG.out _ st2.below).mono ?_;rintro e w3 ⟨rfl,hb3⟩;have st3:=st2.to hb3;clear HG st2 hb3 rl;go_wp2_with fail;go_ret;exact⟨rfl,st3.below⟩
theorem mZ (x:Sk)(w:World):Calls prog 87 #[.int .i64 x.kind] w λe w'=>e=.returned (.int .i64 x.bot)/\w'=w:=by
 cases x<;>(show Calls _ _ #[.int .i64 _] w _;simp only[Sk.kind];go_enter func87,ntmps87;go_wp2_with fail;go_ret;exact⟨rfl,rfl⟩)
theorem dG (b:Value)(w:World):Calls prog 264 #[b,.int .i64 0] w λe w'=>e=.returned (.tuple #[b,.nilIface])/\w'=w:=by
 go_enter func264,ntmps264;go_wp2_with fail;go_ret2;exact⟨rfl,rfl⟩
abbrev gQ :Value->Option (DataW Value×List MemPlace):=λv=>some (.held v,[])
theorem bQ :Maps.Keyed prog 3:=Maps.int_keyed underlying3
theorem sE :prog.underlying 198=some (.map 3 196):=underlying198
theorem aL0 (w:World):(zeroValue 196).run prog w=.ok .nilFunc w:=by kernel_rfl
abbrev fnV (n:Nat):Value:=.func (.func n) #[] #[]
def aHf :DataW Value:=(((DataW.map []).put (.int .i64 1) (.held (fnV 132))).put (.int .i64 2) (.held (fnV 133))).put (.int .i64 3) (.held (fnV 134))
def aFf (W:World)(b:Nat):Prop:=W.ownsMap prog 3 gQ b 3 aHf
theorem nH (n:Int)(h0:0<=n)(h3:n<=1000):keyOf prog 3 (.int .i64 n)=some (.int .i64 n):=Maps.keyOf_int_mk underlying3 (WalkArith.wf_i64 (by omega))
theorem aFf.keep {W W':World}{b:Nat}(h:aFf W b)(hb:Below W.heap.size W W'):aFf W' b:=World.ownsMap.kept h (aU hb none) (by simp)
def Sk.fn :Sk->Nat
 | .dist _=>132
 | .reg _ _=>132
 | .cnt _ _=>133
 | .hst _ _=>134
theorem aFf.look {W:World}{b:Nat}(h:aFf W b)(x:Sk):(Instr.lookup 198 (.map (some b)) (.int .i64 x.kind) true).run prog W=.ok (.tuple #[fnV x.fn,.bool true]) W:=by
 obtain⟨v,ps,hrun,hv⟩:=World.ownsMap.look_ok h bQ sE (aL0 _) (zp:=[]) rfl (nH x.kind (by cases x<;>simp[Sk.kind]) (by cases x<;>simp[Sk.kind]));have h1:aHf.atKey (.int .i64 x.kind) (.held .nilFunc)=.held (fnV x.fn):=by cases x<;>kernel_rfl
 have h2:Maps.has aHf (.int .i64 x.kind)=true:=by cases x<;>kernel_rfl
 rw[h1] at hv;rw[h2] at hrun;simp only[gQ,Option.some.injEq,Prod.mk.injEq,DataW.held.injEq] at hv;rw[hrun,hv.1]
theorem aKj (w:World):Calls prog 86 #[] w λe w'=>∃b,e=.returned (.map (some b))/\w.heap.size<=b/\aFf w' b/\Below w.heap.size w w':=by
 have o0:=World.ownsMap_made w prog 3 gQ;obtain⟨w1,h1,o1,g1⟩:=o0.update bQ sE (by unfold maxLen;omega) (nH 1 (by decide) (by decide)) (val:=fnV 132) (d:=.held (fnV 132)) (ps:=[]) rfl;obtain⟨w2,h2,o2,g2⟩:=o1.update bQ sE (by unfold maxLen;omega) (nH 2 (by decide) (by decide)) (val:=fnV 133) (d:=.held (fnV 133)) (ps:=[]) rfl;obtain⟨w3,h3,o3,g3⟩:=o2.update bQ sE (by unfold maxLen;omega) (nH 3 (by decide) (by decide)) (val:=fnV 134) (d:=.held (fnV 134)) (ps:=[]) rfl;have b0:Below w.heap.size w (w.alloc (.map #[] 0)):=aW.alloc aH _;have b1:=b0.grown g1 b0.size (λk e=>by cases e;exact aH);have b2:=b1.grown g2 b1.size (λk e=>by cases e;exact aH);have b3:=b2.grown g3 b2.size (λk e=>by cases e;exact aH);have hmm:= @run_makeMap prog;have O:=aA o3;clear o0 o1 o2 o3 g1 g2 g3 b0 b1 b2;go_enter func86,ntmps86;go_wp2_with fail;go_ret;exact⟨_,rfl,aH,O.out,b3⟩
end
end Go.Proofs.YtmgdbfmlnmahpaaGreatDoor
