/- Part of TopAudits. -/
import Derived.Test.YtmgdbfmlnmahpaaGreatDoorG18
import Derived.Test.YtmgdbfmlnmahpaaGreatDoorG19
import Derived.Test.YtmgdbfmlnmahpaaGreatDoorG20
namespace Go.Proofs.YtmgdbfmlnmahpaaGreatDoor
set_option linter.unusedSimpArgs false
set_option linter.unusedVariables false
set_option maxRecDepth 100000
set_option maxHeartbeats 4000000
open Go.Proofs.Tryz
open Go.RowKit Go.Shelf
section
variable {j:Nat} {w w':World}
def fR (w:World)(S:Sk->Prop)(e:Ending)(w':World):Prop:=∃(x:Sk) (h:aR),(S x/\x.Ok)/\e=.returned (.tuple #[h.a x,.int .i64 0])/\bW w' x h/\cQ w.heap.size h/\RowKit.Below w.heap.size w w'
def dU (w:World)(S:Sk->Prop)(e:Ending)(w':World):Prop:=∃(x:Sk) (h:aR),(S x/\x.Ok)/\e=.returned (.tuple #[h.b x,.nilIface])/\bW w' x h/\cQ w.heap.size h/\RowKit.Below w.heap.size w w'
theorem dU.mono {S T:Sk->Prop}(hs:∀x,S x->T x){e:Ending}{w':World}(h:dU w S e w'):dU w T e w':=by
 obtain⟨x,k,⟨h1,h2⟩,h3⟩:=h;exact⟨x,k,⟨hs x h1,h2⟩,h3⟩
def zR (w:World)(e:Ending)(w':World):Prop:=∃A,e=.returned (.tuple #[.nilIface,.iface 193 (pv A 0)])/\w.heap.size<=A/\w'.heap[A]? =some (.cells #[.int .i64 60] 195 (0,0))/\Below w.heap.size w w'
theorem rD (b:Value)(w:World):Calls prog 264 #[b,.int .i64 60] w (zR w):=by
 go_enter func264,ntmps264;go_wp2_with fail;go_ret2;exact⟨w.heap.size,rfl,aH,kH _ _,aW.alloc aH _⟩
def iD (L:List Nat)(y:Sk):Prop:=y=.dist L
def iV (j:Nat)(y:Sk):Prop:=∃R,y=.reg j R
def jZ (j:Nat)(y:Sk):Prop:=∃L,y=.cnt j L
def kA (j:Nat)(y:Sk):Prop:=∃l,y=.hst j l
theorem yF.a {L:List Nat}{e:Ending}(hx:Sk.Ok (.dist L))(h:yF w L e w'):fR w (iD L) e w':=by
 obtain⟨s,cap,rfl,h1,h2,h3,h4,h5,h6⟩:=h;exact⟨.dist L,⟨⟨s,cap⟩,⟨none,0⟩,⟨none,0⟩⟩,⟨rfl,hx⟩,rfl,⟨⟨h5,h1,h2,h3,h4.1⟩,bS.none _,bS.none _⟩,⟨λg o e=>h4.2 g o e,aT.none _,aT.none _⟩,h6⟩
theorem fY.a (hj:1<=j/\j<=4){e:Ending}(h:fY (8-j) (2^(8-j)) (57+j) w e w'):fR w (iV j) e w':=by
 obtain⟨R,hR,rfl,hb⟩:=h;exact⟨.reg j R,⟨⟨none,0⟩,⟨none,0⟩,⟨none,0⟩⟩,⟨⟨R,rfl⟩,hj,hR⟩,rfl,⟨bS.none _,bS.none _,bS.none _⟩,⟨aT.none _,aT.none _,aT.none _⟩,hb⟩
theorem kO.a (hj:j<=3){e:Ending}(h:kO (bM j) (2*bM j) w e w'):fR w (jZ j) e w':=by
 obtain⟨L,hl,hs,A,rfl,hA,hN,hb⟩:=h;have h64:=(pB hj).n;refine⟨.cnt j L,⟨⟨none,0⟩,⟨some ⟨A,0,none⟩,2*bM j⟩,⟨none,0⟩⟩,⟨⟨L,rfl⟩,hj,hs,hl⟩,?_,⟨bS.none _,⟨Rd.aW2 aY hN rfl,by show L.length<=2*bM j;omega,by show 2*bM j<=_;omega,(λh=>by cases h),dJ.some _ _⟩,bS.none _⟩,⟨aT.none _,λg o e=>by cases e;exact hA,aT.none _⟩,hb⟩;show _=Ending.returned (.tuple #[.agg #[.int .i64 2,.int .i64 (bM j:Int),.slice (some ⟨A,0,none⟩) L.length (2*bM j)],.int .i64 0]);rw[hl]
theorem kM.a (hj:j<=3){l:List (Nat×Nat)}(hl:iR (3-j) l){e:Ending}(h:kM (3-j) w l e w'):fR w (kA j) e w':=by
 obtain⟨v,rfl,own,hb⟩:=h;obtain⟨d,rfl,hd,hf⟩:=bS.aXa fW own;exact⟨.hst j l,⟨⟨none,0⟩,⟨none,0⟩,d⟩,⟨⟨l,rfl⟩,hj,hl⟩,rfl,⟨bS.none _,bS.none _,hd⟩,⟨aT.none _,aT.none _,hf⟩,hb⟩
theorem aA8 {f:Nat}(hf:f<=3){l:List (Nat×Nat)}(h:iR f l):∀m:List (Nat×Nat),iR f m->iR f (dP l m):=by
 intro m hm;have h1:=uU h.1 h.2.1 (fU hf h).1 m hm.2.1 (fU hf hm).1 m.length;rw[List.take_length] at h1;refine⟨h1.1,h1.2.1,?_⟩;clear h1;have key:∀(m l:List (Nat×Nat)),(∀x∈l,wE f x.1)->(∀x∈m,wE f x.1)->∀x∈dP l m,wE f x.1:=by
  intro m
  induction m with
  |nil=>exact λl hl _ x hx=>hl x hx
  |cons y m ih=>
   intro l hl hm x hx;refine ih (jU y.1 y.2 l) (λz hz=> ?_) (λz hz=>hm z (by simp[hz])) x hx;rcases oX _ _ _ _ hz with e|hz
   .rw[e];exact hm y (by simp)
   .exact hl z hz
 exact key m l h.2.2 hm.2.2
theorem aK3 (a:Nat)(L:List Nat)(ha:a<=aJ)(h:dK L):dK (gT a L):=λx hx=>by
 rcases(vP a x L).1 hx with rfl|hx
 .exact ha
 .exact h x hx
theorem aJ7 (L:List Nat):∀ps:List Nat,dX L ps<=aJ:=by
 have key:∀(ps:List Nat) (m:Nat),m<=aJ->ps.foldl (λm p=>min m (L.getD p 0)) m<=aJ:=by
  intro ps
  induction ps with
  |nil=>exact λm h=>h
  |cons p ps ih=>exact λm h=>ih _ (dR (Nat.min_le_left _ _) h)
 exact λps=>key ps aJ aH
theorem aGy (L:List Nat)(hx:Sk.Ok (.dist L))(a n:Nat)(ha:a<=aJ)(hn:n<=aJ)(hl:(gT a L).length<=64)(h:aR)(w:World)(hK:bW w (.dist L) h):
  Calls prog 263 #[h.a (.dist L),.int .u64 a] w (fR w (iD (gT a L))):=
 (aOb L hx.1 h.e.s h.e.cap a hx.2.2 hK.e.cap w hK.e.rd).mono λ_ _ h=>by
  rcases h with⟨_,h⟩|⟨h,_⟩
  .exact yF.a ⟨vO a L hx.1,aK3 a L ha hx.2.1,hl⟩ h
  .omega
theorem aIw (L:List Nat)(hx:Sk.Ok (.dist L))(a n:Nat)(ha:a<=aJ)(hn:n<=aJ)(hl:¬(gT a L).length<=64)(h:aR)(w:World)(hK:bW w (.dist L) h):
  Calls prog 263 #[h.a (.dist L),.int .u64 a] w λe w'=>e=.returned (.tuple #[.agg #[.slice none 0 0],.int .i64 60])/\Below w.heap.size w w':=
 (aOb L hx.1 h.e.s h.e.cap a hx.2.2 hK.e.cap w hK.e.rd).mono λ_ _ h=>by
  rcases h with⟨h,_⟩|⟨_,h⟩
  .exact absurd h hl
  .exact h
theorem aL1 (j:Nat)(R:ByteArray)(hx:Sk.Ok (.reg j R))(a n:Nat)(ha:a<=aJ)(hn:n<=aJ)(h:aR)(w:World)(hK:bW w (.reg j R) h):
  Calls prog 292 #[h.a (.reg j R),.int .u64 a] w (fR w (iV j)):=
 (aHx (mG hx.1) R hx.2 a ha w).mono λ_ _ h=>fY.a hx.1 h
theorem aKw (j:Nat)(L:List Nat)(hx:Sk.Ok (.cnt j L))(a n:Nat)(ha:a<=aJ)(hn:n<=aJ)(h:aR)(w:World)(hK:bW w (.cnt j L) h):
  Calls prog 302 #[h.a (.cnt j L),.int .u64 a,.int .u64 n] w (fR w (jZ j)):=by
 show Calls _ _ #[.agg #[.int .i64 2,.int .i64 (bM j:Int),.slice h.c.s L.length h.c.cap],_,_] w _;rw[hx.2.2];exact(aKv (pB hx.1) L hx.2.2 hx.2.1 h.c.s h.c.cap a n ha hn w hK.c.rd).mono λ_ _ h=>kO.a hx.1 h
theorem aM4 (j:Nat)(l:List (Nat×Nat))(hx:Sk.Ok (.hst j l))(a n:Nat)(ha:a<=aJ)(hn:n<=aJ)(h:aR)(w:World)(hK:bW w (.hst j l) h):
  Calls prog 321 #[h.a (.hst j l),.int .u64 a,.int .u64 n] w (fR w (kA j)):=by
 have hf:3-j<=3:=Nat.sub_le _ _;obtain⟨g1,g2⟩:=fU hf hx.2;exact(aK4 hf l hx.2 h.g.s h.g.cap (by omega) hK.g.cap g1 a n ha hn w hK.g.rd).mono λ_ _ h=>kM.a hx.1 (aAx hf a n ha hn hx.2) h
theorem aGb (L:List Nat)(hx:Sk.Ok (.dist L))(h:aR)(w:World)(hK:bW w (.dist L) h):
  Calls prog 266 #[.int .i64 7,.slice h.e.s L.length h.e.cap] w (fR w (iV 1)):=
 (aMl (mG (j:=1) (by omega)) L hx.2.1 h.e.s h.e.cap (by have:=hx.2.2;omega) w hK.e.rd).mono λ_ _ h=>fY.a (j:=1) (by omega) h
theorem aLc (j:Nat)(R:ByteArray)(hx:Sk.Ok (.reg j R))(hj:j<4)(h:aR)(w:World)(hK:bW w (.reg j R) h):
  Calls prog 294 #[h.a (.reg j R)] w (fR w (iV (j+1))):=
 by
 obtain⟨⟨h1,_⟩,hR⟩:=hx;rcases(show j=1\/j=2\/j=3 by omega) with rfl|rfl|rfl
 .exact(mQ (b:=6) (n:=64) (t:=58) (by simp[jA]) (by simp[jA]) R hR w).mono λ_ _ h=>fY.a (j:=2) (by omega) h
 .exact(mQ (b:=5) (n:=32) (t:=59) (by simp[jA]) (by simp[jA]) R hR w).mono λ_ _ h=>fY.a (j:=3) (by omega) h
 .exact(mQ (b:=4) (n:=16) (t:=60) (by simp[jA]) (by simp[jA]) R hR w).mono λ_ _ h=>fY.a (j:=4) (by omega) h
theorem aKt (j:Nat)(L:List Nat)(hx:Sk.Ok (.cnt j L))(hj:j<3)(h:aR)(w:World)(hK:bW w (.cnt j L) h):
  Calls prog 304 #[h.a (.cnt j L)] w (fR w (jZ (j+1))):=by
 show Calls _ _ #[.agg #[.int .i64 2,.int .i64 (bM j:Int),.slice h.c.s L.length h.c.cap]] w _;have hcap:L.length<=h.c.cap:=hK.c.cap;have e:bM j=2*bM (j+1):=by rcases(show j=0\/j=1\/j=2 by omega) with rfl|rfl|rfl<;>rfl
 have hc:rM (bM (j+1)) (bM j):=by rcases(show j=0\/j=1\/j=2 by omega) with rfl|rfl|rfl<;>simp[rM,bM]
 rw[hx.2.2];refine(aC0 hc L hx.2.2 hx.2.1 h.c.s h.c.cap hcap w hK.c.rd).mono λ_ _ h=> ?_;rw[e] at h;exact kO.a (j:=j+1) (by omega) h
theorem aK9 (j:Nat)(l:List (Nat×Nat))(hx:Sk.Ok (.hst j l))(hj:j<3)(h:aR)(w:World)(hK:bW w (.hst j l) h):
  Calls prog 323 #[h.a (.hst j l)] w (fR w (kA (j+1))):=by
 obtain⟨g1,g2⟩:=fU (Nat.sub_le 3 j) hx.2;have e:3-j=3-(j+1)+1:=by omega
 have hx2:=hx.2;show Calls _ _ #[pY (3-j) h.g.s l.length h.g.cap] w _;rw[e] at hx2⊢;refine(aDz (f:=3-(j+1)) (by omega) l hx2 h.g.s h.g.cap (by omega) hK.g.cap g1 w hK.g.rd).mono λ_ _ h=> ?_;obtain⟨l',hl',h⟩:=h;exact kM.a (by omega) hl' h
theorem sU {k:IntKind}{a b:Int}(h:a=b):Ending.returned (.int k a)=.returned (.int k b):=by rw[h]
theorem aKa (L:List Nat)(hx:Sk.Ok (.dist L))(a n:Nat)(ha:a<=aJ)(hn:n<=aJ)(hl:(gT a L).length<=64)(h:aR)(w:World)(hK:bW w (.dist L) h):
  Calls prog 258 #[h.a (.dist L),.agg #[.int .u64 a,.int .u64 n]] w (dU w (iD (gT a L))):=by
 have HI:=aA (λW hW=>aGy L hx a n ha hn hl h W (hK.aWu hW));obtain⟨⟨es,ec⟩,⟨cs,cc⟩,⟨gs,gc⟩⟩:=h;simp only[aR.a] at HI⊢;have st0:=((St.start w).alloc (cs:= #[.slice es L.length ec]) (T:=268)).alloc (cs:= #[.int .u64 a,.int .u64 n]) (T:=45);simp only[World.size_alloc] at st0;clear hK hx ha hn;go_enter func258,ntmps258;go_wp2_with fail;refine(HI.out _ st0.below).mono ?_;rintro e w1 ⟨y,⟨⟨es9,ec9⟩,⟨cs9,cc9⟩,⟨gs9,gc9⟩⟩,⟨hy,hok⟩,rfl,hd,hf,hb1⟩;cases hy;simp only[aR.a];have st1:=st0.to hb1;have HD:=aA (hd.aWu ((Below.refl w1.heap.size w1).alloc aH (.cells #[.slice es9 (gT a L).length ec9] 94)));have HF:=aA (hf.mono st0.below.size);have HO:=aA hok;have hb:=(st1.alloc (cs:= #[.slice es9 (gT a L).length ec9]) (T:=94)).below;clear st0 hb1 hd hf HI st1 hok;go_wp2_with fail;refine(dG _ _).mono ?_;rintro e w2 ⟨rfl,rfl⟩;go_wp2_with fail;go_ret2;exact⟨_,⟨⟨es9,ec9⟩,⟨cs9,cc9⟩,⟨gs9,gc9⟩⟩,⟨rfl,HO.out⟩,rfl,HD.out,HF.out,hb⟩
theorem aKe (L:List Nat)(hx:Sk.Ok (.dist L))(a n:Nat)(ha:a<=aJ)(hn:n<=aJ)(hl:¬(gT a L).length<=64)(h:aR)(w:World)(hK:bW w (.dist L) h):
  Calls prog 258 #[h.a (.dist L),.agg #[.int .u64 a,.int .u64 n]] w (zR w):=by
 have HI:=aA (λW hW=>aIw L hx a n ha hn hl h W (hK.aWu hW));obtain⟨⟨es,ec⟩,⟨cs,cc⟩,⟨gs,gc⟩⟩:=h;simp only[aR.a] at HI⊢;have st0:=((St.start w).alloc (cs:= #[.slice es L.length ec]) (T:=268)).alloc (cs:= #[.int .u64 a,.int .u64 n]) (T:=45);simp only[World.size_alloc] at st0;clear hK hx ha hn;go_enter func258,ntmps258;go_wp2_with fail;refine(HI.out _ st0.below).mono ?_;rintro e w1 ⟨rfl,hb1⟩;have hb:=((st0.to hb1).alloc (cs:= #[.slice none 0 0]) (T:=94)).below;clear st0 hb1 HI;go_wp2_with fail;refine(rD _ _).mono ?_;rintro e w2 ⟨A,rfl,hA,hN,hb2⟩;have hbb:=hb.trans (hb2.mono hb.size);have hA':=dR hb.size hA;go_wp2_with fail;go_ret2;exact⟨A,rfl,hA',hN,hbb⟩
theorem aMi (L:List Nat)(hx:Sk.Ok (.dist L))(h:aR)(w:World)(hK:bW w (.dist L) h):
  Calls prog 261 #[h.a (.dist L)] w (dU w (iV 1)):=by
 have HI:=aA (λW hW=>aGb L hx h W (hK.aWu hW));obtain⟨⟨es,ec⟩,⟨cs,cc⟩,⟨gs,gc⟩⟩:=h;simp only[aR.a] at HI⊢;have st0:=(St.start w).alloc (cs:= #[.slice es L.length ec]) (T:=268);clear hK hx;go_enter func261,ntmps261;go_wp2_with fail;refine(HI.out _ st0.below).mono ?_;rintro e w1 ⟨y,⟨⟨es9,ec9⟩,⟨cs9,cc9⟩,⟨gs9,gc9⟩⟩,⟨⟨R9,hy⟩,hok⟩,rfl,hd,hf,hb1⟩;cases hy;simp only[aR.a];have st1:=st0.to hb1;have HD:=aA (hd.aWu ((Below.refl w1.heap.size w1).alloc aH (.cells #[.int .i64 7,.string R9] 96)));have HF:=aA (hf.mono st0.below.size);have HO:=aA hok;have hb:=(st1.alloc (cs:= #[.int .i64 7,.string R9]) (T:=96)).below;clear st0 hb1 hd hf HI st1 hok;go_wp2_with fail;refine(dG _ _).mono ?_;rintro e w2 ⟨rfl,rfl⟩;go_wp2_with fail;go_ret2;exact⟨_,⟨⟨es9,ec9⟩,⟨cs9,cc9⟩,⟨gs9,gc9⟩⟩,⟨⟨_,rfl⟩,HO.out⟩,rfl,HD.out,HF.out,hb⟩
theorem aH2 (L:List Nat)(hx:Sk.Ok (.dist L))(h:aR)(w:World):
  Calls prog 260 #[h.a (.dist L)] w λe w'=>e=.returned (.int .i64 (Sk.cost (.dist L)-16:Nat))/\Below w.heap.size w w':=by
 have hlen:L.length<=1001:=by have:=(show L.length<=64 from hx.len.1);omega
 obtain⟨⟨es,ec⟩,⟨cs,cc⟩,⟨gs,gc⟩⟩:=h;simp only[aR.a];have hb:=(Below.refl w.heap.size w).alloc aH (.cells #[.slice es L.length ec] 268);have hc:Sk.cost (.dist L)-16=8*L.length:=Nat.add_sub_cancel _ _;rw[hc];clear hc hx;go_enter func260,ntmps260;go_wp2_with fail;go_ret;exact⟨sU (by push_cast;omega),hb⟩
theorem aMs (L:List Nat)(hx:Sk.Ok (.dist L))(a:Nat)(ha:a<=aJ)(h:aR)(w:World)(hK:bW w (.dist L) h):
  Calls prog 259 #[h.a (.dist L),.int .u64 a] w λe w'=>(∃z:Nat,(z<=aJ/\∀M,(.dist L)=Sk.dist M->z=M.length)/\e=.returned (.int .u64 (z:Nat)))/\Below w.heap.size w w':=by
 obtain⟨⟨es,ec⟩,⟨cs,cc⟩,⟨gs,gc⟩⟩:=h;simp only[aR.a];have st0:=(St.start w).alloc (cs:= #[.slice es L.length ec]) (T:=268);have HQ:=aA (λW hW=>aDq L hx.1 es ec (by have:=hx.2.2;omega) hK.e.cap W (hK.e.rd.aWu aH hW));have HM:=aA (show L.length<=aJ from by have:=hx.2.2;show L.length<=18446744073709551615;omega);clear hK;go_enter func259,ntmps259;go_wp2_with fail;refine(HQ.out _ st0.below).mono ?_;rintro e w1 ⟨rfl,hb1⟩;have hb:=(st0.to hb1).below;clear HQ;go_wp2_with fail;go_ret;exact⟨⟨L.length,⟨HM.out,λM hM=>by injection hM with h;rw[h]⟩,rfl⟩,hb⟩
theorem aPc (j:Nat)(R:ByteArray)(hx:Sk.Ok (.reg j R))(a n:Nat)(ha:a<=aJ)(hn:n<=aJ)(h:aR)(w:World)(hK:bW w (.reg j R) h):
  Calls prog 287 #[h.a (.reg j R),.agg #[.int .u64 a,.int .u64 n]] w (dU w (iV j)):=by
 have HI:=aA (λW hW=>aL1 j R hx a n ha hn h W (hK.aWu hW));obtain⟨⟨es,ec⟩,⟨cs,cc⟩,⟨gs,gc⟩⟩:=h;simp only[aR.a] at HI⊢;have st0:=((St.start w).alloc (cs:= #[.int .i64 ((8-j:Nat):Int),.string R]) (T:=271)).alloc (cs:= #[.int .u64 a,.int .u64 n]) (T:=45);simp only[World.size_alloc] at st0;clear hK hx ha hn;go_enter func287,ntmps287;go_wp2_with fail;refine(HI.out _ st0.below).mono ?_;rintro e w1 ⟨y,⟨⟨es9,ec9⟩,⟨cs9,cc9⟩,⟨gs9,gc9⟩⟩,⟨⟨R9,hy⟩,hok⟩,rfl,hd,hf,hb1⟩;cases hy;simp only[aR.a];have st1:=st0.to hb1;have HD:=aA (hd.aWu ((Below.refl w1.heap.size w1).alloc aH (.cells #[.int .i64 ((8-j:Nat):Int),.string R9] 96)));have HF:=aA (hf.mono st0.below.size);have HO:=aA hok;have hb:=(st1.alloc (cs:= #[.int .i64 ((8-j:Nat):Int),.string R9]) (T:=96)).below;clear st0 hb1 hd hf HI st1 hok;go_wp2_with fail;refine(dG _ _).mono ?_;rintro e w2 ⟨rfl,rfl⟩;go_wp2_with fail;go_ret2;exact⟨_,⟨⟨es9,ec9⟩,⟨cs9,cc9⟩,⟨gs9,gc9⟩⟩,⟨⟨_,rfl⟩,HO.out⟩,rfl,HD.out,HF.out,hb⟩
theorem aP9 (j:Nat)(R:ByteArray)(hx:Sk.Ok (.reg j R))(hj:j<4)(h:aR)(w:World)(hK:bW w (.reg j R) h):
  Calls prog 290 #[h.a (.reg j R)] w (dU w (iV (j+1))):=by
 have HI:=aA (λW hW=>aLc j R hx hj h W (hK.aWu hW));obtain⟨⟨es,ec⟩,⟨cs,cc⟩,⟨gs,gc⟩⟩:=h;simp only[aR.a] at HI⊢;have st0:=(St.start w).alloc (cs:= #[.int .i64 ((8-j:Nat):Int),.string R]) (T:=271);clear hK hx;go_enter func290,ntmps290;go_wp2_with fail;refine(HI.out _ st0.below).mono ?_;rintro e w1 ⟨y,⟨⟨es9,ec9⟩,⟨cs9,cc9⟩,⟨gs9,gc9⟩⟩,⟨⟨R9,hy⟩,hok⟩,rfl,hd,hf,hb1⟩;cases hy;simp only[aR.a];obtain⟨cj,hcj⟩:∃cj,((8-(j+1):Nat):Int)=cj:=⟨_,rfl⟩;rw[hcj];have HCJ:=aA hcj;clear hcj;have st1:=st0.to hb1;have HD:=aA (hd.aWu ((Below.refl w1.heap.size w1).alloc aH (.cells #[.int .i64 cj,.string R9] 96)));have HF:=aA (hf.mono st0.below.size);have HO:=aA hok;have hb:=(st1.alloc (cs:= #[.int .i64 cj,.string R9]) (T:=96)).below;clear st0 hb1 hd hf HI st1 hok;go_wp2_with fail;refine(dG _ _).mono ?_;rintro e w2 ⟨rfl,rfl⟩;go_wp2_with fail;go_ret2;exact⟨_,⟨⟨es9,ec9⟩,⟨cs9,cc9⟩,⟨gs9,gc9⟩⟩,⟨⟨_,rfl⟩,HO.out⟩,by rw[<-HCJ.out];rfl,HD.out,HF.out,hb⟩
theorem aL3 (j:Nat)(R:ByteArray)(hx:Sk.Ok (.reg j R))(h:aR)(w:World):
  Calls prog 289 #[h.a (.reg j R)] w λe w'=>e=.returned (.int .i64 (Sk.cost (.reg j R)-16:Nat))/\Below w.heap.size w w':=by
 have hlen:R.size<=1001:=by have h1:=(mG hx.1).bounds;have h2:R.size=2^(8-j):=hx.2.1;omega
 obtain⟨⟨es,ec⟩,⟨cs,cc⟩,⟨gs,gc⟩⟩:=h;simp only[aR.a];have hb:=(Below.refl w.heap.size w).alloc aH (.cells #[.int .i64 ((8-j:Nat):Int),.string R] 271);have hc:Sk.cost (.reg j R)-16=R.size:=Nat.add_sub_cancel _ _;rw[hc];clear hc hx;go_enter func289,ntmps289;go_wp2_with fail;go_ret;exact⟨sU (by push_cast;omega),hb⟩
theorem aN6 (j:Nat)(R:ByteArray)(hx:Sk.Ok (.reg j R))(a:Nat)(ha:a<=aJ)(h:aR)(w:World)(hK:bW w (.reg j R) h):
  Calls prog 288 #[h.a (.reg j R),.int .u64 a] w λe w'=>(∃z:Nat,(z<=aJ/\∀M,(.reg j R)=Sk.dist M->z=M.length)/\e=.returned (.int .u64 (z:Nat)))/\Below w.heap.size w w':=by
 obtain⟨⟨es,ec⟩,⟨cs,cc⟩,⟨gs,gc⟩⟩:=h;simp only[aR.a];have st0:=(St.start w).alloc (cs:= #[.int .i64 ((8-j:Nat):Int),.string R]) (T:=271);have HQ:=aA (λW (hW:Below w.heap.size w W)=>aBv (mG hx.1) R hx.2 W);have HM:=aA (True.intro);clear hK;go_enter func288,ntmps288;go_wp2_with fail;refine(HQ.out _ st0.below).mono ?_;rintro e w1 ⟨⟨z,hz,rfl⟩,hb1⟩;have hb:=(st0.to hb1).below;clear HQ;go_wp2_with fail;go_ret;exact⟨⟨_,⟨hz,λM hM=>by cases hM⟩,rfl⟩,hb⟩
theorem aOr (j:Nat)(L:List Nat)(hx:Sk.Ok (.cnt j L))(a n:Nat)(ha:a<=aJ)(hn:n<=aJ)(h:aR)(w:World)(hK:bW w (.cnt j L) h):
  Calls prog 297 #[h.a (.cnt j L),.agg #[.int .u64 a,.int .u64 n]] w (dU w (jZ j)):=by
 have HI:=aA (λW hW=>aKw j L hx a n ha hn h W (hK.aWu hW));obtain⟨⟨es,ec⟩,⟨cs,cc⟩,⟨gs,gc⟩⟩:=h;simp only[aR.a] at HI⊢;have st0:=((St.start w).alloc (cs:= #[.int .i64 2,.int .i64 (bM j:Int),.slice cs L.length cc]) (T:=272)).alloc (cs:= #[.int .u64 a,.int .u64 n]) (T:=45);simp only[World.size_alloc] at st0;clear hK hx ha hn;go_enter func297,ntmps297;go_wp2_with fail;refine(HI.out _ st0.below).mono ?_;rintro e w1 ⟨y,⟨⟨es9,ec9⟩,⟨cs9,cc9⟩,⟨gs9,gc9⟩⟩,⟨⟨L9,hy⟩,hok⟩,rfl,hd,hf,hb1⟩;cases hy;simp only[aR.a];have st1:=st0.to hb1;have HD:=aA (hd.aWu ((Below.refl w1.heap.size w1).alloc aH (.cells #[.int .i64 2,.int .i64 (bM j:Int),.slice cs9 L9.length cc9] 98)));have HF:=aA (hf.mono st0.below.size);have HO:=aA hok;have hb:=(st1.alloc (cs:= #[.int .i64 2,.int .i64 (bM j:Int),.slice cs9 L9.length cc9]) (T:=98)).below;clear st0 hb1 hd hf HI st1 hok;go_wp2_with fail;refine(dG _ _).mono ?_;rintro e w2 ⟨rfl,rfl⟩;go_wp2_with fail;go_ret2;exact⟨_,⟨⟨es9,ec9⟩,⟨cs9,cc9⟩,⟨gs9,gc9⟩⟩,⟨⟨_,rfl⟩,HO.out⟩,rfl,HD.out,HF.out,hb⟩
theorem aM7 (j:Nat)(L:List Nat)(hx:Sk.Ok (.cnt j L))(hj:j<3)(h:aR)(w:World)(hK:bW w (.cnt j L) h):
  Calls prog 300 #[h.a (.cnt j L)] w (dU w (jZ (j+1))):=by
 have HI:=aA (λW hW=>aKt j L hx hj h W (hK.aWu hW));obtain⟨⟨es,ec⟩,⟨cs,cc⟩,⟨gs,gc⟩⟩:=h;simp only[aR.a] at HI⊢;have st0:=(St.start w).alloc (cs:= #[.int .i64 2,.int .i64 (bM j:Int),.slice cs L.length cc]) (T:=272);clear hK hx;go_enter func300,ntmps300;go_wp2_with fail;refine(HI.out _ st0.below).mono ?_;rintro e w1 ⟨y,⟨⟨es9,ec9⟩,⟨cs9,cc9⟩,⟨gs9,gc9⟩⟩,⟨⟨L9,hy⟩,hok⟩,rfl,hd,hf,hb1⟩;cases hy;simp only[aR.a];have st1:=st0.to hb1;have HD:=aA (hd.aWu ((Below.refl w1.heap.size w1).alloc aH (.cells #[.int .i64 2,.int .i64 (bM (j+1):Int),.slice cs9 L9.length cc9] 98)));have HF:=aA (hf.mono st0.below.size);have HO:=aA hok;have hb:=(st1.alloc (cs:= #[.int .i64 2,.int .i64 (bM (j+1):Int),.slice cs9 L9.length cc9]) (T:=98)).below;clear st0 hb1 hd hf HI st1 hok;go_wp2_with fail;refine(dG _ _).mono ?_;rintro e w2 ⟨rfl,rfl⟩;go_wp2_with fail;go_ret2;exact⟨_,⟨⟨es9,ec9⟩,⟨cs9,cc9⟩,⟨gs9,gc9⟩⟩,⟨⟨_,rfl⟩,HO.out⟩,rfl,HD.out,HF.out,hb⟩
theorem aLz (j:Nat)(L:List Nat)(hx:Sk.Ok (.cnt j L))(h:aR)(w:World):
  Calls prog 299 #[h.a (.cnt j L)] w λe w'=>e=.returned (.int .i64 (Sk.cost (.cnt j L)-16:Nat))/\Below w.heap.size w w':=by
 have hlen:L.length<=1001:=by have:=(show L.length<=64 from hx.len.2.1);omega
 obtain⟨⟨es,ec⟩,⟨cs,cc⟩,⟨gs,gc⟩⟩:=h;simp only[aR.a];have hb:=(Below.refl w.heap.size w).alloc aH (.cells #[.int .i64 2,.int .i64 (bM j:Int),.slice cs L.length cc] 272);have hc:Sk.cost (.cnt j L)-16=8*L.length:=Nat.add_sub_cancel _ _;rw[hc];clear hc hx;go_enter func299,ntmps299;go_wp2_with fail;go_ret;exact⟨sU (by push_cast;omega),hb⟩
theorem aO7 (j:Nat)(L:List Nat)(hx:Sk.Ok (.cnt j L))(a:Nat)(ha:a<=aJ)(h:aR)(w:World)(hK:bW w (.cnt j L) h):
  Calls prog 298 #[h.a (.cnt j L),.int .u64 a] w λe w'=>(∃z:Nat,(z<=aJ/\∀M,(.cnt j L)=Sk.dist M->z=M.length)/\e=.returned (.int .u64 (z:Nat)))/\Below w.heap.size w w':=by
 obtain⟨⟨es,ec⟩,⟨cs,cc⟩,⟨gs,gc⟩⟩:=h;simp only[aR.a];have hle:=hx.2.2;rw[hle];have st0:=(St.start w).alloc (cs:= #[.int .i64 2,.int .i64 (bM j:Int),.slice cs (2*bM j) cc]) (T:=272);have HQ:=aA (λW hW=>aDs (pB hx.1) L hx.2.2 hx.2.1 cs cc a (by have:L.length<=cc:=hK.c.cap;have:=hx.2.2;omega) ha W (hK.c.rd.aWu aH hW));have HM:=aA (aJ7 L (gX (bM j) a));clear hK;go_enter func298,ntmps298;go_wp2_with fail;refine(HQ.out _ st0.below).mono ?_;rintro e w1 ⟨rfl,hb1⟩;have hb:=(st0.to hb1).below;clear HQ;go_wp2_with fail;go_ret;exact⟨⟨_,⟨HM.out,λM hM=>by cases hM⟩,rfl⟩,hb⟩
theorem aPr (j:Nat)(L:List (Nat×Nat))(hx:Sk.Ok (.hst j L))(a n:Nat)(ha:a<=aJ)(hn:n<=aJ)(h:aR)(w:World)(hK:bW w (.hst j L) h):
  Calls prog 316 #[h.a (.hst j L),.agg #[.int .u64 a,.int .u64 n]] w (dU w (kA j)):=by
 have HI:=aA (λW hW=>aM4 j L hx a n ha hn h W (hK.aWu hW));obtain⟨⟨es,ec⟩,⟨cs,cc⟩,⟨gs,gc⟩⟩:=h;simp only[aR.a] at HI⊢;have st0:=((St.start w).alloc (cs:= #[.int .i64 ((3-j:Nat):Int),.slice gs L.length gc]) (T:=274)).alloc (cs:= #[.int .u64 a,.int .u64 n]) (T:=45);simp only[World.size_alloc] at st0;clear hK hx ha hn;go_enter func316,ntmps316;go_wp2_with fail;refine(HI.out _ st0.below).mono ?_;rintro e w1 ⟨y,⟨⟨es9,ec9⟩,⟨cs9,cc9⟩,⟨gs9,gc9⟩⟩,⟨⟨L9,hy⟩,hok⟩,rfl,hd,hf,hb1⟩;cases hy;simp only[aR.a];have st1:=st0.to hb1;have HD:=aA (hd.aWu ((Below.refl w1.heap.size w1).alloc aH (.cells #[.int .i64 ((3-j:Nat):Int),.slice gs9 L9.length gc9] 101)));have HF:=aA (hf.mono st0.below.size);have HO:=aA hok;have hb:=(st1.alloc (cs:= #[.int .i64 ((3-j:Nat):Int),.slice gs9 L9.length gc9]) (T:=101)).below;clear st0 hb1 hd hf HI st1 hok;go_wp2_with fail;refine(dG _ _).mono ?_;rintro e w2 ⟨rfl,rfl⟩;go_wp2_with fail;go_ret2;exact⟨_,⟨⟨es9,ec9⟩,⟨cs9,cc9⟩,⟨gs9,gc9⟩⟩,⟨⟨_,rfl⟩,HO.out⟩,rfl,HD.out,HF.out,hb⟩
theorem aNy (j:Nat)(L:List (Nat×Nat))(hx:Sk.Ok (.hst j L))(hj:j<3)(h:aR)(w:World)(hK:bW w (.hst j L) h):
  Calls prog 319 #[h.a (.hst j L)] w (dU w (kA (j+1))):=by
 have HI:=aA (λW hW=>aK9 j L hx hj h W (hK.aWu hW));obtain⟨⟨es,ec⟩,⟨cs,cc⟩,⟨gs,gc⟩⟩:=h;simp only[aR.a] at HI⊢;have st0:=(St.start w).alloc (cs:= #[.int .i64 ((3-j:Nat):Int),.slice gs L.length gc]) (T:=274);clear hK hx;go_enter func319,ntmps319;go_wp2_with fail;refine(HI.out _ st0.below).mono ?_;rintro e w1 ⟨y,⟨⟨es9,ec9⟩,⟨cs9,cc9⟩,⟨gs9,gc9⟩⟩,⟨⟨L9,hy⟩,hok⟩,rfl,hd,hf,hb1⟩;cases hy;simp only[aR.a];obtain⟨cj,hcj⟩:∃cj,((3-(j+1):Nat):Int)=cj:=⟨_,rfl⟩;rw[hcj];have HCJ:=aA hcj;clear hcj;have st1:=st0.to hb1;have HD:=aA (hd.aWu ((Below.refl w1.heap.size w1).alloc aH (.cells #[.int .i64 cj,.slice gs9 L9.length gc9] 101)));have HF:=aA (hf.mono st0.below.size);have HO:=aA hok;have hb:=(st1.alloc (cs:= #[.int .i64 cj,.slice gs9 L9.length gc9]) (T:=101)).below;clear st0 hb1 hd hf HI st1 hok;go_wp2_with fail;refine(dG _ _).mono ?_;rintro e w2 ⟨rfl,rfl⟩;go_wp2_with fail;go_ret2;exact⟨_,⟨⟨es9,ec9⟩,⟨cs9,cc9⟩,⟨gs9,gc9⟩⟩,⟨⟨_,rfl⟩,HO.out⟩,by rw[<-HCJ.out];rfl,HD.out,HF.out,hb⟩
theorem aJ3 (j:Nat)(L:List (Nat×Nat))(hx:Sk.Ok (.hst j L))(h:aR)(w:World):
  Calls prog 318 #[h.a (.hst j L)] w λe w'=>e=.returned (.int .i64 (Sk.cost (.hst j L)-16:Nat))/\Below w.heap.size w w':=by
 have hlen:L.length<=1001:=by have:=(show L.length<=1001 from hx.len.2.2);omega
 obtain⟨⟨es,ec⟩,⟨cs,cc⟩,⟨gs,gc⟩⟩:=h;simp only[aR.a];have hb:=(Below.refl w.heap.size w).alloc aH (.cells #[.int .i64 ((3-j:Nat):Int),.slice gs L.length gc] 274);have hc:Sk.cost (.hst j L)-16=16*L.length:=Nat.add_sub_cancel _ _;rw[hc];clear hc hx;go_enter func318,ntmps318;go_wp2_with fail;go_ret;exact⟨sU (by push_cast;omega),hb⟩
theorem aOo (j:Nat)(L:List (Nat×Nat))(hx:Sk.Ok (.hst j L))(a:Nat)(ha:a<=aJ)(h:aR)(w:World)(hK:bW w (.hst j L) h):
  Calls prog 317 #[h.a (.hst j L),.int .u64 a] w λe w'=>(∃z:Nat,(z<=aJ/\∀M,(.hst j L)=Sk.dist M->z=M.length)/\e=.returned (.int .u64 (z:Nat)))/\Below w.heap.size w w':=by
 obtain⟨⟨es,ec⟩,⟨cs,cc⟩,⟨gs,gc⟩⟩:=h;simp only[aR.a];have st0:=(St.start w).alloc (cs:= #[.int .i64 ((3-j:Nat):Int),.slice gs L.length gc]) (T:=274);have HQ:=aA (λW hW=>aGf (Nat.sub_le 3 j) L hx.2 gs gc (by have:=(fU (Nat.sub_le 3 j) hx.2).2;omega) hK.g.cap a ha W (hK.g.rd.aWu aH hW));have HM:=aA (True.intro);clear hK;go_enter func317,ntmps317;go_wp2_with fail;refine(HQ.out _ st0.below).mono ?_;rintro e w1 ⟨⟨z,hz,rfl⟩,hb1⟩;have hb:=(st0.to hb1).below;clear HQ;go_wp2_with fail;go_ret;exact⟨⟨_,⟨hz,λM hM=>by cases hM⟩,rfl⟩,hb⟩
end
section
variable {a:Value}
def eU (b:Nat)(W W':World):Prop:=(∀k,k≠b->W'.heap[k]? =W.heap[k]?)/\W'.heap.size=W.heap.size
theorem eU.refl (b:Nat)(W:World):eU b W W:=⟨λ_ _=>rfl,rfl⟩
theorem eU.set {b o:Nat}{W W':World}(h:eU b W W')(v:Value):eU b W (W'.setCell ⟨b,o,.none⟩ v):=
 ⟨λk hk=>(Below.heap_setCell W' ⟨b,o,.none⟩ v k hk).trans (h.1 k hk),by rw[<-h.2];simp[World.setCell]⟩
def NoU (cs:Array Value):Prop:=∀o n:Nat,cs[o]? ≠some (.int .u64 n)
theorem bS.aWz {α:Type}{k:Nat}{enc:α->List Value}(henc:∀x,∃(j n:Nat),(enc x)[j]? =some (.int .u64 n)){W W':World}{h:Hd}{L:List α}(r:bS k enc W h L){b:Nat}{cs:Array Value}{T:TypeId}(hb:W.heap[b]? =some (.cells cs T (0,0)))(hn:NoU cs)(ho:eU b W W'):bS k enc W' h L:=by
 refine⟨λi x hx=> ?_,r.cap,r.max,r.nil,r.plain⟩;obtain⟨g,o,e,hg,hc⟩:=r.rd i x hx;obtain⟨j,n,hj⟩:=henc x;have hne:g≠b:=by
  rintro rfl;have:=hc j _ hj;rw[aE hb] at this;exact hn _ _ this
 refine⟨g,o,e,by rw[ho.2];exact hg,λj u hu=> ?_⟩;rw[<-hc j u hu];simp only[World.cell?,ho.1 g hne]
theorem aPm (n:Nat):∃j m:Nat,(cM n)[j]? =some (.int .u64 m):=⟨0,n,rfl⟩
theorem aSz (x:Nat×Nat):∃j m:Nat,(iS x)[j]? =some (.int .u64 m):=⟨1,x.2,rfl⟩
theorem bW.aWz {W W':World}{x:Sk}{h:aR}(r:bW W x h){b:Nat}{cs:Array Value}{T:TypeId}(hb:W.heap[b]? =some (.cells cs T (0,0)))(hn:NoU cs)(ho:eU b W W'):bW W' x h:=
 ⟨r.e.aWz aPm hb hn ho,r.c.aWz aPm hb hn ho,r.g.aWz aSz hb hn ho⟩
theorem NoU.one (ha:∀n:Nat,a≠.int .u64 n):NoU #[a]:=by
 intro o n h
 match o with
 |0=>simp at h;exact ha n h
 |o+1=>simp at h
theorem NoU.two {b:Value}(ha:∀n:Nat,a≠.int .u64 n)(hb:∀n:Nat,b≠.int .u64 n):NoU #[a,b]:=by
 intro o n h
 match o with
 |0=>simp at h;exact ha n h
 |1=>simp at h;exact hb n h
 |o+2=>simp at h
theorem NoU.three {b c:Value}(ha:∀n:Nat,a≠.int .u64 n)(hb:∀n:Nat,b≠.int .u64 n)(hc:∀n:Nat,c≠.int .u64 n):NoU #[a,b,c]:=by
 intro o n h
 match o with
 |0=>simp at h;exact ha n h
 |1=>simp at h;exact hb n h
 |2=>simp at h;exact hc n h
 |o+3=>simp at h
theorem aB9 (L M:List Nat)(hx:Sk.Ok (.dist L))(hy:Sk.Ok (.dist M))(hl:(aO L M).length<=64)(h k:aR)(w:World)(hK:bW w (.dist L) h)(hK':bW w (.dist M) k):
  Calls prog 267 #[h.a (.dist L),k.a (.dist M)] w (fR w (iD (aO L M))):=
 (aFo L M hx.1 hy.1 h.e.s k.e.s h.e.cap k.e.cap hx.2.2 hy.2.2 hK.e.cap hK'.e.cap w hK.e.rd hK'.e.rd).mono λ_ _ h=>by
  rcases h with⟨_,h⟩|⟨h,_⟩
  .exact yF.a ⟨qX L hx.1 M,λx hx'=>((aIx x M L).1 hx').elim (hx.2.1 x) (hy.2.1 x),hl⟩ h
  .omega
theorem aBb (L M:List Nat)(hx:Sk.Ok (.dist L))(hy:Sk.Ok (.dist M))(hl:¬(aO L M).length<=64)(h k:aR)(w:World)(hK:bW w (.dist L) h)(hK':bW w (.dist M) k):
  Calls prog 267 #[h.a (.dist L),k.a (.dist M)] w λe w'=>e=.returned (.tuple #[.agg #[.slice none 0 0],.int .i64 60])/\Below w.heap.size w w':=
 (aFo L M hx.1 hy.1 h.e.s k.e.s h.e.cap k.e.cap hx.2.2 hy.2.2 hK.e.cap hK'.e.cap w hK.e.rd hK'.e.rd).mono λ_ _ h=>by
  rcases h with⟨h,_⟩|⟨_,h⟩
  .exact absurd h hl
  .exact h
theorem aDj (j:Nat)(R Q:ByteArray)(hx:Sk.Ok (.reg j R))(hy:Sk.Ok (.reg j Q))(h k:aR)(w:World)(hK:bW w (.reg j R) h)(hK':bW w (.reg j Q) k):
  Calls prog 295 #[h.a (.reg j R),k.a (.reg j Q)] w (fR w (iV j)):=
 (aCo (mG hx.1) R hx.2 Q hy.2 w).mono λ_ _ h=>fY.a hx.1 h
theorem aDh (j:Nat)(L M:List Nat)(hx:Sk.Ok (.cnt j L))(hy:Sk.Ok (.cnt j M))(h k:aR)(w:World)(hK:bW w (.cnt j L) h)(hK':bW w (.cnt j M) k):
  Calls prog 305 #[h.a (.cnt j L),k.a (.cnt j M)] w (fR w (jZ j)):=by
 show Calls _ _ #[.agg #[.int .i64 2,.int .i64 (bM j:Int),.slice h.c.s L.length h.c.cap],.agg #[.int .i64 2,.int .i64 (bM j:Int),.slice k.c.s M.length k.c.cap]] w _;have hd:=hK'.c.cap;have e1:=hx.2.2;have e2:=hy.2.2;rw[e1,e2];exact(aDr (pB hx.1) L M e1 hx.2.1 e2 hy.2.1 h.c.s k.c.s h.c.cap k.c.cap hd w hK.c.rd hK'.c.rd).mono λ_ _ h=>kO.a hx.1 h
theorem aEk (j:Nat)(L M:List (Nat×Nat))(hx:Sk.Ok (.hst j L))(hy:Sk.Ok (.hst j M))(h k:aR)(w:World)(hK:bW w (.hst j L) h)(hK':bW w (.hst j M) k):
  Calls prog 324 #[h.a (.hst j L),k.a (.hst j M)] w (fR w (kA j)):=by
 have hf:3-j<=3:=Nat.sub_le _ _;obtain⟨g1,g2⟩:=fU hf hx.2;obtain⟨g3,g4⟩:=fU hf hy.2;exact(aEd hf L M hx.2 hy.2 h.g.s k.g.s h.g.cap k.g.cap (by omega) (by omega) hK.g.cap hK'.g.cap g1 g3 w hK.g.rd hK'.g.rd).mono λ_ _ h=>kM.a hx.1 (aA8 hf hx.2 M hy.2) h
def jB (B:Nat)(S:Sk->Prop):Value->World->Prop:=λv W=>∃(x:Sk) (h:aR),(S x/\x.Ok)/\v=.tuple #[h.a x,.int .i64 0]/\bW W x h/\cQ B h
theorem iO (B:Nat)(S:Sk->Prop):bO (jB B S):=λ_ _ _ ⟨x,h,h0,h1,h2,h3⟩ hb=>⟨x,h,h0,h1,h2.aWu hb,h3⟩
def aP3 (B:Nat)(S:Sk->Prop):Value->World->Prop:=λv W=>∃(x:Sk) (h:aR),(S x/\x.Ok)/\v=h.a x/\bW W x h/\cQ B h
theorem sV (B:Nat)(S:Sk->Prop):bO (aP3 B S):=λ_ _ _ ⟨x,h,h0,h1,h2,h3⟩ hb=>⟨x,h,h0,h1,h2.aWu hb,h3⟩
theorem aD1 (L M:List Nat)(hx:Sk.Ok (.dist L))(hy:Sk.Ok (.dist M))(hl:(aO L M).length<=64)(h k:aR)(w:World)(hK:bW w (.dist L) h)(hK':bW w (.dist M) k):
  Calls prog 262 #[h.a (.dist L),k.b (.dist M)] w (dU w (iD (aO L M))):=by
 have HI:=aA (λW hW=>aB9 L M hx hy hl h k W (hK.aWu hW) (hK'.aWu hW));obtain⟨⟨es,ec⟩,⟨cs,cc⟩,⟨gs,gc⟩⟩:=h;obtain⟨⟨es2,ec2⟩,⟨cs2,cc2⟩,⟨gs2,gc2⟩⟩:=k;simp only[aR.a] at HI;show Calls prog 262 #[.agg #[.slice es L.length ec],.iface 268 (.agg #[.slice es2 M.length ec2])] w (dU w (iD (aO L M)));have st0:=(St.start w).alloc (cs:= #[.slice es L.length ec]) (T:=268);clear hK hK' hx hy;go_enter func262,ntmps262;go_wp2_with fail;refine rE st0 10 [8] [.val (pv w.heap.size 0),.val (.agg #[.slice es L.length ec]),.val (.iface 268 (.agg #[.slice es2 M.length ec2])),.val (.agg #[.slice es2 M.length ec2]),.val (.agg #[.slice es2 M.length ec2]),.fct (jB w.heap.size (iD (aO L M))) (iO _ _),.fct (jB w.heap.size (iD (aO L M))) (iO _ _),.fct (aP3 w.heap.size (iD (aO L M))) (sV _ _),.val (.int .i64 0),.fct (wY w.heap.size #[.slice none 0 0] 94) (lU _ _ _)] ?spec ?late ?endd
 case spec=>
  refine⟨?_,?_,?_,?_,?_,?_,?_,?_,?_,?_,trivial⟩
  all_goals(intro ρ W kc kf hW sW rl hu hd;simp only[aI] at rl)
  have u2:ρ (.tmp 2)=pv w.heap.size 0:=cR hu 2;rotate_left;have u9:ρ (.tmp 9)=_:=aK hd 0 9;rotate_left;have u1:ρ (.tmp 1)=.iface 268 (.agg #[.slice es2 M.length ec2]):=cR hu 1;rotate_left;have u11:ρ (.tmp 11)=_:=aK hd 2 11;rotate_left;have u12:ρ (.tmp 12)=_:=aK hd 3 12;rotate_left
  .have u10:ρ (.tmp 10)=_:=aK hd 1 10;have u13:ρ (.tmp 13)=_:=aK hd 4 13;refine aF rfl ?_;go_simp;refine⟨aW,(HI.out W sW.below).mono ?_⟩;rintro e w' ⟨y9,h9,hs9,rfl,hd9,hf9,hb'⟩;exact⟨_,rfl,hb',y9,h9,hs9,rfl,hd9,hf9.mono sW.below.size⟩
  .have f14:jB w.heap.size (iD (aO L M)) (ρ (.tmp 14)) W:=aK hd 5 14;obtain⟨y9,h9,hs9,u14,hd9,hf9⟩:=f14;refine aF rfl ?_;go_simp;exact aG ⟨y9,h9,hs9,rfl,hd9,hf9⟩
  .have f8:jB w.heap.size (iD (aO L M)) (ρ (.tmp 8)) W:=aK hd 6 8;obtain⟨y9,h9,hs9,u8,hd9,hf9⟩:=f8;refine aF rfl ?_;go_simp;exact aG ⟨y9,h9,hs9,rfl,hd9,hf9⟩
  have f8:jB w.heap.size (iD (aO L M)) (ρ (.tmp 8)) W:=aK hd 6 8;obtain⟨y9,h9,hs9,u8,hd9,hf9⟩:=f8;rotate_left
  .refine aF rfl ?_;go_simp;exact nZ sW.below.size
  all_goals(refine aF rfl ?_;go_simp;exact aG rfl)
 case late=>
  intro q hqm oq hoq ρ W kc hu hd;simp only[List.mem_cons,List.not_mem_nil,or_false] at hqm;rcases hqm with rfl
  .cases hoq;obtain⟨y9,h9,hs9,u8,hd9,hf9⟩:jB w.heap.size (iD (aO L M)) (ρ (.tmp 8)) W:=aK hd 6 8;refine⟨.int .i64 0,λW'=> ?_,λ_=>rfl⟩;go_simp
 case endd=>
  rintro v W hW sW rl ⟨h5,h6,h7,h9,-⟩;simp only[aI] at rl;obtain⟨A9,v9,hA9,hN9⟩:=h9;rw[v9];clear rl v9;obtain⟨y9,⟨⟨es9,ec9⟩,⟨cs9,cc9⟩,⟨gs9,gc9⟩⟩,⟨hy9,hok9⟩,vR,hd9,hf9⟩:=h7;cases hy9;rw[vR];simp only[aR.a];generalize v 5=v5 at*;generalize v 6=v6 at*;have rl:=aE hN9;have rf:=bB hN9;have hlt:=aC hN9;have HD:=aA (hd9);have HF:=aA hf9;have HN:=aA hN9;have HO:=aA hok9;have hb:=sW.below;clear h5 h6 hd9 hf9 vR hN9 sW hW st0 HI hok9;go_wp2_with fail;refine(dG _ _).mono ?_;rintro e w2 ⟨rfl,rfl⟩;go_wp2_with fail;go_ret2;refine⟨_,⟨⟨es9,ec9⟩,⟨cs9,cc9⟩,⟨gs9,gc9⟩⟩,⟨rfl,HO.out⟩,rfl,bW.aWz HD.out HN.out (NoU.one (by intro n e;cases e)) ?_,HF.out,?_⟩
  .repeat(with_reducible refine eU.set ?_ _)
   exact eU.refl _ _
  .repeat(with_reducible refine Below.setCell ?_ (by simpa using hA9) _)
   exact hb
theorem aD0 (L M:List Nat)(hx:Sk.Ok (.dist L))(hy:Sk.Ok (.dist M))(hl:¬(aO L M).length<=64)(h k:aR)(w:World)(hK:bW w (.dist L) h)(hK':bW w (.dist M) k):
  Calls prog 262 #[h.a (.dist L),k.b (.dist M)] w (zR w):=by
 have HI:=aA (λW hW=>aBb L M hx hy hl h k W (hK.aWu hW) (hK'.aWu hW));obtain⟨⟨es,ec⟩,⟨cs,cc⟩,⟨gs,gc⟩⟩:=h;obtain⟨⟨es2,ec2⟩,⟨cs2,cc2⟩,⟨gs2,gc2⟩⟩:=k;simp only[aR.a] at HI;show Calls prog 262 #[.agg #[.slice es L.length ec],.iface 268 (.agg #[.slice es2 M.length ec2])] w (zR w);have st0:=(St.start w).alloc (cs:= #[.slice es L.length ec]) (T:=268);clear hK hK' hx hy;go_enter func262,ntmps262;go_wp2_with fail;refine rE st0 10 [8] [.val (pv w.heap.size 0),.val (.agg #[.slice es L.length ec]),.val (.iface 268 (.agg #[.slice es2 M.length ec2])),.val (.agg #[.slice es2 M.length ec2]),.val (.agg #[.slice es2 M.length ec2]),.val (.tuple #[.agg #[.slice none 0 0],.int .i64 60]),.val (.tuple #[.agg #[.slice none 0 0],.int .i64 60]),.val (.agg #[.slice none 0 0]),.val (.int .i64 60),.fct (wY w.heap.size #[.slice none 0 0] 94) (lU _ _ _)] ?spec ?late ?endd
 case spec=>
  refine⟨?_,?_,?_,?_,?_,?_,?_,?_,?_,?_,trivial⟩
  all_goals(intro ρ W kc kf hW sW rl hu hd;simp only[aI] at rl)
  have u2:ρ (.tmp 2)=pv w.heap.size 0:=cR hu 2;rotate_left;have u9:ρ (.tmp 9)=_:=aK hd 0 9;rotate_left;have u1:ρ (.tmp 1)=.iface 268 (.agg #[.slice es2 M.length ec2]):=cR hu 1;rotate_left;have u11:ρ (.tmp 11)=_:=aK hd 2 11;rotate_left;have u12:ρ (.tmp 12)=_:=aK hd 3 12;rotate_left
  .have u10:ρ (.tmp 10)=_:=aK hd 1 10;have u13:ρ (.tmp 13)=_:=aK hd 4 13;refine aF rfl ?_;go_simp;refine⟨aW,(HI.out W sW.below).mono ?_⟩;rintro e w' ⟨rfl,hb'⟩;exact⟨_,rfl,hb',rfl⟩
  have f14:dC (.tuple #[.agg #[.slice none 0 0],.int .i64 60]) (ρ (.tmp 14)) W:=aK hd 5 14;have u14:ρ (.tmp 14)=.tuple #[.agg #[.slice none 0 0],.int .i64 60]:=f14;rotate_left;have u8:ρ (.tmp 8)=_:=aK hd 6 8;rotate_left;have u8:ρ (.tmp 8)=_:=aK hd 6 8;rotate_left
  .refine aF rfl ?_;go_simp;exact nZ sW.below.size
  all_goals(refine aF rfl ?_;go_simp;exact aG rfl)
 case late=>
  intro q hqm oq hoq ρ W kc hu hd;simp only[List.mem_cons,List.not_mem_nil,or_false] at hqm;rcases hqm with rfl
  .cases hoq;have u8:ρ (.tmp 8)=.tuple #[.agg #[.slice none 0 0],.int .i64 60]:=aK hd 6 8;refine⟨.int .i64 60,λW'=> ?_,λ_=>rfl⟩;go_simp
 case endd=>
  rintro v W hW sW rl ⟨h9,-⟩;simp only[aI] at rl;obtain⟨A9,v9,hA9,hN9⟩:=h9;rw[v9];clear rl v9;have rl:=aE hN9;have rf:=bB hN9;have hlt:=aC hN9;have hb:=sW.below;clear hN9 sW hW st0 HI;go_wp2_with fail;refine(rD _ _).mono ?_;rintro e w2 ⟨A,rfl,hA,hN,hb2⟩;go_wp2_with fail;go_ret2;exact⟨A,rfl,by simp at hA;have:=hb.size;omega,hN,(hb.setCell (p:=⟨A9,0,none⟩) hA9 _).trans (hb2.mono (by simpa using hb.size))⟩
theorem aIs (j:Nat)(R Q:ByteArray)(hx:Sk.Ok (.reg j R))(hy:Sk.Ok (.reg j Q))(h k:aR)(w:World)(hK:bW w (.reg j R) h)(hK':bW w (.reg j Q) k):
  Calls prog 291 #[h.a (.reg j R),k.b (.reg j Q)] w (dU w (iV j)):=by
 have HI:=aA (λW hW=>aDj j R Q hx hy h k W (hK.aWu hW) (hK'.aWu hW));obtain⟨⟨es,ec⟩,⟨cs,cc⟩,⟨gs,gc⟩⟩:=h;obtain⟨⟨es2,ec2⟩,⟨cs2,cc2⟩,⟨gs2,gc2⟩⟩:=k;simp only[aR.a] at HI;show Calls prog 291 #[.agg #[.int .i64 ((8-j:Nat):Int),.string R],.iface 271 (.agg #[.int .i64 ((8-j:Nat):Int),.string Q])] w (dU w (iV j));have st0:=(St.start w).alloc (cs:= #[.int .i64 ((8-j:Nat):Int),.string R]) (T:=271);clear hK hK' hx hy;go_enter func291,ntmps291;go_wp2_with fail;refine rE st0 10 [8] [.val (pv w.heap.size 0),.val (.agg #[.int .i64 ((8-j:Nat):Int),.string R]),.val (.iface 271 (.agg #[.int .i64 ((8-j:Nat):Int),.string Q])),.val (.agg #[.int .i64 ((8-j:Nat):Int),.string Q]),.val (.agg #[.int .i64 ((8-j:Nat):Int),.string Q]),.fct (jB w.heap.size (iV j)) (iO _ _),.fct (jB w.heap.size (iV j)) (iO _ _),.fct (aP3 w.heap.size (iV j)) (sV _ _),.val (.int .i64 0),.fct (wY w.heap.size #[.int .i64 0,.string ⟨#[]⟩] 96) (lU _ _ _)] ?spec ?late ?endd
 case spec=>
  refine⟨?_,?_,?_,?_,?_,?_,?_,?_,?_,?_,trivial⟩
  all_goals(intro ρ W kc kf hW sW rl hu hd;simp only[aI] at rl)
  have u2:ρ (.tmp 2)=pv w.heap.size 0:=cR hu 2;rotate_left;have u9:ρ (.tmp 9)=_:=aK hd 0 9;rotate_left;have u1:ρ (.tmp 1)=.iface 271 (.agg #[.int .i64 ((8-j:Nat):Int),.string Q]):=cR hu 1;rotate_left;have u11:ρ (.tmp 11)=_:=aK hd 2 11;rotate_left;have u12:ρ (.tmp 12)=_:=aK hd 3 12;rotate_left
  .have u10:ρ (.tmp 10)=_:=aK hd 1 10;have u13:ρ (.tmp 13)=_:=aK hd 4 13;refine aF rfl ?_;go_simp;refine⟨aW,(HI.out W sW.below).mono ?_⟩;rintro e w' ⟨y9,h9,hs9,rfl,hd9,hf9,hb'⟩;exact⟨_,rfl,hb',y9,h9,hs9,rfl,hd9,hf9.mono sW.below.size⟩
  .have f14:jB w.heap.size (iV j) (ρ (.tmp 14)) W:=aK hd 5 14;obtain⟨y9,h9,hs9,u14,hd9,hf9⟩:=f14;refine aF rfl ?_;go_simp;exact aG ⟨y9,h9,hs9,rfl,hd9,hf9⟩
  .have f8:jB w.heap.size (iV j) (ρ (.tmp 8)) W:=aK hd 6 8;obtain⟨y9,h9,hs9,u8,hd9,hf9⟩:=f8;refine aF rfl ?_;go_simp;exact aG ⟨y9,h9,hs9,rfl,hd9,hf9⟩
  have f8:jB w.heap.size (iV j) (ρ (.tmp 8)) W:=aK hd 6 8;obtain⟨y9,h9,hs9,u8,hd9,hf9⟩:=f8;rotate_left
  .refine aF rfl ?_;go_simp;exact nZ sW.below.size
  all_goals(refine aF rfl ?_;go_simp;exact aG rfl)
 case late=>
  intro q hqm oq hoq ρ W kc hu hd;simp only[List.mem_cons,List.not_mem_nil,or_false] at hqm;rcases hqm with rfl
  .cases hoq;obtain⟨y9,h9,hs9,u8,hd9,hf9⟩:jB w.heap.size (iV j) (ρ (.tmp 8)) W:=aK hd 6 8;refine⟨.int .i64 0,λW'=> ?_,λ_=>rfl⟩;go_simp
 case endd=>
  rintro v W hW sW rl ⟨h5,h6,h7,h9,-⟩;simp only[aI] at rl;obtain⟨A9,v9,hA9,hN9⟩:=h9;rw[v9];clear rl v9;obtain⟨y9,⟨⟨es9,ec9⟩,⟨cs9,cc9⟩,⟨gs9,gc9⟩⟩,⟨⟨R9,hy9⟩,hok9⟩,vR,hd9,hf9⟩:=h7;cases hy9;rw[vR];simp only[aR.a];generalize v 5=v5 at*;generalize v 6=v6 at*;have rl:=aE hN9;have rf:=bB hN9;have hlt:=aC hN9;have HD:=aA (hd9);have HF:=aA hf9;have HN:=aA hN9;have HO:=aA hok9;have hb:=sW.below;clear h5 h6 hd9 hf9 vR hN9 sW hW st0 HI hok9;go_wp2_with fail;refine(dG _ _).mono ?_;rintro e w2 ⟨rfl,rfl⟩;go_wp2_with fail;go_ret2;refine⟨_,⟨⟨es9,ec9⟩,⟨cs9,cc9⟩,⟨gs9,gc9⟩⟩,⟨⟨_,rfl⟩,HO.out⟩,rfl,bW.aWz HD.out HN.out (NoU.two (by intro n e;cases e) (by intro n e;cases e)) ?_,HF.out,?_⟩
  .repeat(with_reducible refine eU.set ?_ _)
   exact eU.refl _ _
  .repeat(with_reducible refine Below.setCell ?_ (by simpa using hA9) _)
   exact hb
theorem aGt (j:Nat)(L M:List Nat)(hx:Sk.Ok (.cnt j L))(hy:Sk.Ok (.cnt j M))(h k:aR)(w:World)(hK:bW w (.cnt j L) h)(hK':bW w (.cnt j M) k):
  Calls prog 301 #[h.a (.cnt j L),k.b (.cnt j M)] w (dU w (jZ j)):=by
 have HI:=aA (λW hW=>aDh j L M hx hy h k W (hK.aWu hW) (hK'.aWu hW));obtain⟨⟨es,ec⟩,⟨cs,cc⟩,⟨gs,gc⟩⟩:=h;obtain⟨⟨es2,ec2⟩,⟨cs2,cc2⟩,⟨gs2,gc2⟩⟩:=k;simp only[aR.a] at HI;show Calls prog 301 #[.agg #[.int .i64 2,.int .i64 (bM j:Int),.slice cs L.length cc],.iface 272 (.agg #[.int .i64 2,.int .i64 (bM j:Int),.slice cs2 M.length cc2])] w (dU w (jZ j));have st0:=(St.start w).alloc (cs:= #[.int .i64 2,.int .i64 (bM j:Int),.slice cs L.length cc]) (T:=272);clear hK hK' hx hy;go_enter func301,ntmps301;go_wp2_with fail;refine rE st0 10 [8] [.val (pv w.heap.size 0),.val (.agg #[.int .i64 2,.int .i64 (bM j:Int),.slice cs L.length cc]),.val (.iface 272 (.agg #[.int .i64 2,.int .i64 (bM j:Int),.slice cs2 M.length cc2])),.val (.agg #[.int .i64 2,.int .i64 (bM j:Int),.slice cs2 M.length cc2]),.val (.agg #[.int .i64 2,.int .i64 (bM j:Int),.slice cs2 M.length cc2]),.fct (jB w.heap.size (jZ j)) (iO _ _),.fct (jB w.heap.size (jZ j)) (iO _ _),.fct (aP3 w.heap.size (jZ j)) (sV _ _),.val (.int .i64 0),.fct (wY w.heap.size #[.int .i64 0,.int .i64 0,.slice none 0 0] 98) (lU _ _ _)] ?spec ?late ?endd
 case spec=>
  refine⟨?_,?_,?_,?_,?_,?_,?_,?_,?_,?_,trivial⟩
  all_goals(intro ρ W kc kf hW sW rl hu hd;simp only[aI] at rl)
  have u2:ρ (.tmp 2)=pv w.heap.size 0:=cR hu 2;rotate_left;have u9:ρ (.tmp 9)=_:=aK hd 0 9;rotate_left;have u1:ρ (.tmp 1)=.iface 272 (.agg #[.int .i64 2,.int .i64 (bM j:Int),.slice cs2 M.length cc2]):=cR hu 1;rotate_left;have u11:ρ (.tmp 11)=_:=aK hd 2 11;rotate_left;have u12:ρ (.tmp 12)=_:=aK hd 3 12;rotate_left
  .have u10:ρ (.tmp 10)=_:=aK hd 1 10;have u13:ρ (.tmp 13)=_:=aK hd 4 13;refine aF rfl ?_;go_simp;refine⟨aW,(HI.out W sW.below).mono ?_⟩;rintro e w' ⟨y9,h9,hs9,rfl,hd9,hf9,hb'⟩;exact⟨_,rfl,hb',y9,h9,hs9,rfl,hd9,hf9.mono sW.below.size⟩
  .have f14:jB w.heap.size (jZ j) (ρ (.tmp 14)) W:=aK hd 5 14;obtain⟨y9,h9,hs9,u14,hd9,hf9⟩:=f14;refine aF rfl ?_;go_simp;exact aG ⟨y9,h9,hs9,rfl,hd9,hf9⟩
  .have f8:jB w.heap.size (jZ j) (ρ (.tmp 8)) W:=aK hd 6 8;obtain⟨y9,h9,hs9,u8,hd9,hf9⟩:=f8;refine aF rfl ?_;go_simp;exact aG ⟨y9,h9,hs9,rfl,hd9,hf9⟩
  have f8:jB w.heap.size (jZ j) (ρ (.tmp 8)) W:=aK hd 6 8;obtain⟨y9,h9,hs9,u8,hd9,hf9⟩:=f8;rotate_left
  .refine aF rfl ?_;go_simp;exact nZ sW.below.size
  all_goals(refine aF rfl ?_;go_simp;exact aG rfl)
 case late=>
  intro q hqm oq hoq ρ W kc hu hd;simp only[List.mem_cons,List.not_mem_nil,or_false] at hqm;rcases hqm with rfl
  .cases hoq;obtain⟨y9,h9,hs9,u8,hd9,hf9⟩:jB w.heap.size (jZ j) (ρ (.tmp 8)) W:=aK hd 6 8;refine⟨.int .i64 0,λW'=> ?_,λ_=>rfl⟩;go_simp
 case endd=>
  rintro v W hW sW rl ⟨h5,h6,h7,h9,-⟩;simp only[aI] at rl;obtain⟨A9,v9,hA9,hN9⟩:=h9;rw[v9];clear rl v9;obtain⟨y9,⟨⟨es9,ec9⟩,⟨cs9,cc9⟩,⟨gs9,gc9⟩⟩,⟨⟨L9,hy9⟩,hok9⟩,vR,hd9,hf9⟩:=h7;cases hy9;rw[vR];simp only[aR.a];generalize v 5=v5 at*;generalize v 6=v6 at*;have rl:=aE hN9;have rf:=bB hN9;have hlt:=aC hN9;have HD:=aA (hd9);have HF:=aA hf9;have HN:=aA hN9;have HO:=aA hok9;have hb:=sW.below;clear h5 h6 hd9 hf9 vR hN9 sW hW st0 HI hok9;go_wp2_with fail;refine(dG _ _).mono ?_;rintro e w2 ⟨rfl,rfl⟩;go_wp2_with fail;go_ret2;refine⟨_,⟨⟨es9,ec9⟩,⟨cs9,cc9⟩,⟨gs9,gc9⟩⟩,⟨⟨_,rfl⟩,HO.out⟩,rfl,bW.aWz HD.out HN.out (NoU.three (by intro n e;cases e) (by intro n e;cases e) (by intro n e;cases e)) ?_,HF.out,?_⟩
  .repeat(with_reducible refine eU.set ?_ _)
   exact eU.refl _ _
  .repeat(with_reducible refine Below.setCell ?_ (by simpa using hA9) _)
   exact hb
theorem aHy (j:Nat)(L M:List (Nat×Nat))(hx:Sk.Ok (.hst j L))(hy:Sk.Ok (.hst j M))(h k:aR)(w:World)(hK:bW w (.hst j L) h)(hK':bW w (.hst j M) k):
  Calls prog 320 #[h.a (.hst j L),k.b (.hst j M)] w (dU w (kA j)):=by
 have HI:=aA (λW hW=>aEk j L M hx hy h k W (hK.aWu hW) (hK'.aWu hW));obtain⟨⟨es,ec⟩,⟨cs,cc⟩,⟨gs,gc⟩⟩:=h;obtain⟨⟨es2,ec2⟩,⟨cs2,cc2⟩,⟨gs2,gc2⟩⟩:=k;simp only[aR.a] at HI;show Calls prog 320 #[.agg #[.int .i64 ((3-j:Nat):Int),.slice gs L.length gc],.iface 274 (.agg #[.int .i64 ((3-j:Nat):Int),.slice gs2 M.length gc2])] w (dU w (kA j));have st0:=(St.start w).alloc (cs:= #[.int .i64 ((3-j:Nat):Int),.slice gs L.length gc]) (T:=274);clear hK hK' hx hy;go_enter func320,ntmps320;go_wp2_with fail;refine rE st0 10 [8] [.val (pv w.heap.size 0),.val (.agg #[.int .i64 ((3-j:Nat):Int),.slice gs L.length gc]),.val (.iface 274 (.agg #[.int .i64 ((3-j:Nat):Int),.slice gs2 M.length gc2])),.val (.agg #[.int .i64 ((3-j:Nat):Int),.slice gs2 M.length gc2]),.val (.agg #[.int .i64 ((3-j:Nat):Int),.slice gs2 M.length gc2]),.fct (jB w.heap.size (kA j)) (iO _ _),.fct (jB w.heap.size (kA j)) (iO _ _),.fct (aP3 w.heap.size (kA j)) (sV _ _),.val (.int .i64 0),.fct (wY w.heap.size #[.int .i64 0,.slice none 0 0] 101) (lU _ _ _)] ?spec ?late ?endd
 case spec=>
  refine⟨?_,?_,?_,?_,?_,?_,?_,?_,?_,?_,trivial⟩
  all_goals(intro ρ W kc kf hW sW rl hu hd;simp only[aI] at rl)
  have u2:ρ (.tmp 2)=pv w.heap.size 0:=cR hu 2;rotate_left;have u9:ρ (.tmp 9)=_:=aK hd 0 9;rotate_left;have u1:ρ (.tmp 1)=.iface 274 (.agg #[.int .i64 ((3-j:Nat):Int),.slice gs2 M.length gc2]):=cR hu 1;rotate_left;have u11:ρ (.tmp 11)=_:=aK hd 2 11;rotate_left;have u12:ρ (.tmp 12)=_:=aK hd 3 12;rotate_left
  .have u10:ρ (.tmp 10)=_:=aK hd 1 10;have u13:ρ (.tmp 13)=_:=aK hd 4 13;refine aF rfl ?_;go_simp;refine⟨aW,(HI.out W sW.below).mono ?_⟩;rintro e w' ⟨y9,h9,hs9,rfl,hd9,hf9,hb'⟩;exact⟨_,rfl,hb',y9,h9,hs9,rfl,hd9,hf9.mono sW.below.size⟩
  .have f14:jB w.heap.size (kA j) (ρ (.tmp 14)) W:=aK hd 5 14;obtain⟨y9,h9,hs9,u14,hd9,hf9⟩:=f14;refine aF rfl ?_;go_simp;exact aG ⟨y9,h9,hs9,rfl,hd9,hf9⟩
  .have f8:jB w.heap.size (kA j) (ρ (.tmp 8)) W:=aK hd 6 8;obtain⟨y9,h9,hs9,u8,hd9,hf9⟩:=f8;refine aF rfl ?_;go_simp;exact aG ⟨y9,h9,hs9,rfl,hd9,hf9⟩
  have f8:jB w.heap.size (kA j) (ρ (.tmp 8)) W:=aK hd 6 8;obtain⟨y9,h9,hs9,u8,hd9,hf9⟩:=f8;rotate_left
  .refine aF rfl ?_;go_simp;exact nZ sW.below.size
  all_goals(refine aF rfl ?_;go_simp;exact aG rfl)
 case late=>
  intro q hqm oq hoq ρ W kc hu hd;simp only[List.mem_cons,List.not_mem_nil,or_false] at hqm;rcases hqm with rfl
  .cases hoq;obtain⟨y9,h9,hs9,u8,hd9,hf9⟩:jB w.heap.size (kA j) (ρ (.tmp 8)) W:=aK hd 6 8;refine⟨.int .i64 0,λW'=> ?_,λ_=>rfl⟩;go_simp
 case endd=>
  rintro v W hW sW rl ⟨h5,h6,h7,h9,-⟩;simp only[aI] at rl;obtain⟨A9,v9,hA9,hN9⟩:=h9;rw[v9];clear rl v9;obtain⟨y9,⟨⟨es9,ec9⟩,⟨cs9,cc9⟩,⟨gs9,gc9⟩⟩,⟨⟨L9,hy9⟩,hok9⟩,vR,hd9,hf9⟩:=h7;cases hy9;rw[vR];simp only[aR.a];generalize v 5=v5 at*;generalize v 6=v6 at*;have rl:=aE hN9;have rf:=bB hN9;have hlt:=aC hN9;have HD:=aA (hd9);have HF:=aA hf9;have HN:=aA hN9;have HO:=aA hok9;have hb:=sW.below;clear h5 h6 hd9 hf9 vR hN9 sW hW st0 HI hok9;go_wp2_with fail;refine(dG _ _).mono ?_;rintro e w2 ⟨rfl,rfl⟩;go_wp2_with fail;go_ret2;refine⟨_,⟨⟨es9,ec9⟩,⟨cs9,cc9⟩,⟨gs9,gc9⟩⟩,⟨⟨_,rfl⟩,HO.out⟩,rfl,bW.aWz HD.out HN.out (NoU.two (by intro n e;cases e) (by intro n e;cases e)) ?_,HF.out,?_⟩
  .repeat(with_reducible refine eU.set ?_ _)
   exact eU.refl _ _
  .repeat(with_reducible refine Below.setCell ?_ (by simpa using hA9) _)
   exact hb
end
theorem aMc (v:Value)(w:World):Calls prog 172 #[.nilIface,v] w λe w'=>e=.returned (.bool false)/\w'=w:=by
 go_enter func172,ntmps172;go_wp2_with fail;go_ret;exact⟨rfl,rfl⟩
theorem aCp (w:World):Calls prog 129 #[.nilIface] w λe w'=>e=.returned (.int .i64 0)/\Below w.heap.size w w':=by
 go_enter func129,ntmps129;go_wp2_with fail;refine(aMc _ _).mono ?_;rintro e w1 ⟨rfl,rfl⟩;go_wp2_with fail;go_ret;exact⟨rfl,aW.alloc aH _⟩
theorem wK (w:World):Calls prog 131 #[.nilIface] w λe w'=>e=.returned (.bool false)/\Below w.heap.size w w':=by
 go_enter func131,ntmps131;go_wp2_with fail;refine(aCp _).mono ?_;rintro e w1 ⟨rfl,hb⟩;go_wp2_with fail;go_ret;exact⟨rfl,hb⟩
def lP (W:World):Prop:=W.cell? ⟨1,0,none⟩=some (.iface 392 (.agg #[pv 4 137]))
theorem lP.aWu {W W':World}(h:lP W)(hb:Below W.heap.size W W'):lP W':=by
 have hlt:1<W.heap.size:=by
  rcases Nat.lt_or_ge 1 W.heap.size with h1|h1
  .exact h1
  .simp[lP,World.cell?,Array.getElem?_eq_none h1] at h
 exact(hb.cell (p:=⟨1,0,none⟩) hlt).trans h
theorem yO (A:Nat)(w:World)(hG:lP w)(hA:w.heap[A]? =some (.cells #[.int .i64 60] 195 (0,0))):
  Calls prog 129 #[.iface 193 (pv A 0)] w λe w'=>e=.returned (.int .i64 60)/\Below w.heap.size w w':=by
 have hlA:=aC hA;go_enter func129,ntmps129;go_wp2_with fail;have hb1:=(Below.refl w.heap.size w).alloc aH (.cells #[.pointer none] 193);have hG1:=hG.aWu hb1;have hA1:(w.alloc (.cells #[.pointer none] 193)).heap[A]? =some (.cells #[.int .i64 60] 195 (0,0)):=(hb1.block A hlA).trans hA;have ht:(w.alloc (.cells #[.pointer none] 193)).heap[w.heap.size]? =some (.cells #[.pointer none] 193 (0,0)):=kH _ _;have hz1:(w.alloc (.cells #[.pointer none] 193)).heap.size=w.heap.size+1:=by simp
 generalize w.alloc (.cells #[.pointer none] 193)=w1 at*;refine(aSw ⟨A,0,none⟩ ⟨w.heap.size,0,none⟩ (.pointer none) w1 hG1 (aE ht 0) (bB ht 0)).mono ?_;rintro e w2 ⟨rfl,hw2⟩;obtain⟨w3,hw3⟩:∃w3,w2=w3:=⟨_,rfl⟩;have st2:St w [(w.heap.size,#[pv A 0],193)] (λW=>W.heap[A]? =some (.cells #[.int .i64 60] 195 (0,0))) w2:=by
  have s0:St w [(w.heap.size,#[.pointer none],193)] (λ_=>True) w1:=⟨hb1,λx hx=>by simp at hx;subst hx;exact ht,by simp,trivial,λ_ _ _ _=>trivial⟩;have hb4:=(((((Below.refl w1.heap.size w1).alloc aH (.cells #[pv w.heap.size 0] 323)).alloc (by simp) (.cells #[pv 4 (323),pv w1.heap.size 0,.int .u64 150] 355)).alloc (by simp;omega) (.cells #[pv 4 (323),pv w1.heap.size 0,.int .u64 150] 355)).alloc (by simp;omega) (.cells #[pv A 0] 193));have s1:=(s0.to hb4).sx 0 (A:=w.heap.size) rfl (o:=0) (v:=pv A 0) aH;rw[<-hw2] at s1;have hAA:w2.heap[A]? =some (.cells #[.int .i64 60] 195 (0,0)):=(s1.below.block A hlA).trans hA;exact s1.aW3 hAA (λW W' h hb=>(hb.block A (aC h)).trans h)
 clear hw2 hw3 hG1 hA1 ht hz1 hb1;have hc:=aE st2.ex 0;have rl:=st2.rl;go_wp2_with fail;go_ret;exact⟨rfl,st2.below⟩
theorem uO (A:Nat)(w:World)(hG:lP w)(hA:w.heap[A]? =some (.cells #[.int .i64 60] 195 (0,0))):
  Calls prog 131 #[.iface 193 (pv A 0)] w λe w'=>e=.returned (.bool true)/\Below w.heap.size w w':=by
 have HE:=aA (yO A w hG hA);clear hG hA;go_enter func131,ntmps131;go_wp2_with fail;refine HE.out.mono ?_;rintro e w1 ⟨rfl,hb⟩;go_wp2_with fail;go_ret;exact⟨rfl,hb⟩
theorem aQz (w:World):Calls prog 32 #[.int .i64 1] w (fD w (·=Sk.new 1)):=by
 have st0:=((St.start w).alloc (cs:= #[.int .i64 0,.int .i64 0,.slice none 0 0,.int .i64 0,.string ⟨#[]⟩,.int .i64 0,.int .i64 0,.slice none 0 0,.int .i64 0,.slice none 0 0]) (T:=103)).alloc (cs:= #[.int .i64 1,.int .i64 0,.slice none 0 0,.int .i64 0,.string ⟨#[]⟩,.int .i64 0,.int .i64 0,.slice none 0 0,.int .i64 0,.slice none 0 0]) (T:=103);simp only[World.size_alloc] at st0;go_enter func32,ntmps32;go_wp2_with fail;refine bodyPost_ret (v:=.tuple #[.agg #[.int .i64 1,.int .i64 0,.slice none 0 0,.int .i64 0,.string ⟨#[]⟩,.int .i64 0,.int .i64 0,.slice none 0 0,.int .i64 0,.slice none 0 0],.int .i64 0]) (by simp[results,results32,go_sem]) rfl ⟨_,⟨⟨none,0⟩,⟨none,0⟩,⟨none,0⟩⟩,⟨rfl,Sk.aXr _⟩,rfl,⟨bS.none _,bS.none _,bS.none _⟩,⟨aT.none _,aT.none _,aT.none _⟩,?_⟩;exact(aW.alloc aH _).alloc (by simp) _
theorem aRr (w:World):Calls prog 32 #[.int .i64 3] w (fD w (·=Sk.new 3)):=by
 go_enter func32,ntmps32;go_wp2_with fail;refine bodyPost_ret (v:=.tuple #[.agg #[.int .i64 3,.int .i64 0,.slice none 0 0,.int .i64 0,.string ⟨#[]⟩,.int .i64 0,.int .i64 0,.slice none 0 0,.int .i64 3,.slice none 0 0],.int .i64 0]) (by simp[results,results32,go_sem]) rfl ⟨_,⟨⟨none,0⟩,⟨none,0⟩,⟨none,0⟩⟩,⟨rfl,Sk.aXr _⟩,rfl,⟨bS.none _,bS.none _,bS.none _⟩,⟨aT.none _,aT.none _,aT.none _⟩,?_⟩;exact(aW.alloc aH _).alloc (by simp) _
theorem aRk (w:World):Calls prog 32 #[.int .i64 2] w (fD w (·=Sk.new 2)):=by
 have st0:=((St.start w).alloc (cs:= #[.int .i64 0,.int .i64 0,.slice none 0 0,.int .i64 0,.string ⟨#[]⟩,.int .i64 0,.int .i64 0,.slice none 0 0,.int .i64 0,.slice none 0 0]) (T:=103)).alloc (cs:= #[.int .i64 2,.int .i64 0,.slice none 0 0,.int .i64 0,.string ⟨#[]⟩,.int .i64 0,.int .i64 0,.slice none 0 0,.int .i64 0,.slice none 0 0]) (T:=103);simp only[World.size_alloc] at st0;go_enter func32,ntmps32;go_wp2_with fail;refine(aLs (cw:=32) (cn:=64) (by simp[iF]) _).mono ?_;rintro e w1 ⟨A,rfl,hA,hN,hb1⟩;have st1:=st0.to hb1;have rl:=st1.rl;simp only[World.size_alloc] at hA;have HN:=aA hN;clear st0 hN hb1;go_wp2_with fail;refine bodyPost_ret (v:=.tuple #[.agg #[.int .i64 2,.int .i64 0,.slice none 0 0,.int .i64 0,.string ⟨#[]⟩,.int .i64 2,.int .i64 32,.slice (some ⟨A,0,none⟩) 64 64,.int .i64 0,.slice none 0 0],.int .i64 0]) (by simp[results,results32,go_sem,rl]) rfl ⟨_,⟨⟨none,0⟩,⟨some ⟨A,0,none⟩,64⟩,⟨none,0⟩⟩,⟨rfl,Sk.aXr _⟩,?_,⟨bS.none _,?_,bS.none _⟩,⟨aT.none _,λg o e=>by cases e;omega,aT.none _⟩,?_⟩
 .show _=Ending.returned (.tuple #[.agg #[.int .i64 2,.int .i64 0,.slice none 0 0,.int .i64 0,.string ⟨#[]⟩,.int .i64 2,.int .i64 32,.slice (some ⟨A,0,none⟩) (fZ 64).length 64,.int .i64 0,.slice none 0 0],.int .i64 0]);rw[iE]
 .refine bS.up (B:=w.heap.size+1+1) ⟨Rd.aW2 aY HN.out rfl,by show(fZ 64).length<=64;rw[iE];exact aH,by show 64<=_;omega,(λh=>by cases h),dJ.some _ _⟩ (λg o e=>by cases e;exact hA) ?_
  repeat(with_reducible refine aM.set ?_ (by omega) _)
  exact aM.refl _ _
 .repeat(with_reducible refine Below.setCell ?_ (by simp;try omega) _)
  exact st1.below
theorem aBw (x:Sk)(hx:x.Ok)(h:aR)(w:World)(hK:bW w x h):
  Calls prog 158 #[h.v x] w λe w'=>e=.returned (.bool true)/\Below w.heap.size w w':=by
 have HO:=aA (λW hW=>mO x hx h W (hK.aWu hW));simp only[aR.w,aR.b] at HO;generalize h.a x=bV at*;generalize x.bt=bD at*;obtain⟨⟨es,ec⟩,⟨cs,cc⟩,⟨gs,gc⟩⟩:=h;change Calls prog 158 #[.agg #[.int .i64 x.kind,.int .i64 x.lev,.slice es x.e.length ec,.int .i64 x.bits,.string x.aWx,.int .i64 x.rows,.int .i64 x.aWv,.slice cs x.c.length cc,.int .i64 x.aWw,.slice gs x.g.length gc]] w _;have st0:=(St.start w).alloc (cs:= #[.int .i64 x.kind,.int .i64 x.lev,.slice es x.e.length ec,.int .i64 x.bits,.string x.aWx,.int .i64 x.rows,.int .i64 x.aWv,.slice cs x.c.length cc,.int .i64 x.aWw,.slice gs x.g.length gc]) (T:=103);clear hK;go_enter func158,ntmps158;go_wp2_with fail;refine(HO.out _ st0.below).mono ?_;rintro e w1 ⟨rfl,hb1⟩;have st1:=(st0.to hb1).alloc (cs:= #[.iface bD bV,.int .i64 x.kind,.int .i64 x.lev]) (T:=135);clear hb1 st0 HO;go_wp2_with fail;go_ret;exact⟨rfl,st1.below⟩
def Sk.aXv :Sk->Nat
 | .dist _=>258
 | .reg _ _=>287
 | .cnt _ _=>297
 | .hst _ _=>316
theorem aJs (x:Sk)(v:Value)(w:World):(Go.method 620 x.bt v "aviary/ladder.add").run prog w=.ok (x.aXv,v) w:=by cases x<;>kernel_rfl
theorem aD4 (x:Sk)(args:Array Value)(w:World):(callFunc x.aXv args).run prog w=.ok (.enter x.aXv args) w:=by
 cases x with
 |dist L=>exact enters_of func258 (by kernel_rfl) rfl args w
 |reg j R=>exact enters_of func287 (by kernel_rfl) rfl args w
 |cnt j L=>exact enters_of func297 (by kernel_rfl) rfl args w
 |hst j l=>exact enters_of func316 (by kernel_rfl) rfl args w
def Sk.aXi :Sk->Nat
 | .dist _=>262
 | .reg _ _=>291
 | .cnt _ _=>301
 | .hst _ _=>320
theorem zZ (x:Sk)(v:Value)(w:World):(Go.method 620 x.bt v "aviary/ladder.merge").run prog w=.ok (x.aXi,v) w:=by cases x<;>kernel_rfl
theorem wR (x:Sk)(args:Array Value)(w:World):(callFunc x.aXi args).run prog w=.ok (.enter x.aXi args) w:=by
 cases x with
 |dist L=>exact enters_of func262 (by kernel_rfl) rfl args w
 |reg j R=>exact enters_of func291 (by kernel_rfl) rfl args w
 |cnt j L=>exact enters_of func301 (by kernel_rfl) rfl args w
 |hst j l=>exact enters_of func320 (by kernel_rfl) rfl args w
def Sk.aXf :Sk->Nat
 | .dist _=>261
 | .reg _ _=>290
 | .cnt _ _=>300
 | .hst _ _=>319
theorem aMh (x:Sk)(v:Value)(w:World):(Go.method 620 x.bt v "aviary/ladder.lower").run prog w=.ok (x.aXf,v) w:=by cases x<;>kernel_rfl
theorem aIl (x:Sk)(args:Array Value)(w:World):(callFunc x.aXf args).run prog w=.ok (.enter x.aXf args) w:=by
 cases x with
 |dist L=>exact enters_of func261 (by kernel_rfl) rfl args w
 |reg j R=>exact enters_of func290 (by kernel_rfl) rfl args w
 |cnt j L=>exact enters_of func300 (by kernel_rfl) rfl args w
 |hst j l=>exact enters_of func319 (by kernel_rfl) rfl args w
def Sk.aXm :Sk->Nat
 | .dist _=>260
 | .reg _ _=>289
 | .cnt _ _=>299
 | .hst _ _=>318
theorem aPu (x:Sk)(v:Value)(w:World):(Go.method 620 x.bt v "aviary/ladder.cost").run prog w=.ok (x.aXm,v) w:=by cases x<;>kernel_rfl
theorem aLt (x:Sk)(args:Array Value)(w:World):(callFunc x.aXm args).run prog w=.ok (.enter x.aXm args) w:=by
 cases x with
 |dist L=>exact enters_of func260 (by kernel_rfl) rfl args w
 |reg j R=>exact enters_of func289 (by kernel_rfl) rfl args w
 |cnt j L=>exact enters_of func299 (by kernel_rfl) rfl args w
 |hst j l=>exact enters_of func318 (by kernel_rfl) rfl args w
def Sk.aXx :Sk->Nat
 | .dist _=>259
 | .reg _ _=>288
 | .cnt _ _=>298
 | .hst _ _=>317
theorem aQh (x:Sk)(v:Value)(w:World):(Go.method 620 x.bt v "aviary/ladder.ask").run prog w=.ok (x.aXx,v) w:=by cases x<;>kernel_rfl
theorem aN7 (x:Sk)(args:Array Value)(w:World):(callFunc x.aXx args).run prog w=.ok (.enter x.aXx args) w:=by
 cases x with
 |dist L=>exact enters_of func259 (by kernel_rfl) rfl args w
 |reg j R=>exact enters_of func288 (by kernel_rfl) rfl args w
 |cnt j L=>exact enters_of func298 (by kernel_rfl) rfl args w
 |hst j l=>exact enters_of func317 (by kernel_rfl) rfl args w
def aUl (x:Sk)(a:Nat)(y:Sk):Prop:=wT x y/\∀L,x=.dist L->(gT a L).length<=64/\y=.dist (gT a L)
def aV0 (x z y:Sk):Prop:=wT x y/\∀L M,x=.dist L->z=.dist M->(aO L M).length<=64/\y=.dist (aO L M)
theorem aEg (x:Sk)(hx:x.Ok)(a n:Nat)(ha:a<=aJ)(hn:n<=aJ)(h:aR)(w:World)(hK:bW w x h):Calls prog x.aXv #[h.a x,.agg #[.int .u64 a,.int .u64 n]] w λe w'=>dU w (aUl x a) e w'\/((∃L,x=.dist L/\64<(gT a L).length)/\zR w e w'):=by
 cases x with
 |dist L=>
  by_cases hl:(gT a L).length<=64
  .exact(aKa L hx a n ha hn hl h w hK).mono λ_ _ h=>.inl (h.mono λy hy=>by cases hy;exact⟨⟨rfl,rfl⟩,λM hM=>by cases hM;exact⟨hl,rfl⟩⟩)
  .exact(aKe L hx a n ha hn hl h w hK).mono λ_ _ h=>.inr ⟨⟨L,rfl,by omega⟩,h⟩
 |reg j R=>exact(aPc j R hx a n ha hn h w hK).mono λ_ _ h=>.inl (h.mono λy hy=>by obtain⟨R',rfl⟩:=hy;exact⟨⟨rfl,rfl⟩,λM hM=>by cases hM⟩)
 |cnt j L=>exact(aOr j L hx a n ha hn h w hK).mono λ_ _ h=>.inl (h.mono λy hy=>by obtain⟨R',rfl⟩:=hy;exact⟨⟨rfl,rfl⟩,λM hM=>by cases hM⟩)
 |hst j L=>exact(aPr j L hx a n ha hn h w hK).mono λ_ _ h=>.inl (h.mono λy hy=>by obtain⟨R',rfl⟩:=hy;exact⟨⟨rfl,rfl⟩,λM hM=>by cases hM⟩)
theorem aNz (x:Sk)(hx:x.Ok)(hl:x.lev<x.bot)(h:aR)(w:World)(hK:bW w x h):Calls prog x.aXf #[h.a x] w (dU w (uS x)):=by
 cases x with
 |dist L=>exact(aMi L hx h w hK).mono λ_ _ h=>h.mono λy hy=>by obtain⟨R',rfl⟩:=hy;exact⟨rfl,rfl⟩
 |reg j R=>exact(aP9 j R hx hl h w hK).mono λ_ _ h=>h.mono λy hy=>by obtain⟨R',rfl⟩:=hy;exact⟨rfl,rfl⟩
 |cnt j L=>exact(aM7 j L hx hl h w hK).mono λ_ _ h=>h.mono λy hy=>by obtain⟨R',rfl⟩:=hy;exact⟨rfl,rfl⟩
 |hst j L=>exact(aNy j L hx hl h w hK).mono λ_ _ h=>h.mono λy hy=>by obtain⟨R',rfl⟩:=hy;exact⟨rfl,rfl⟩
theorem xY (x y:Sk)(hk:wT x y)(hx:x.Ok)(hy:y.Ok)(h k:aR)(w:World)(hK:bW w x h)(hK':bW w y k):Calls prog x.aXi #[h.a x,k.b y] w λe w'=>dU w (aV0 x y) e w'\/((∃L M,x=.dist L/\y=.dist M/\64<(aO L M).length)/\zR w e w'):=by
 obtain⟨k1,k2⟩:=hk;cases x with
 |dist L=>
  cases y with
  |dist M=>
   by_cases hl:(aO L M).length<=64
   .exact(aD1 L M hx hy hl h k w hK hK').mono λ_ _ h=>.inl (h.mono λy hy=>by cases hy;exact⟨⟨rfl,rfl⟩,λL' M' h1 h2=>by cases h1;cases h2;exact⟨hl,rfl⟩⟩)
   .exact(aD0 L M hx hy hl h k w hK hK').mono λ_ _ h=>.inr ⟨⟨L,M,rfl,rfl,by omega⟩,h⟩
  |reg j R=>exact absurd k2 (by have:=hy.1;simp only[Sk.lev];omega)
  |cnt j M=>simp[Sk.kind] at k1
  |hst j M=>simp[Sk.kind] at k1
 |reg j R=>
  cases y with
  |dist M=>exact absurd k2 (by have:=hx.1;simp only[Sk.lev];omega)
  |reg i Q=>
   obtain rfl:i=j:=k2;exact(aIs i R Q hx hy h k w hK hK').mono λ_ _ h=>.inl (h.mono λy hy=>by obtain⟨R',rfl⟩:=hy;exact⟨⟨rfl,rfl⟩,λL' M' h1 h2=>by cases h1⟩)
  |cnt j M=>simp[Sk.kind] at k1
  |hst j M=>simp[Sk.kind] at k1
 |cnt j L=>
  cases y with
  |dist M=>simp[Sk.kind] at k1
  |reg j R=>simp[Sk.kind] at k1
  |cnt i M=>
   obtain rfl:i=j:=k2;exact(aGt i L M hx hy h k w hK hK').mono λ_ _ h=>.inl (h.mono λy hy=>by obtain⟨R',rfl⟩:=hy;exact⟨⟨rfl,rfl⟩,λL' M' h1 h2=>by cases h1⟩)
  |hst j M=>simp[Sk.kind] at k1
 |hst j L=>
  cases y with
  |dist M=>simp[Sk.kind] at k1
  |reg j R=>simp[Sk.kind] at k1
  |cnt j M=>simp[Sk.kind] at k1
  |hst i M=>
   obtain rfl:i=j:=k2;exact(aHy i L M hx hy h k w hK hK').mono λ_ _ h=>.inl (h.mono λy hy=>by obtain⟨R',rfl⟩:=hy;exact⟨⟨rfl,rfl⟩,λL' M' h1 h2=>by cases h1⟩)
theorem aJ5 (x:Sk)(hx:x.Ok)(h:aR)(w:World):Calls prog x.aXm #[h.a x] w λe w'=>e=.returned (.int .i64 (x.cost-16:Nat))/\Below w.heap.size w w':=by
 cases x with
 |dist L=>exact aH2 L hx h w
 |reg j R=>exact aL3 j R hx h w
 |cnt j L=>exact aLz j L hx h w
 |hst j L=>exact aJ3 j L hx h w
def aSq (x:Sk)(z:Nat):Prop:=z<=aJ/\∀L,x=.dist L->z=L.length
theorem aNa (x:Sk)(hx:x.Ok)(a:Nat)(ha:a<=aJ)(h:aR)(w:World)(hK:bW w x h):Calls prog x.aXx #[h.a x,.int .u64 a] w λe w'=>(∃z:Nat,aSq x z/\e=.returned (.int .u64 (z:Nat)))/\Below w.heap.size w w':=by
 cases x with
 |dist L=>exact aMs L hx a ha h w hK
 |reg j R=>exact aN6 j R hx a ha h w hK
 |cnt j L=>exact aO7 j L hx a ha h w hK
 |hst j L=>exact aOo j L hx a ha h w hK
theorem aFm (x:Sk)(hx:x.Ok)(h:aR)(w:World)(hK:bW w x h):
  Calls prog 75 #[h.v x] w λe w'=>e=.returned (.int .i64 (x.cost:Nat))/\Below w.heap.size w w':=by
 have HO:=aA (λW hW=>mO x hx h W (hK.aWu hW));have HC:=aA (λW=>aJ5 x hx h W);have hm:=λw=>aPu x (h.a x) w;have hent:=λargs w=>aLt x args w;obtain⟨c1,c2⟩:=x.aXt hx;obtain⟨c,hc⟩:∃c,x.cost=c+16:=⟨x.cost-16,by omega⟩;rw[hc] at HC c2⊢;rw[Nat.add_sub_cancel] at HC;simp only[aR.w,aR.b] at HO;clear hc c1;generalize h.a x=bV at*;generalize x.bt=bD at*;generalize x.aXm=fC at*;obtain⟨⟨es,ec⟩,⟨cs,cc⟩,⟨gs,gc⟩⟩:=h;change Calls prog 75 #[.agg #[.int .i64 x.kind,.int .i64 x.lev,.slice es x.e.length ec,.int .i64 x.bits,.string x.aWx,.int .i64 x.rows,.int .i64 x.aWv,.slice cs x.c.length cc,.int .i64 x.aWw,.slice gs x.g.length gc]] w _;have st0:=(St.start w).alloc (cs:= #[.int .i64 x.kind,.int .i64 x.lev,.slice es x.e.length ec,.int .i64 x.bits,.string x.aWx,.int .i64 x.rows,.int .i64 x.aWv,.slice cs x.c.length cc,.int .i64 x.aWw,.slice gs x.g.length gc]) (T:=103);clear hK;go_enter func75,ntmps75;go_wp2_with fail;refine(HO.out _ st0.below).mono ?_;rintro e w1 ⟨rfl,hb1⟩;have st1:=(st0.to hb1).alloc (cs:= #[.iface bD bV,.int .i64 x.kind,.int .i64 x.lev]) (T:=135);clear hb1 st0 HO;go_wp2_with fail;refine(HC.out _).mono ?_;rintro e w2 ⟨rfl,hb2⟩;have st2:=st1.to hb2;clear hb2 st1 HC;go_wp2_with fail;go_ret;exact⟨sU (by push_cast;omega),st2.below⟩
theorem yE (x:Sk)(hx:x.Ok)(a:Nat)(ha:a<=aJ)(h:aR)(w:World)(hK:bW w x h):
  Calls prog 35 #[h.v x,.int .u64 a] w λe w'=>(∃z:Nat,aSq x z/\e=.returned (.int .u64 (z:Nat)))/\Below w.heap.size w w':=by
 have HO:=aA (λW hW=>mO x hx h W (hK.aWu hW));have HC:=aA (λW hW=>aNa x hx a ha h W (hK.aWu hW));have hm:=λw=>aQh x (h.a x) w;have hent:=λargs w=>aN7 x args w;simp only[aR.w,aR.b] at HO;generalize h.a x=bV at*;generalize x.bt=bD at*;generalize x.aXx=fC at*;obtain⟨⟨es,ec⟩,⟨cs,cc⟩,⟨gs,gc⟩⟩:=h;change Calls prog 35 #[.agg #[.int .i64 x.kind,.int .i64 x.lev,.slice es x.e.length ec,.int .i64 x.bits,.string x.aWx,.int .i64 x.rows,.int .i64 x.aWv,.slice cs x.c.length cc,.int .i64 x.aWw,.slice gs x.g.length gc],.int .u64 a] w _;have st0:=(St.start w).alloc (cs:= #[.int .i64 x.kind,.int .i64 x.lev,.slice es x.e.length ec,.int .i64 x.bits,.string x.aWx,.int .i64 x.rows,.int .i64 x.aWv,.slice cs x.c.length cc,.int .i64 x.aWw,.slice gs x.g.length gc]) (T:=103);clear hK ha;go_enter func35,ntmps35;go_wp2_with fail;refine(HO.out _ st0.below).mono ?_;rintro e w1 ⟨rfl,hb1⟩;have st1:=(st0.to hb1).alloc (cs:= #[.iface bD bV,.int .i64 x.kind,.int .i64 x.lev]) (T:=135);clear hb1 st0 HO;go_wp2_with fail;refine(HC.out _ st1.below).mono ?_;rintro e w2 ⟨⟨z,hz,rfl⟩,hb2⟩;have st2:=st1.to hb2;clear hb2 st1 HC;go_wp2_with fail;go_ret;exact⟨⟨z,hz,rfl⟩,st2.below⟩
end Go.Proofs.YtmgdbfmlnmahpaaGreatDoor
