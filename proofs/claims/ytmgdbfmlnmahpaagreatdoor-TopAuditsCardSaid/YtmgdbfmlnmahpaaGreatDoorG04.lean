/- Part of TopAudits. -/
import Derived.Lib.Hide
import Derived.Maps.Views
namespace Go.Proofs.YtmgdbfmlnmahpaaGreatDoor
set_option linter.unusedSimpArgs false
set_option linter.unusedVariables false
set_option maxRecDepth 100000
set_option maxHeartbeats 4000000
def yM (l:List Nat):Prop:=l.Pairwise (·<·)
def gT (n:Nat):List Nat->List Nat
 |[]=>[n]
 |x::l=>if n<x then n::x::l else if n=x then x::l else x::gT n l
def fG (l:List Nat)(n:Nat):Nat:=l.countP (λx=>decide (x<n))
def aO (l ys:List Nat):List Nat:=ys.foldl (λa n=>gT n a) l
theorem vP (n y:Nat):∀l:List Nat,y∈gT n l↔y=n\/y∈l
 |[]=>by simp[gT]
 |x::l=>by
  unfold gT;split
  .simp
  .split
   .rename_i h;subst h;simp
   .rw[List.mem_cons,vP n y l,List.mem_cons];constructor
    .rintro(h|h|h)
     .exact .inr (.inl h)
     .exact .inl h
     .exact .inr (.inr h)
    .rintro(h|h|h)
     .exact .inr (.inl h)
     .exact .inl h
     .exact .inr (.inr h)
theorem vO (n:Nat):∀l:List Nat,yM l->yM (gT n l)
 |[],_=>by simp[gT,yM]
 |x::l,h=>by
  obtain⟨h1,h2⟩:=List.pairwise_cons.1 h;unfold gT;split
  .rename_i c;refine List.pairwise_cons.2 ⟨λy hy=> ?_,h⟩;rcases List.mem_cons.1 hy with rfl|hy
   .exact c
   .exact Nat.lt_trans c (h1 y hy)
  .split
   .exact h
   .rename_i c1 c2;refine List.pairwise_cons.2 ⟨λy hy=> ?_,vO n l h2⟩;rcases(vP n y l).1 hy with rfl|hy
    .omega
    .exact h1 y hy
theorem oC (n:Nat):∀l:List Nat,yM l->n∈l->gT n l=l
 |[],_,h=>by simp at h
 |x::l,ha,h=>by
  obtain⟨h1,h2⟩:=List.pairwise_cons.1 ha;unfold gT;rcases List.mem_cons.1 h with rfl|h
  .rw[if_neg (by omega),if_pos rfl]
  .have:=h1 n h;rw[if_neg (by omega),if_neg (by omega),oC n l h2 h]
theorem oM (n:Nat):∀l:List Nat,n∉l->(gT n l).length=l.length+1
 |[],_=>rfl
 |x::l,h=>by
  unfold gT;split
  .simp
  .split
   .rename_i c;exact absurd (List.mem_cons.2 (.inl c)) h
   .have:=oM n l (λh'=>h (List.mem_cons_of_mem _ h'));simp[this]
theorem aS5 (n:Nat)(l:List Nat):(gT n l).length<=l.length+1:=by
 induction l with
 |nil=>simp[gT]
 |cons x l ih=>
  unfold gT;split
  .simp
  .split
   .simp
   .simp at ih⊢;omega
theorem aD2 (l:List Nat)(n:Nat):fG l n<=l.length:=List.countP_le_length
theorem qV (x n:Nat)(l:List Nat):fG (x::l) n=fG l n+if x<n then 1 else 0:=by
 unfold fG;rw[List.countP_cons];simp
theorem jX {n:Nat}:∀{l:List Nat},(∀y∈l,n<=y)->fG l n=0
 |[],_=>rfl
 |x::l,h=>by
  have:=h x (by simp);rw[qV,jX (λy hy=>h y (by simp[hy])),if_neg (by omega)]
theorem qO (n:Nat):∀(l:List Nat),yM l->∀(i x:Nat),l[i]? =some x->(i<fG l n↔x<n)
 |[],_,i,x,h=>by simp at h
 |y::l,ha,i,x,h=>by
  obtain⟨h1,h2⟩:=List.pairwise_cons.1 ha;rw[qV];cases i with
  |zero=>
   simp at h;subst h
   by_cases c:y<n
   .rw[if_pos c];omega
   .rw[if_neg c,jX (λz hz=>by have:=h1 z hz;omega)];omega
  |succ i=>
   simp at h;have ih:=qO n l h2 i x h;have hx:=h1 x (List.mem_of_getElem? h)
   by_cases c:y<n
   .rw[if_pos c];omega
   .rw[if_neg c,jX (λz hz=>by have:=h1 z hz;omega)];omega
theorem aHd (n:Nat):∀(l:List Nat),yM l->gT n l=if l[fG l n]? =some n then l else l.take (fG l n)++n::l.drop (fG l n)
 |[],_=>rfl
 |x::l,ha=>by
  obtain⟨h1,h2⟩:=List.pairwise_cons.1 ha;have ih:=aHd n l h2;unfold gT
  by_cases c:n<x
  .have e0:fG (x::l) n=0:=jX (λz hz=>by
    rcases List.mem_cons.1 hz with rfl|hz
    .omega
    .have:=h1 z hz;omega)
   rw[if_pos c,e0,if_neg (by simp;omega)];simp
  .rw[if_neg c]
   by_cases c2:n=x
   .have e0:fG (x::l) n=0:=jX (λz hz=>by
     rcases List.mem_cons.1 hz with rfl|hz
     .omega
     .have:=h1 z hz;omega)
    rw[if_pos c2,e0,if_pos (by simp[c2])]
   .have e1:fG (x::l) n=fG l n+1:=by rw[qV,if_pos (by omega)]
    rw[if_neg c2,e1,ih,List.getElem?_cons_succ,List.take_succ_cons,List.drop_succ_cons];split<;>rfl
theorem aEt (n:Nat):∀l:List Nat,(∀y∈l,y<n)->gT n l=l++[n]
 |[],_=>rfl
 |x::l,h=>by
  have:=h x (by simp);unfold gT;rw[if_neg (by omega),if_neg (by omega),aEt n l (λy hy=>h y (by simp[hy]))];rfl
theorem nS (l ys:List Nat)(n:Nat):aO l (ys++[n])=gT n (aO l ys):=by simp[aO]
theorem qX (l:List Nat)(h:yM l):∀ys:List Nat,yM (aO l ys):=by
 intro ys
 induction ys generalizing l with
 |nil=>exact h
 |cons y ys ih=>exact ih _ (vO y l h)
theorem aIx (y:Nat):∀(ys l:List Nat),y∈aO l ys↔y∈l\/y∈ys:=by
 intro ys
 induction ys with
 |nil=>intro l;simp[aO]
 |cons z ys ih=>
  intro l;have:=ih (gT z l);simp only[aO,List.foldl_cons] at this⊢;rw[this,vP,List.mem_cons];constructor
  .rintro((h|h)|h)
   .exact .inr (.inl h)
   .exact .inl h
   .exact .inr (.inr h)
  .rintro(h|h|h)
   .exact .inl (.inr h)
   .exact .inl (.inl h)
   .exact .inr h
theorem nQ :∀(k:Nat) (y:List Nat),yM y->aO [] (y.take k)=y.take k
 |0,_,_=>rfl
 |k+1,y,h=>by
  cases hk:y[k]? with
  |none=>
   rw[List.getElem?_eq_none_iff] at hk;rw[List.take_of_length_le (by omega)];have:=nQ k y h;rwa[List.take_of_length_le hk] at this
  |some n=>
   rw[List.take_add_one,hk];show aO [] (y.take k++[n])=y.take k++[n];rw[nS,nQ k y h,aEt];intro z hz;obtain⟨i,hi⟩:=List.mem_iff_getElem?.1 hz;rw[List.getElem?_take] at hi;split at hi
   .rename_i hik;have hkl:=(List.getElem?_eq_some_iff.1 hk).1;have hil:=(List.getElem?_eq_some_iff.1 hi).1;have:=List.pairwise_iff_getElem.1 h i k hil hkl hik;have e1:y[i]=z:=by simpa[List.getElem?_eq_getElem hil] using hi
    have e2:y[k]=n:=by simpa[List.getElem?_eq_getElem hkl] using hk
    omega
   .cases hi
theorem mM (y:List Nat)(h:yM y):aO [] y=y:=by
 have:=nQ y.length y h;rwa[List.take_of_length_le (Nat.le_refl _)] at this
def aJ :Nat:=18446744073709551615
def jF (a b:Nat):Nat:=min (a+b) aJ
theorem lB (a b:Nat):jF a b<=aJ:=Nat.min_le_right _ _
def iF (cw cn:Nat):Prop:=cn=2*cw/\(cw=32\/cw=16\/cw=8\/cw=4)
theorem iF.lo {cw cn:Nat}(h:iF cw cn):4<=cw:=by have:=h.2;omega
theorem iF.hi {cw cn:Nat}(h:iF cw cn):cw<=32:=by have:=h.2;omega
theorem iF.n {cw cn:Nat}(h:iF cw cn):cn<=64:=by have:=h.1;have:=h.2;omega
def aH1 (cw r h:Nat):Nat:=(h/4294967296+r*(h%4294967296))%cw
def aFl (cw r h:Nat):Nat:=r*cw+aH1 cw r h
theorem aI3 {cw cn:Nat}(hcw:iF cw cn)(r h:Nat):aH1 cw r h<cw:=Nat.mod_lt _ (by have:=hcw.lo;omega)
theorem aQ0 {cw cn:Nat}(hcw:iF cw cn)(r h:Nat)(hr:r<2):aFl cw r h<cn:=by
 have h1:=aI3 hcw r h;have h2:=hcw.1;have hc:r=0\/r=1:=by omega
 unfold aFl;rcases hc with rfl|rfl<;>omega
def dK (l:List Nat):Prop:=∀x∈l,x<=aJ
theorem aIh {l:List Nat}(h:dK l)(p:Nat):l.getD p 0<=aJ:=by
 simp only[List.getD];cases e:l[p]? with
 |none=>simp
 |some x=>exact h x (List.mem_of_getElem? e)
def fZ (cn:Nat):List Nat:=List.replicate cn 0
theorem iE (cn:Nat):(fZ cn).length=cn:=by simp[fZ]
theorem mF (cn:Nat):dK (fZ cn):=λx hx=>by rw[(List.mem_replicate.1 hx).2];exact Nat.zero_le _
def vQ (f v:Nat):Nat:=if v=0 then 0 else 1+Nat.log2 v*2^f+(v-2^Nat.log2 v)*2^f/2^Nat.log2 v
theorem aI6 {v:Nat}(h:v≠0):2^Nat.log2 v<=v:=Nat.log2_self_le h
theorem aJl {v:Nat}:v<2^(Nat.log2 v+1):=Nat.lt_log2_self
theorem aJv (f v:Nat):(v-2^Nat.log2 v)*2^f/2^Nat.log2 v<2^f:=by
 have h:=aJl (v:=v);have hp:0<2^Nat.log2 v:=Nat.pow_pos (by decide);have hf:0<2^f:=Nat.pow_pos (by decide);rw[Nat.pow_succ] at h;rw[Nat.div_lt_iff_lt_mul hp,Nat.mul_comm];exact Nat.mul_lt_mul_of_pos_left (by omega) hf
def jU (at' n:Nat):List (Nat×Nat)->List (Nat×Nat)
 |[]=>if n=0 then [] else [(at',n)]
 |x::l=>if at'<x.1 then(if n=0 then x::l else(at',n)::x::l) else if at'=x.1 then(at',jF x.2 n)::l else x::jU at' n l
def jD (l:List (Nat×Nat)):Prop:=l.Pairwise (λx y=>x.1<y.1)
def nJ (l:List (Nat×Nat)):Prop:=∀x∈l,0<x.2/\x.2<=aJ
theorem wO (a n:Nat)(hn:n<=aJ):∀l,nJ l->nJ (jU a n l)
 |[],_=>by
  unfold jU;split
  .intro x hx;simp at hx
  .rename_i c;intro x hx;simp at hx;subst hx;exact⟨by show 0<n;omega,hn⟩
 |x::l,h=>by
  have hx:=h x (by simp);have hl:nJ l:=λy hy=>h y (by simp[hy]);unfold jU;split
  .split
   .exact h
   .rename_i c;intro y hy;rcases List.mem_cons.1 hy with rfl|hy
    .exact⟨by show 0<n;omega,hn⟩
    .exact h y hy
  .split
   .intro y hy;rcases List.mem_cons.1 hy with rfl|hy
    .refine⟨?_,lB _ _⟩;show 0<jF x.2 n;unfold jF aJ;have:=hx.1;omega
    .exact hl y hy
   .intro y hy;rcases List.mem_cons.1 hy with rfl|hy
    .exact hx
    .exact wO a n hn l hl y hy
theorem oX (a n:Nat):∀(l:List (Nat×Nat)) (y:Nat×Nat),y∈jU a n l->y.1=a\/y∈l
 |[],y,h=>by
  unfold jU at h;split at h
  .simp at h
  .simp at h;subst h;exact .inl rfl
 |x::l,y,h=>by
  unfold jU at h;split at h
  .split at h
   .exact .inr h
   .rcases List.mem_cons.1 h with rfl|h
    .exact .inl rfl
    .exact .inr h
  .split at h
   .rcases List.mem_cons.1 h with rfl|h
    .exact .inl rfl
    .exact .inr (List.mem_cons_of_mem _ h)
   .rcases List.mem_cons.1 h with rfl|h
    .exact .inr (by simp)
    .rcases oX a n l y h with h|h
     .exact .inl h
     .exact .inr (List.mem_cons_of_mem _ h)
theorem xN (a n:Nat):∀l,jD l->jD (jU a n l)
 |[],_=>by unfold jU;split<;>simp[jD]
 |x::l,h=>by
  obtain⟨h1,h2⟩:=List.pairwise_cons.1 h;unfold jU;split
  .split
   .exact h
   .rename_i c _;refine List.pairwise_cons.2 ⟨λy hy=> ?_,h⟩;rcases List.mem_cons.1 hy with rfl|hy
    .exact c
    .exact Nat.lt_trans c (h1 y hy)
  .split
   .rename_i _ c;refine List.pairwise_cons.2 ⟨λy hy=> ?_,h2⟩;have:=h1 y hy;show a<y.1;omega
   .refine List.pairwise_cons.2 ⟨λy hy=> ?_,xN a n l h2⟩;rcases oX a n l y hy with e|hy
    .rw[e];omega
    .exact h1 y hy
section
open Go.Maps
def iY (x:Nat×Nat):Lit×DataW Unit:=(.int .i64 (x.1:Nat),.lit (.int .u64 (x.2:Nat)))
def dM (l:List (Nat×Nat)):DataW Unit:=.map (l.map iY)
def mT (a n:Nat):List (Nat×Nat)->List (Nat×Nat)
 |[]=>[(a,n)]
 |x::l=>if a<x.1 then(a,n)::x::l else if a=x.1 then(a,n)::l else x::mT a n l
def mP (a:Nat):List (Nat×Nat)->Nat
 |[]=>0
 |x::l=>if a=x.1 then x.2 else mP a l
theorem xR (x y:Nat×Nat):(iY x).1.before (iY y).1=decide (x.1<y.1):=by
 simp[iY,Lit.before]
theorem oR (a:Nat)(x:Nat×Nat):(iY x).1.sameKey (.int .i64 (a:Nat))=decide (x.1=a):=by
 simp[iY,Lit.sameKey];omega
theorem uQ (a:Nat):∀l:List (Nat×Nat),(∀x∈l,x.1≠a)->(l.map iY).filter (λp=> !p.1.sameKey (.int .i64 (a:Nat)))=l.map iY:=by
 intro l h;rw[List.filter_eq_self];intro p hp;obtain⟨x,hx,rfl⟩:=List.mem_map.1 hp;rw[oR]
 simpa using h x hx
theorem xX (x:Nat×Nat):∀l:List (Nat×Nat),(∀y∈l,x.1<y.1)->DataW.insert (iY x) (l.map iY)=iY x::l.map iY
 |[],_=>rfl
 |y::l,h=>by
  show(if(iY x).1.before (iY y).1 then _ else _)=_;rw[xR,decide_eq_true (h y (by simp))];rfl
theorem aJr (a n:Nat):∀l:List (Nat×Nat),jD l->DataW.insert (iY (a,n)) ((l.map iY).filter (λp=> !p.1.sameKey (.int .i64 (a:Nat))))=(mT a n l).map iY
 |[],_=>rfl
 |x::l,h=>by
  have hl:jD l:=(List.pairwise_cons.1 h).2;have hx:∀y∈l,x.1<y.1:=(List.pairwise_cons.1 h).1;unfold mT
  by_cases c1:a<x.1
  .rw[if_pos c1,uQ a (x::l) (λy hy=>by
    rcases List.mem_cons.1 hy with rfl|hy
    .omega
    .have:=hx y hy;omega)]
   rw[xX (a,n) (x::l) (λy hy=>by
    rcases List.mem_cons.1 hy with rfl|hy
    .exact c1
    .exact Nat.lt_trans c1 (hx y hy))]
   rfl
  .rw[if_neg c1]
   by_cases c2:a=x.1
   .rw[if_pos c2];rw[List.map_cons,List.filter_cons_of_neg (by rw[oR];simp[c2]),uQ a l (λy hy=>by have:=hx y hy;omega),xX (a,n) l (λy hy=>by have:=hx y hy;show a<_;omega)];rfl
   .rw[if_neg c2];rw[List.map_cons,List.filter_cons_of_pos (by rw[oR];simp;omega)];show(if(iY (a,n)).1.before (iY x).1 then _ else _)=_;rw[xR,decide_eq_false (by show¬a<x.1;exact c1),if_neg (by decide),aJr a n l hl];rfl
theorem aS8 {l:List (Nat×Nat)}(h:jD l)(a n:Nat):(dM l).put (.int .i64 (a:Nat)) (.lit (.int .u64 (n:Nat)))=dM (mT a n l):=congrArg DataW.map (aJr a n l h)
theorem aSs (a:Nat):∀l:List (Nat×Nat),(dM l).atKey (.int .i64 (a:Nat)) (.lit (.int .u64 0))=.lit (.int .u64 (mP a l:Nat))
 |[]=>rfl
 |x::l=>by
  have ih:=aSs a l;simp only[dM,List.map_cons,DataW.atKey] at ih⊢;unfold mP
  by_cases c:a=x.1
  .rw[List.find?_cons_of_pos (by rw[oR];simp[c]),if_pos c];rfl
  .rw[List.find?_cons_of_neg (by rw[oR];simp;omega),if_neg c];exact ih
theorem aDf (a n:Nat):∀l,jD l->jD (mT a n l)/\∀x∈mT a n l,x.1=a\/x∈l
 |[],_=>⟨List.pairwise_singleton _ _,by simp[mT]⟩
 |x::l,h=>by
  obtain⟨h1,h2⟩:=List.pairwise_cons.1 h;unfold mT;split
  .rename_i c;refine⟨List.pairwise_cons.2 ⟨λy hy=> ?_,h⟩,λy hy=> ?_⟩
   .rcases List.mem_cons.1 hy with rfl|hy
    .exact c
    .exact Nat.lt_trans c (h1 y hy)
   .rcases List.mem_cons.1 hy with rfl|hy
    .exact .inl rfl
    .exact .inr hy
  .split
   .rename_i c;refine⟨List.pairwise_cons.2 ⟨λy hy=>by have:=h1 y hy;show a<_;omega,h2⟩,λy hy=> ?_⟩;rcases List.mem_cons.1 hy with rfl|hy
    .exact .inl rfl
    .exact .inr (by simp[hy])
   .obtain⟨i1,i2⟩:=aDf a n l h2;refine⟨List.pairwise_cons.2 ⟨λy hy=> ?_,i1⟩,λy hy=> ?_⟩
    .rcases i2 y hy with e|hy
     .rw[e];omega
     .exact h1 y hy
    .rcases List.mem_cons.1 hy with rfl|hy
     .exact .inr (by simp)
     .rcases i2 y hy with e|hy
      .exact .inl e
      .exact .inr (by simp[hy])
def sG (a n:Nat)(l:List (Nat×Nat)):List (Nat×Nat):=mT a (jF (mP a l) n) l
def kD (l:List (Nat×Nat)):List (Nat×Nat):=l.filter (λx=>x.2 !=0)
theorem lV {l:List (Nat×Nat)}(h:nJ l):kD l=l:=List.filter_eq_self.2 (λx hx=>by have:=(h x hx).1;simp;omega)
theorem pD (a n:Nat)(hn:n<=aJ):∀l,jD l->nJ l->kD (sG a n l)=jU a n l
 |[],_,_=>by
  show List.filter _ [(a,jF 0 n)]=jU a n [];have e:jF 0 n=n:=by unfold jF;omega
  rw[e];unfold jU
  by_cases c:n=0
  .rw[if_pos c];simp[c]
  .rw[if_neg c];simp[c]
 |x::l,h,hp=>by
  obtain⟨h1,h2⟩:=List.pairwise_cons.1 h;have hpl:nJ l:=λy hy=>hp y (by simp[hy]);have hpx:=hp x (by simp);unfold sG mT jU mP
  by_cases c1:a<x.1
  .have e0:mP a l=0:=by
    clear hp hpl
    induction l with
    |nil=>rfl
    |cons y l ih=>
     unfold mP;have:=h1 y (by simp);rw[if_neg (by omega)];exact ih (List.pairwise_cons.2 ⟨λz hz=>h1 z (by simp[hz]),(List.pairwise_cons.1 h2).2⟩) (λz hz=>h1 z (by simp[hz])) (List.pairwise_cons.1 h2).2
   have e:jF 0 n=n:=by unfold jF;omega
   rw[if_pos c1,if_pos c1,if_neg (by omega),e0,e];show List.filter _ ((a,n)::x::l)=_;have hk:=lV hp;unfold kD at hk
   by_cases c:n=0
   .rw[if_pos c,List.filter_cons_of_neg (by simp[c])];exact hk
   .rw[if_neg c,List.filter_cons_of_pos (by simp[c]),hk]
  .rw[if_neg c1,if_neg c1]
   by_cases c2:a=x.1
   .rw[if_pos c2,if_pos c2,if_pos c2];have hk:=lV hpl;unfold kD at hk⊢;rw[List.filter_cons_of_pos (by simp;unfold jF aJ;omega),hk]
   .rw[if_neg c2,if_neg c2,if_neg c2];have ih:=pD a n hn l h2 hpl;unfold sG kD at ih;unfold kD;rw[List.filter_cons_of_pos (by simp;omega),ih]
end
end Go.Proofs.YtmgdbfmlnmahpaaGreatDoor
