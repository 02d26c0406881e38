/- Part of TopAudits. -/
import Derived.Test.YtmgdbfmlnmahpaaGreatDoorG08
namespace Go.Proofs.YtmgdbfmlnmahpaaGreatDoor
set_option linter.unusedSimpArgs false
set_option linter.unusedVariables false
set_option maxRecDepth 100000
set_option maxHeartbeats 4000000
open Go.RowKit
section
variable {a:Act} {w:World}
section
variable {n r:Nat} {P:Program} {ops:Array Oper} {md:Region.Mode} {C:World->Prop}
theorem vS {o:Oper}{K:Act->Prop}{K':Act->World->Prop}{Q':Exit->Act->World->Prop}(hw:C w)(h:∀a w',C w'->K a->K' a w')(hd:∀c,o.op≠.defer c)(hh:o.quiet P a C K):o.wpIn (Fence.wide.inRound r) n P a w K' Q':=by
 obtain⟨v,h1,h2⟩:=hh;have h3:=h1 w hw;unfold Oper.quietAt at h3;unfold Oper.wpIn;refine⟨λ_ _=>trivial,?_⟩;rw[Oper.semAt_eq _ _ _ hd];generalize(execOp a.eval o).run P w=res at*;cases res with
 |ok n w'=>
  cases n<;>simp only[Oper.quietUpon] at h3<;>simp only[Oper.uponIn]
  case value u=>
   obtain⟨e1,e2⟩:=h3;rw[e1,e2];exact h _ _ hw h2
  case skip=>
   obtain⟨e1,e2⟩:=h3;rw[e1,<-e2];exact h _ _ hw h2
  case enter f args=>
   obtain⟨e1,hc⟩:=h3;rw[e1];refine⟨λhd'=>by simp[Fence.wide,Fence.inRound] at hd',CallsIn.inRound r (callsIn_wide.2 ?_)⟩;exact hc.mono λe w'' ⟨he,hw''⟩=>by subst he;exact h _ _ hw'' h2
 |halt x w'=>simp only[Oper.quietUpon] at h3
def kC (ops:Array Oper):Bool:=ops.all λo=>match o.op with| .defer _=>false|_=>true
theorem xK {ops:Array Oper}(h:kC ops=true){i:Nat}{o:Oper}(hi:ops[i]? =some o):∀c,o.op≠.defer c:=by
 intro c e;have hm:o∈ops:=Array.mem_of_getElem? hi;have:=Array.all_eq_true_iff_forall_mem.1 h o hm;rw[e] at this;cases this
theorem xM (hnd:kC ops=true){i:Nat}{a:Act}{K:Act->Prop}{K':Act->World->Prop}{Q':Exit->Act->World->Prop}{w:World}(hC:C w)(h:∀a w',C w'->K a->K' a w')(hh:qOp P ops C i K a):wpOpIn (Fence.wide.inRound r) n P ops Q' i K' a w:=by
 unfold qOp at hh;unfold wpOpIn;split
 .rename_i ho;simp only[ho] at hh;exact h _ _ hC hh
 .rename_i o ho;simp only[ho] at hh;split
  .rename_i hw;simp only[hw,if_true] at hh;exact vS hC h (xK hnd (by assumption)) hh
  .rename_i hw;simp only[hw] at hh;exact⟨λ_ _=>trivial,h _ _ hC hh⟩
theorem kN (hnd:kC ops=true){m g:Nat}{L:Array Bool->Act->Prop}{Q':Exit->Act->World->Prop}(hL:∀listed a w,C w->L listed a->wpAnyIn (Fence.wide.inRound r) n P md ops Q' g listed a w):
  ∀(f:Nat) (listed:Array Bool) (a:Act) (w:World),C w->mC P md ops C m L f listed a->wpAnyIn (Fence.wide.inRound r) n P md ops Q' (f+g) listed a w
 |0,listed,a,w,hw,h=>by rw[Nat.zero_add];exact hL _ _ _ hw h
 |f+1,listed,a,w,hw,h=>by
  rw[show f+1+g=(f+g)+1 by omega];exact⟨λh0=>absurd h0 h.1,λi hi=>xM hnd hw (λa' w' hw' h'=>kN hnd hL f _ a' w' hw' h') (h.2 i hi).2⟩
theorem iZ {Q':Exit->Act->World->Prop}:∀(l:List Oper) (k:Nat) (listed:Array Bool) (a:Act) (w:World),(∀j,l[j]? =ops[k+j]?)->
  Region.seqB md ops l.length k listed=true->wpListIn (Fence.wide.inRound r) n P ops Q' l a w->wpAnyIn (Fence.wide.inRound r) n P md ops Q' l.length listed a w
 |[],_,_,_,_,_,hB,h=>⟨by simpa[Region.seqB] using hB,h⟩
 |o::l,k,listed,a,w,hl,hB,h=>by
  have h0:ops[k]? =some o:=by simpa using(hl 0).symm
  simp only[List.length_cons,Region.seqB,Bool.and_eq_true,decide_eq_true_eq] at hB;refine⟨λh1=>(by rw[hB.1] at h1;cases h1),λi hi=> ?_⟩;rw[hB.1] at hi;have hik:i=k:=by simpa using hi
  subst hik;have hw:wpOpIn (Fence.wide.inRound r) n P ops Q' i (wpListIn (Fence.wide.inRound r) n P ops Q' l) a w:=by unfold wpOpIn;simp only[h0];exact h
  exact wpOpIn_mono (λa' w' h'=>iZ l (i+1) _ a' w' (λj=>by have:=hl (j+1);simpa[Nat.add_assoc,Nat.add_comm 1 j] using this) hB.2 h') hw
theorem nY {id:Nat}{Q:Exit->Act->World->Prop}{l:List Oper}(C:World->Prop)(m:Nat)(hm:P.follows .mixedOrders=true)(hB:Region.lexTailB .any l.toArray m=true)(hnd:kC l.toArray=true)(hC:C w.drew)
  (h:wpQuiet P l.toArray C (λa'=>∀w',C w'->wpListIn (Fence.wide.inRound r) n P l.toArray Q (l.drop m) a' w') (l.take m) a):(Code.region id l.toArray true).wpIn (Fence.wide.inRound r) n P Q a w:=by
 simp only[Region.lexTailB,Bool.and_eq_true,decide_eq_true_eq] at hB;obtain⟨⟨⟨⟨hsel,hn⟩,hs⟩,hc⟩,hlex⟩:=hB;have hn':m<l.length:=by simpa using hn
 have htl:(l.take m).length=m:=by simp;omega
 have hdl:(l.drop m).length=l.toArray.size-m:=by simp
 have inv0:HeadInv .any l.toArray m (Array.replicate l.toArray.size false):=
  ⟨by simp,λj oj _ hl=>(by rw[getD_replicate_false] at hl;cases hl),λt _ ht=>getD_in (by simpa using ht) (getD_replicate_false _ _)⟩
 have H:=kK (md:=.any) (g:=l.toArray.size-m) hsel hs hc hn (l.take m) 0 _ a (λj hj=>by
  have hj':j<m:=by rw[htl] at hj;exact hj
  simp[hj']) (by simpa using htl) inv0 (by rw[htl];exact hlex) h
 refine wpIn_region_any hm ?_;have:=kN hnd (n:=n) (Q':=Q) (g:=l.toArray.size-m) (λlisted a' w' hw' hL=>by
  have:=iZ (n:=n) (md:=.any) (Q':=Q) (l.drop m) m listed a' w' (λj=>by simp[List.getElem?_drop]) (by rw[hdl];exact hL.1) (hL.2 w' hw');rwa[hdl] at this) _ _ _ w.drew hC H
 rw[htl,show m+(l.toArray.size-m)=l.toArray.size by omega] at this;exact this
theorem kR {id:Nat}{Q:Exit->Act->World->Prop}{w0:World}{bl:List cH}{E:World->Prop}{l:List Oper}(st:St w0 bl E w)(m:Nat)(hm:P.follows .mixedOrders=true)(hB:Region.lexTailB .any l.toArray m=true)(hnd:kC l.toArray=true)
  (h:wpQuiet P l.toArray (λW=>∃x:Cs w0 bl E,W=x.W) (λa'=>∀x:Cs w0 bl E,wpListIn (Fence.wide.inRound r) n P l.toArray Q (l.drop m) a' x.W) (l.take m) a):(Code.region id l.toArray true).wpIn (Fence.wide.inRound r) n P Q a w:=
 nY (λW=>∃x:Cs w0 bl E,W=x.W) m hm hB hnd ⟨⟨w.drew,st.drew⟩,rfl⟩ (by
  have e:(λa':Act=>∀w',(∃x:Cs w0 bl E,w'=x.W)->wpListIn (Fence.wide.inRound r) n P l.toArray Q (l.drop m) a' w')=λa'=>∀x:Cs w0 bl E,wpListIn (Fence.wide.inRound r) n P l.toArray Q (l.drop m) a' x.W:=by
   funext a';exact propext ⟨λh x=>h _ ⟨x,rfl⟩,λh w' ⟨x,e⟩=>e▸h x⟩
  rw[e];exact h)
end
end
section
section
variable {r d:Nat} {P:Program} {l:List Oper} {a₀:Act} {w:World} {F:Nat->Value->World->Prop} {n:Nat} {Q:Exit->Act->World->Prop}
theorem aHo {o:Oper}{a:Act}{W:World}{G:Value->World->Prop}{K:Act->World->Prop}{Q':Exit->Act->World->Prop}(hd:∀c,o.op≠.defer c)(h:sO P W G ((execOp a.eval o).run P W))
  (hK:∀v W',Below W.heap.size W W'->G v W'->K (a.put o.dst v) W'):o.wpIn (Fence.wide.inRound r) d P a W K Q':=by
 unfold Oper.wpIn;refine⟨λ_ _=>trivial,?_⟩;rw[Oper.semAt_eq _ _ _ hd];generalize(execOp a.eval o).run P W=res at*;cases res with
 |ok x W'=>
  cases x<;>simp only[sO] at h<;>simp only[Oper.uponIn]
  case value v=>exact hK _ _ h.1 h.2
  case skip=>exact hK _ _ h.1 h.2
  case enter f args=>
   refine⟨λhd'=>by simp[Fence.wide,Fence.inRound] at hd',CallsIn.inRound r (callsIn_wide.2 ?_)⟩;exact h.2.mono λe W'' ⟨v,he,hb,hg⟩=>by subst he;exact hK _ _ (h.1.trans (hb.mono h.1.size)) hg
 |halt x W'=>simp only[sO] at h
theorem aCc {id:Nat}(n:Nat)(F:Nat->Value->World->Prop)(hm:P.follows .mixedOrders=true)(hnd:kC l.toArray=true)(hB:lL l.toArray n=true)
  (hslots:((eJ (l.take n)).all λd=>decide (d<a₀.tmps.size))=true)
  (hF:∀i v W W',F i v W->Below W.heap.size W W'->F i v W')
  (hs:fQ P l.toArray a₀ w (l.take n) F 0 (l.take n))
  (hend:∀(v:Nat->Value) (W:World),Below w.heap.size w W->(∀j,j<n->F j (v j) W)->wpListIn (Fence.wide.inRound r) d P l.toArray Q (l.drop n) (fS (l.take n) 0 v a₀) W):
  (Code.region id l.toArray true).wpIn (Fence.wide.inRound r) d P Q a₀ w:=by
 simp only[lL,Bool.and_eq_true,decide_eq_true_eq] at hB;obtain⟨⟨⟨⟨⟨⟨hn,hsk⟩,hch⟩,hback⟩,hsome⟩,hnod⟩,hseq⟩:=hB;simp only[List.size_toArray] at hn hseq hback;refine wpIn_region_any hm (wS (R:=wpAnyIn (Fence.wide.inRound r) d P .any l.toArray Q) (J:=λ_ _ W=>Below w.heap.size w W) (F:=F) (n:=n) (by omega) hback hsome hnod hslots aW.drew ?_ ?_)
 .rintro v listed a W inv rfl rfl-hf;have h3:=iZ (n:=d) (r:=r) (md:=.any) (Q':=Q) (l.drop n) n (Array.replicate n true++Array.replicate (l.length-n) false) _ W (λj=>by simp[List.getElem?_drop]) (by simpa using hseq) (hend v W inv.inv hf)
  simpa using h3
 .intro f listed a W inv k hk hkr next;refine⟨λh=>(by rw[h] at hkr;cases hkr),λi hi=> ?_⟩;have hin:i<n:=by
   rcases Nat.lt_or_ge i n with h|h
   .exact h
   .exact absurd hi (tail_waits hsk hch (by simpa using hn) inv.head _ k rfl hk (mem_ready.1 hkr).1 i h)
  obtain⟨hiun,oi,hoi,_⟩:=mem_ready.1 hi;have ho:l[i]? =some oi:=by simpa using hoi
  have hisz:i<listed.size:=by
   have:=inv.head.size;simp only[List.size_toArray] at this;omega
  have hl:∀j,j<n->(l.take n)[j]? =l[j]? :=λj hj=>by simp[hj]
  have hstep:=inv.spec hs hin hi ho;have nx:∀v W',Below W.heap.size W W'->F i v W'->_:=λv W' hb hv=>next i oi hin hi ho v W' (λj x _ h=>hF j x _ _ h hb) hv (inv.inv.trans (hb.mono inv.inv.size));unfold wpOpIn;simp only[hoi];unfold eH at hstep;split
  .rename_i hw;simp only[hw,if_true] at hstep;exact aHo (xK hnd hoi) hstep nx
  .rename_i hw;simp only[hw] at hstep;exact⟨λ_ _=>trivial,nx undef W aW hstep⟩
end
end
section
variable {ops:Array Oper} {d j:Nat} {F:Nat->Value->World->Prop} {o:Oper} {W:World}
inductive uT where
 |val (c:Value)
 |fct (f:Value->World->Prop) (st:bO f)
def uT.p :uT->Value->World->Prop
 | .val c=>dC c
 | .fct f _=>f
theorem uT.aX6 :∀F:uT,bO F.p
 | .val c=>aS c
 | .fct _ st=>st
def uT.po :Option uT->Value->World->Prop
 |some F=>F.p
 |none=>λ_ _=>True
theorem uT.aXw :∀F:Option uT,bO (uT.po F)
 |some F=>F.aX6
 |none=>λ_ _ _ _ _=>trivial
def Fp (l:List uT)(i:Nat):Value->World->Prop:=uT.po l[i]?
theorem lJ (l:List uT):∀i v W W',Fp l i v W->Below W.heap.size W W'->Fp l i v W':=λi v W W' h hb=>uT.aXw _ v W W' h hb
def oQ :List uT->Nat->(Nat->Value)->World->Prop
 |[],_,_,_=>True
 | .val _::r,j,v,W=>oQ r (j+1) v W
 | .fct f _::r,j,v,W=>f (v j) W/\oQ r (j+1) v W
def nI :List Oper->List uT->Nat->(Nat->Value)->Act->Act
 |o::r,.val c::fs,j,v,a=>nI r fs (j+1) v (a.put o.dst c)
 |o::r,.fct _ _::fs,j,v,a=>nI r fs (j+1) v (a.put o.dst (v j))
 |_,_,_,_,a=>a
theorem jW :∀(fs:List uT) (k:Nat) (v:Nat->Value) (W:World),(∀j,j<fs.length->Fp fs j (v (k+j)) W)->oQ fs k v W
 |[],_,_,_,_=>trivial
 | .val c::r,k,v,W,h=>jW r (k+1) v W λj hj=>by
  have:=h (j+1) (by simpa using hj);rwa[show k+(j+1)=k+1+j by omega] at this
 | .fct f _::r,k,v,W,h=>⟨h 0 (by simp),jW r (k+1) v W λj hj=>by
  have:=h (j+1) (by simpa using hj);rwa[show k+(j+1)=k+1+j by omega] at this⟩
theorem mD :∀(l:List Oper) (fs:List uT) (k:Nat) (v:Nat->Value) (W:World) (a:Act),l.length=fs.length->(∀j,j<fs.length->Fp fs j (v (k+j)) W)->nI l fs k v a=fS l k v a
 |[],[],_,_,_,_,_,_=>rfl
 |o::r,.val c::fs,k,v,W,a,hl,h=>by
  have h0:v k=c:=h 0 (by simp);show nI r fs (k+1) v (a.put o.dst c)=fS r (k+1) v (a.put o.dst (v k));rw[h0];exact mD r fs (k+1) v W _ (by simpa using hl) λj hj=>by
   have:=h (j+1) (by simpa using hj);rwa[show k+(j+1)=k+1+j by omega] at this
 |o::r,.fct f _::fs,k,v,W,a,hl,h=>by
  show nI r fs (k+1) v (a.put o.dst (v k))=fS r (k+1) v (a.put o.dst (v k));exact mD r fs (k+1) v W _ (by simpa using hl) λj hj=>by
   have:=h (j+1) (by simpa using hj);rwa[show k+(j+1)=k+1+j by omega] at this
section
variable {P:Program} {l:List Oper} {a₀:Act} {w w0:World} {bl:List cH} {E:World->Prop} {n:Nat} {Q:Exit->Act->World->Prop}
def aQq (ops:Array Oper)(F:Nat->Value->World->Prop)(o:Oper)(ρ:Operand->Value)(W:World):Prop:=
 ∀i d,(o.after.any λe=>Region.binds .any e&&e.on==i)=true->((ops[i]?).bind (·.dst))=some d->F i (ρ (.tmp d)) W
def aQ3 (a₀:Act)(head:List Oper)(ρ:Operand->Value):Prop:=∀t,(eJ head).contains t=false->ρ (.tmp t)=a₀.eval (.tmp t)
theorem cR {a₀:Act}{head:List Oper}{ρ:Operand->Value}(h:Hid (aQ3 a₀ head ρ))(t:Nat)(e:(eJ head).contains t=false:=by kernel_rfl):ρ (.tmp t)=a₀.eval (.tmp t):=h.out t e
theorem aK {ρ:Operand->Value}(h:Hid (aQq ops F o ρ W))(i d:Nat)(e:(o.after.any λe=>Region.binds .any e&&e.on==i)=true:=by kernel_rfl)(e':((ops[i]?).bind (·.dst))=some d:=by rfl):F i (ρ (.tmp d)) W:=h.out i d e e'
def OpS (P:Program)(ops:Array Oper)(F:Nat->Value->World->Prop)(j:Nat)(o:Oper)(ρ:Operand->Value)(W:World):Prop:=
 match o.guard with
 |none=>sO P W (F j) ((execOp ρ o).run P W)
 |some (i,b)=>match(ops[i]?).bind (·.dst) with
  |some d=>(ρ (.tmp d)=.bool b/\sO P W (F j) ((execOp ρ o).run P W))\/(ρ (.tmp d)=.bool (!b)/\F j undef W)
  |none=>False
def nC (P:Program)(ops:Array Oper)(a₀:Act)(w0:World)(bl:List cH)(E:World->Prop)(w:World)(head:List Oper)(F:Nat->Value->World->Prop):Nat->List Oper->Prop
 |_,[]=>True
 |j,o::r=>(∀(ρ:Operand->Value) (W:World),(∀c,ρ (.const c)=c)->(∀f,ρ (.func f)=.func (.func f) #[] #[])->Below w.heap.size w W->St w0 bl E W->aI W bl->
   Hid (aQ3 a₀ head ρ)->Hid (aQq ops F o ρ W)->OpS P ops F j o ρ W)/\nC P ops a₀ w0 bl E w head F (j+1) r
theorem aF {ρ:Operand->Value}(hg:o.guard=none)(h:sO P W (F j) ((execOp ρ o).run P W)):OpS P ops F j o ρ W:=by
 unfold OpS;rw[hg];exact h
theorem fT {i:Nat}{b:Bool}{ρ:Operand->Value}(hg:o.guard=some (i,b))(hd:((ops[i]?).bind (·.dst))=some d)(hb:ρ (.tmp d)=.bool b)(h:sO P W (F j) ((execOp ρ o).run P W)):OpS P ops F j o ρ W:=by
 unfold OpS;simp only[hg,hd];exact .inl ⟨hb,h⟩
theorem iG {i:Nat}{b:Bool}{ρ:Operand->Value}(hg:o.guard=some (i,b))(hd:((ops[i]?).bind (·.dst))=some d)(hb:ρ (.tmp d)=.bool (!b))(h:F j undef W):OpS P ops F j o ρ W:=by
 unfold OpS;simp only[hg,hd];exact .inr ⟨hb,h⟩
theorem aM8 {a:Act}(h:OpS P ops F j o a.eval W):eH P ops o a W (F j):=by
 unfold OpS at h;unfold eH Region.wanted;split at h
 .rename_i hg;simp only[hg,if_true];exact h
 .rename_i i b hg;simp only[hg];split at h
  .rename_i d hd;have key:∀c,a.eval (.tmp d)=.bool c->yielded ops a.tmps i=some c:=by
    intro c hc;have hc':a.tmps.getD d undef=.bool c:=hc;have h1:a.tmps[d]? =some (.bool c):=by
     rw[Array.getD_eq_getD_getElem?] at hc';cases e:a.tmps[d]? with
     |none=>rw[e] at hc';cases hc'
     |some x=>rw[e] at hc';exact congrArg some hc'
    unfold yielded;rw[hd,Option.bind_some,h1]
   rcases h with⟨h1,h2⟩|⟨h1,h2⟩
   .rw[key _ h1];simpa using h2
   .rw[key _ h1];cases b<;>simpa using h2
  .exact absurd h id
theorem nC.aXh {head:List Oper}(st:St w0 bl E w):∀(l:List Oper) (j:Nat),nC P ops a₀ w0 bl E w head F j l->fQ P ops a₀ w head F j l
 |[],_,_=>trivial
 |o::r,j,h=>⟨λa W hW hu hd=>aM8 (h.1 a.eval W (λ_=>rfl) (λ_=>rfl) hW (st.to hW) (st.to hW).rules (λt ht=>hu t (by simpa using ht)) hd),nC.aXh st r (j+1) h.2⟩
theorem oN {n:Nat}{fs:List uT}(hn:n<=l.length)(hf:fs.length=n):(l.take n).length=fs.length:=by rw[List.length_take,hf];omega
theorem aWe (st:St w0 bl E w){id:Nat}(n:Nat)(fs:List uT)(hf:fs.length=n)(hm:P.follows .mixedOrders=true)(hB:lL l.toArray n=true)
  (hslots:((eJ (l.take n)).all λd=>decide (d<a₀.tmps.size))=true)
  (hs:nC P l.toArray a₀ w0 bl E w (l.take n) (Fp fs) 0 (l.take n))
  (hend:∀(v:Nat->Value) (W:World),Below w.heap.size w W->St w0 bl E W->aI W bl->oQ fs 0 v W->wpList P l.toArray Q (l.drop n) (nI (l.take n) fs 0 v a₀) W):
  (Code.region id l.toArray true).wp P Q a₀ w:=by
 have hn:n<l.length:=by
  have hB':=hB;simp only[lL,Bool.and_eq_true,decide_eq_true_eq] at hB'
  simpa using hB'.1.1.1.1.1.1
 refine aDm n (Fp fs) hm hB hslots (lJ fs) (hs.aXh st) ?_;intro v W hW hv;have hv':∀j,j<fs.length->Fp fs j (v (0+j)) W:=λj hj=>by rw[Nat.zero_add];exact hv j (by omega)
 have:=hend v W hW (st.to hW) (st.to hW).rules (jW fs 0 v W hv');rwa[mD (l.take n) fs 0 v W a₀ (oN (by omega) hf) hv'] at this
theorem aWa (st:St w0 bl E w){id:Nat}(n:Nat)(fs:List uT)(hf:fs.length=n)(hm:P.follows .mixedOrders=true)(hB:aO6 l.toArray n=true)
  (hslots:((eJ (l.take n)).all λd=>decide (d<a₀.tmps.size))=true)
  (hs:nC P l.toArray a₀ w0 bl E w (l.take n) (Fp fs) 0 (l.take n))
  (hend:∀(v:Nat->Value) (W:World),Below w.heap.size w W->St w0 bl E W->aI W bl->oQ fs 0 v W->wpList P l.toArray Q (l.drop n) (nI (l.take n) fs 0 v a₀) W):
  (Code.region id l.toArray true).wp P Q a₀ w:=by
 have hn:n=l.length:=by
  have hB':=hB;simp only[aO6,Bool.and_eq_true,decide_eq_true_eq] at hB'
  simpa using hB'.1.1.1.1
 refine aId n (Fp fs) hm hB hslots (lJ fs) (hs.aXh st) ?_;intro v W hW hv;have hv':∀j,j<fs.length->Fp fs j (v (0+j)) W:=λj hj=>by rw[Nat.zero_add];exact hv j (by omega)
 have:=hend v W hW (st.to hW) (st.to hW).rules (jW fs 0 v W hv');rwa[mD (l.take n) fs 0 v W a₀ (oN (by omega) hf) hv'] at this
theorem aV7 {r:Nat}(st:St w0 bl E w){id:Nat}(n:Nat)(fs:List uT)(hf:fs.length=n)(hm:P.follows .mixedOrders=true)(hnd:kC l.toArray=true)(hB:lL l.toArray n=true)
  (hslots:((eJ (l.take n)).all λd=>decide (d<a₀.tmps.size))=true)
  (hs:nC P l.toArray a₀ w0 bl E w (l.take n) (Fp fs) 0 (l.take n))
  (hend:∀(v:Nat->Value) (W:World),Below w.heap.size w W->St w0 bl E W->aI W bl->oQ fs 0 v W->wpListIn (Fence.wide.inRound r) d P l.toArray Q (l.drop n) (nI (l.take n) fs 0 v a₀) W):
  (Code.region id l.toArray true).wpIn (Fence.wide.inRound r) d P Q a₀ w:=by
 have hn:n<l.length:=by
  have hB':=hB;simp only[lL,Bool.and_eq_true,decide_eq_true_eq] at hB'
  simpa using hB'.1.1.1.1.1.1
 refine aCc n (Fp fs) hm hnd hB hslots (lJ fs) (hs.aXh st) ?_;intro v W hW hv;have hv':∀j,j<fs.length->Fp fs j (v (0+j)) W:=λj hj=>by rw[Nat.zero_add];exact hv j (by omega)
 have:=hend v W hW (st.to hW) (st.to hW).rules (jW fs 0 v W hv');rwa[mD (l.take n) fs 0 v W a₀ (oN (by omega) hf) hv'] at this
theorem rS (st:St w0 bl E w){id:Nat}(n:Nat)(fs:List uT){r:List Oper}{g:(Nat->Value)->Act}(hs:nC P l.toArray a₀ w0 bl E w (l.take n) (Fp fs) 0 (l.take n))
  (hend:∀(v:Nat->Value) (W:World),Below w.heap.size w W->St w0 bl E W->aI W bl->oQ fs 0 v W->wpList P l.toArray Q r (g v) W)
  (hf:fs.length=n:=by rfl) (hm:P.follows .mixedOrders=true:=by kernel_rfl) (hB:lL l.toArray n=true:=by kernel_rfl) (hslots:((eJ (l.take n)).all λd=>decide (d<a₀.tmps.size))=true:=by kernel_rfl)
  (er:l.drop n=r:=by simp only[List.drop_succ_cons,List.drop_zero];rfl) (eg:∀v,nI (l.take n) fs 0 v a₀=g v:=by intro v;simp only[List.take_succ_cons,List.take_zero,nI];rfl):(Code.region id l.toArray true).wp P Q a₀ w:=
 aWe st n fs hf hm hB hslots hs λv W h1 h2 h3 h4=>by rw[er,eg];exact hend v W h1 h2 h3 h4
theorem rA (st:St w0 bl E w){id:Nat}(n:Nat)(fs:List uT){r:List Oper}{g:(Nat->Value)->Act}(hs:nC P l.toArray a₀ w0 bl E w (l.take n) (Fp fs) 0 (l.take n))
  (hend:∀(v:Nat->Value) (W:World),Below w.heap.size w W->St w0 bl E W->aI W bl->oQ fs 0 v W->wpList P l.toArray Q r (g v) W)
  (hf:fs.length=n:=by rfl) (hm:P.follows .mixedOrders=true:=by kernel_rfl) (hB:aO6 l.toArray n=true:=by kernel_rfl) (hslots:((eJ (l.take n)).all λd=>decide (d<a₀.tmps.size))=true:=by kernel_rfl)
  (er:l.drop n=r:=by simp only[List.drop_succ_cons,List.drop_zero];rfl) (eg:∀v,nI (l.take n) fs 0 v a₀=g v:=by intro v;simp only[List.take_succ_cons,List.take_zero,nI];rfl):(Code.region id l.toArray true).wp P Q a₀ w:=
 aWa st n fs hf hm hB hslots hs λv W h1 h2 h3 h4=>by rw[er,eg];exact hend v W h1 h2 h3 h4
end
end
section
section
variable {P:Program} {l:List Oper} {a₀:Act} {w w0:World} {bl:List cH} {E:World->Prop} {n:Nat} {Q:Exit->Act->World->Prop}
theorem aVt (st:St w0 bl E w){id:Nat}(n:Nat)(qs:List Nat)(fs:List uT)(hf:fs.length=n)(hm:P.follows .mixedOrders=true)(hB:xD l.toArray n qs=true)
  (hslots:((eJ (l.take n)).all λd=>decide (d<a₀.tmps.size))=true)
  (hs:nC P l.toArray a₀ w0 bl E w (l.take n) (Fp fs) 0 (l.take n))
  (hq:∀q,q∈qs->∀oq,l[q]? =some oq->∀(ρ:Operand->Value) (W:World),(∀c,ρ (.const c)=c)->Hid (aQ3 a₀ (l.take n) ρ)->Hid (aQq l.toArray (Fp fs) oq ρ W)->∃vq,(∀W',(execOp ρ oq).run P W'=.ok (.value vq) W')/\∀W,Fp fs q vq W)
  (hQ:∀q oq d,q∈qs->l[q]? =some oq->oq.dst=some d->∀v c a w,Q (.panic c) (a.put (some d) v) w->Q (.panic c) a w)
  (hend:∀(v:Nat->Value) (W:World),Below w.heap.size w W->St w0 bl E W->aI W bl->oQ fs 0 v W->wpList P l.toArray Q (l.drop n) (nI (l.take n) fs 0 v a₀) W):
  (Code.region id l.toArray true).wp P Q a₀ w:=by
 have hn:n<l.length:=by
  have hB':=hB;simp only[xD,Bool.and_eq_true,decide_eq_true_eq] at hB';have h1:=hB'.1.1.1.1.1.1.1.1.1.1;simp at h1;omega
 refine aBx n qs (Fp fs) hm hB hslots (lJ fs) (hs.aXh st) ?_ hQ ?_
 .exact λq hqm oq ho a W hW hu hd=>hq q hqm oq ho a.eval W (λ_=>rfl) (λt ht=>hu t (by simpa using ht)) hd
 .intro v W hW hv;have hv':∀j,j<fs.length->Fp fs j (v (0+j)) W:=λj hj=>by rw[Nat.zero_add];exact hv j (by omega)
  have:=hend v W hW (st.to hW) (st.to hW).rules (jW fs 0 v W hv');rwa[mD (l.take n) fs 0 v W a₀ (oN (by omega) hf) hv'] at this
theorem rE (st:St w0 bl E w){id:Nat}(n:Nat)(qs:List Nat)(fs:List uT){r:List Oper}{g:(Nat->Value)->Act}(hs:nC P l.toArray a₀ w0 bl E w (l.take n) (Fp fs) 0 (l.take n))
  (hq:∀q,q∈qs->∀oq,l[q]? =some oq->∀(ρ:Operand->Value) (W:World),(∀c,ρ (.const c)=c)->Hid (aQ3 a₀ (l.take n) ρ)->Hid (aQq l.toArray (Fp fs) oq ρ W)->∃vq,(∀W',(execOp ρ oq).run P W'=.ok (.value vq) W')/\∀W,Fp fs q vq W)
  (hend:∀(v:Nat->Value) (W:World),Below w.heap.size w W->St w0 bl E W->aI W bl->oQ fs 0 v W->wpList P l.toArray Q r (g v) W)
  (hf:fs.length=n:=by rfl) (hm:P.follows .mixedOrders=true:=by kernel_rfl) (hB:xD l.toArray n qs=true:=by kernel_rfl) (hslots:((eJ (l.take n)).all λd=>decide (d<a₀.tmps.size))=true:=by kernel_rfl)
  (hQ:∀q oq d,q∈qs->l[q]? =some oq->oq.dst=some d->∀v c a w,Q (.panic c) (a.put (some d) v) w->Q (.panic c) a w:=by exact λ_ _ _ _ _ _ _ _ _ _ h=>h)
  (er:l.drop n=r:=by simp only[List.drop_succ_cons,List.drop_zero];rfl) (eg:∀v,nI (l.take n) fs 0 v a₀=g v:=by intro v;simp only[List.take_succ_cons,List.take_zero,nI];rfl):(Code.region id l.toArray true).wp P Q a₀ w:=
 aVt st n qs fs hf hm hB hslots hs hq hQ λv W h1 h2 h3 h4=>by rw[er,eg];exact hend v W h1 h2 h3 h4
end
end
section
section
variable {P:Program} {l:List Oper} {a₀:Act} {w w0:World} {bl:List cH} {E:World->Prop} {n:Nat} {Q:Exit->Act->World->Prop}
theorem aV9 (st:St w0 bl E w){id:Nat}(n:Nat)(fs:List uT)(hf:fs.length=n)(hm:P.follows .mixedOrders=true)(hB:aIz l.toArray n=true)
  (hslots:((eJ (l.take n)).all λd=>decide (d<a₀.tmps.size))=true)
  (hs:nC P l.toArray a₀ w0 bl E w (l.take n) (Fp fs) 0 (l.take n))
  (hend:∀(v:Nat->Value) (W:World),Below w.heap.size w W->St w0 bl E W->aI W bl->oQ fs 0 v W->wpAny P .any l.toArray Q (l.length-n) (Array.replicate n true++Array.replicate (l.length-n) false) (nI (l.take n) fs 0 v a₀) W):
  (Code.region id l.toArray true).wp P Q a₀ w:=by
 have hn:n<l.length:=by
  have hB':=hB;simp only[aIz,Bool.and_eq_true,decide_eq_true_eq] at hB';have h1:=hB'.1.1.1.1.1.1.1;simp at h1;omega
 refine aEz n (Fp fs) hm hB hslots (lJ fs) (hs.aXh st) ?_
 .intro v W hW hv;have hv':∀j,j<fs.length->Fp fs j (v (0+j)) W:=λj hj=>by rw[Nat.zero_add];exact hv j (by omega)
  have:=hend v W hW (st.to hW) (st.to hW).rules (jW fs 0 v W hv');rwa[mD (l.take n) fs 0 v W a₀ (oN (by omega) hf) hv'] at this
theorem vY {ops:Array Oper}{md:Region.Mode}{listed:Array Bool}{a:Act}{o1 o2:Oper}(k:Nat)(h1:ops[k]? =some o1)(h2:ops[k+1]? =some o2)(hn:ops.size=k+2)(hB:Region.seqB md ops 2 k listed=true)(h:wpList P ops Q [o1,o2] a w):wpAny P md ops Q 2 listed a w:=
 wpAny_of_seq [o1,o2] k listed a w (λj=>by
  match j with
  |0=>exact h1.symm
  |1=>exact h2.symm
  |j+2=>rw[Array.getElem?_eq_none (by omega)];rfl) hB h
end
end
end Go.Proofs.YtmgdbfmlnmahpaaGreatDoor
