/- Part of TopAudits. -/
import Derived.StillTail
import Derived.StillTailTactics
import Derived.Deep.QuietTactic
import Derived.BigQuiet
import Derived.Below
import Derived.RangeFuncBox
import Derived.OwnWalk
import Derived.OwnWalkIn
import Derived.ArgAppend
import Derived.Laws.OwnMore
import Derived.Laws.AppendOwnNone
import Derived.Laws.CopyOwn
import Derived.Laws.MakeOwn
import Derived.Test.YtmgdbfmlnmahpaaGreatDoorProg
import Derived.Laws.IdiomStrings
import Derived.Laws.Bits64
namespace Go.Proofs.YtmgdbfmlnmahpaaGreatDoor
set_option linter.unusedSimpArgs false
set_option linter.unusedVariables false
set_option maxRecDepth 100000
set_option maxHeartbeats 4000000
open Go.Proofs.Tryz
open Go.RowKit
section
theorem dR {a b c:Nat}(h:a<=b)(g:b<=c):a<=c:=Nat.le_trans h g
theorem kG {a b c:Nat}(h:a<b)(g:b<=c):a<c:=Nat.lt_of_lt_of_le h g
theorem cJ (a:Nat):0<=a:=Nat.zero_le a
theorem gJ {α:Type}{l:List α}{i:Nat}{a:α}:l[i]? =some a↔∃h:i<l.length,l[i]=a:=List.getElem?_eq_some_iff
theorem kH (w:World)(o:Obj):(w.alloc o).heap[w.heap.size]? =some o:=World.alloc_heap_new w o
theorem oSi {α:Type}{a b:α}(h:some a=some b):a=b:=Option.some.inj h
theorem aA {p:Prop}(h:p):Hid p:=h
theorem aH {n:Nat}:n<=n:=Nat.le_refl n
theorem aW {n:Nat}{w:World}:Below n w w:=Below.refl n w
theorem aB {a b:Prop}(h:a)(g:b):a/\b:=And.intro h g
theorem bK {α:Type}{l:List α}{i:Nat}{a:α}(h:l[i]? =some a):a∈l:=List.mem_of_getElem? h
theorem cZ {α:Type}{l:List α}{i:Nat}(h:i<l.length):l[i]? =some l[i]:=List.getElem?_eq_getElem h
abbrev pv (b o:Nat):Value:=.pointer (some ⟨b,o,none⟩)
variable {a:Act} {args:Array Value} {Q:Exit->Act->World->Prop} {f:FuncId} {l:List Oper} {id n:Nat} {P:Program} {v:Value} {w:World}
section
variable {P:Program} {ops:Array Oper} {md:Region.Mode} {C:World->Prop}
def mC (P:Program)(md:Region.Mode)(ops:Array Oper)(C:World->Prop)(n:Nat)(L:Array Bool->Act->Prop):Nat->Array Bool->Act->Prop
 |0,listed,a=>L listed a
 |f+1,listed,a=>
  Region.ready md ops listed≠[]/\∀i∈Region.ready md ops listed,i<n/\qOp P ops C i (mC P md ops C n L f (listed.setIfInBounds i true)) a
theorem oU {g:Nat}{L:Array Bool->Act->Prop}{Q':Exit->Act->World->Prop}(hL:∀listed a w,C w->L listed a->wpAny P md ops Q' g listed a w):
  ∀(f:Nat) (listed:Array Bool) (a:Act) (w:World),C w->mC P md ops C n L f listed a->wpAny P md ops Q' (f+g) listed a w
 |0,listed,a,w,hw,h=>by rw[Nat.zero_add];exact hL _ _ _ hw h
 |f+1,listed,a,w,hw,h=>by
  rw[show f+1+g=(f+g)+1 by omega];exact⟨λh0=>absurd h0 h.1,λi hi=>wpOp_of_qOp hw (λa' w' hw' h'=>oU hL f _ a' w' hw' h') (h.2 i hi).2⟩
theorem zI {i:Nat}{oi:Oper}{L:Array Bool->Act->Prop}(hi:ops[i]? =some oi)(hsel:∀(j:Nat) (o:Oper) cs b,ops[j]? =some o->o.op≠.select cs b)
  (hs:Region.sinkB md ops n=true) (hc:Region.chainB md ops n=true) (hn:n<ops.size) (hin:i<n)
  (hdone:∀listed a,L listed a->∀j∈Region.ready md ops listed,n<=j):
  ∀(f:Nat) (listed:Array Bool) (a:Act),HeadInv md ops n listed->
   (∀j oj,ops[j]? =some oj->j≠i->listed.getD j true=false->(∀e∈oj.after,Region.binds md e=true->e.on≠i)->oi.apart ops oj=true)->
   i∈Region.ready md ops listed->YieldsIn P ops C oi v a->
   mC P md ops C n L f (listed.setIfInBounds i true) (a.put oi.dst v)->mC P md ops C n L (f+1) listed a:=by
 intro f
 induction f with
 |zero=>
  intro listed a inv _ hr hy H;have hun:=(mem_ready.1 hr).1;refine⟨λh=>(by rw[h] at hr;cases hr),λj hj=> ?_⟩;have hjn:j<n:=by
   rcases Nat.lt_or_ge j n with h|h
   .exact h
   .exact absurd hj (tail_waits hs hc hn inv _ i rfl hin hun j h)
  refine⟨hjn,?_⟩
  by_cases hji:j=i
  .subst hji;exact hy.qOp hi H
  .have:=hdone _ _ H j (ready_mono hj hji);omega
 |succ f ih=>
  intro listed a inv hfree hr hy H;have hun:=(mem_ready.1 hr).1;refine⟨λh=>(by rw[h] at hr;cases hr),λj hj=> ?_⟩;have hjn:j<n:=by
   rcases Nat.lt_or_ge j n with h|h
   .exact h
   .exact absurd hj (tail_waits hs hc hn inv _ i rfl hin hun j h)
  refine⟨hjn,?_⟩
  by_cases hji:j=i
  .subst hji;exact hy.qOp hi H
  .have h1:=(H.2 j (ready_mono hj hji)).2;obtain⟨hjun,oj,hoj,hall⟩:=mem_ready.1 hj;have hnot:∀e∈oj.after,Region.binds md e=true->e.on≠i:=λe he hb heq=>by
    have h1:=hall e he hb;rw[heq,getD_both hun] at h1;cases h1
   have h2:=qOp_put hoj (hfree j oj hoj hji hjun hnot) (λcs b=>hsel i oi cs b hi) (λcs b=>hsel j oj cs b hoj) hy h1;have hfree':∀k ok,ops[k]? =some ok->k≠i->(listed.setIfInBounds j true).getD k true=false->
     (∀e∈ok.after,Region.binds md e=true->e.on≠i)->oi.apart ops ok=true:=λk ok hk hki hun hno=>by
    refine hfree k ok hk hki ?_ hno
    by_cases hjk:j=k
    .subst hjk;exact hjun
    .rw[getD_set_ne true hjk] at hun;exact hun
   refine qOp_mono (λa' h3=>ih (listed.setIfInBounds j true) a' (inv.set hj hjn) hfree' (ready_mono hr (Ne.symm hji)) h3.1 ?_) h2;rw[Array.setIfInBounds_comm _ _ hji];exact h3.2
theorem kK {g:Nat}{Lq:Act->Prop}(hsel:Region.noSelect ops=true)(hs:Region.sinkB md ops n=true)(hc:Region.chainB md ops n=true)(hn:n<ops.size):
  ∀(l:List Oper) (k:Nat) (listed:Array Bool) (a:Act),(∀j,j<l.length->l[j]? =ops[k+j]?)->k+l.length=n->HeadInv md ops n listed->
  Region.lexHead md ops g l.length k listed=true->wpQuiet P ops C Lq l a->
  mC P md ops C n (λlisted' a'=>Region.seqB md ops g n listed'=true/\Lq a') l.length listed a
 |[],k,listed,a,_,hk,_,hB,h=>by
  have:k=n:=by simpa using hk
  subst this;exact⟨by simpa[Region.lexHead] using hB,h⟩
 |o::l,k,listed,a,hl,hk,inv,hB,h=>by
  have h0:ops[k]? =some o:=by simpa using(hl 0 (by simp)).symm
  simp only[List.length_cons,Region.lexHead,Bool.and_eq_true] at hB;obtain⟨⟨hr,hf⟩,hB'⟩:=hB;have hkn:k<n:=by simp only[List.length_cons] at hk;omega
  have hr':k∈Region.ready md ops listed:=by simpa using hr
  have hst:qOp P ops C k (wpQuiet P ops C Lq l) a:=by unfold qOp;simp only[h0];exact h
  obtain⟨v,hy,hK⟩:=yieldsIn_of_qOp h0 hst;exact zI h0 (Region.noSelect_spec hsel) hs hc hn hkn (λlisted' a' hL=>seqB_ready hL.1) l.length listed a inv (Region.free_spec h0 hf) hr' hy
   (kK hsel hs hc hn l (k+1) _ _ (λj hj=>by have:=hl (j+1) (by simp;omega);simpa[Nat.add_assoc,Nat.add_comm 1 j] using this) (by simp only[List.length_cons] at hk;omega) (inv.set hr' hkn) hB' hK)
theorem gO (C:World->Prop)(n:Nat)(hm:P.follows .mixedOrders=true)(hB:Region.lexTailB .any l.toArray n=true)(hC:C w.drew)
  (h:wpQuiet P l.toArray C (λa'=>∀w',C w'->wpList P l.toArray Q (l.drop n) a' w') (l.take n) a):(Code.region id l.toArray true).wp P Q a w:=by
 simp only[Region.lexTailB,Bool.and_eq_true,decide_eq_true_eq] at hB;obtain⟨⟨⟨⟨hsel,hn⟩,hs⟩,hc⟩,hlex⟩:=hB;have hn':n<l.length:=by simpa using hn
 have htl:(l.take n).length=n:=by simp;omega
 have hdl:(l.drop n).length=l.toArray.size-n:=by simp
 have inv0:HeadInv .any l.toArray n (Array.replicate l.toArray.size false):=
  ⟨by simp,λj oj _ hl=>(by rw[getD_replicate_false] at hl;cases hl),λt _ ht=>getD_in (by simpa using ht) (getD_replicate_false _ _)⟩
 have H:=kK (md:=.any) (g:=l.toArray.size-n) hsel hs hc hn (l.take n) 0 _ a (λj hj=>by
  have hj':j<n:=by rw[htl] at hj;exact hj
  simp[hj']) (by simpa using htl) inv0 (by rw[htl];exact hlex) h
 refine wp_region_any hm ?_;have:=oU (Q':=Q) (g:=l.toArray.size-n) (λlisted a' w' hw' hL=>by
  have:=wpAny_of_seq (md:=.any) (Q':=Q) (l.drop n) n listed a' w' (λj=>by simp[List.getElem?_drop]) (by rw[hdl];exact hL.1) (hL.2 w' hw');rwa[hdl] at this) _ _ _ w.drew hC H
 rw[htl,show n+(l.toArray.size-n)=l.toArray.size by omega] at this;exact this
theorem rO (C:World->Prop)(hm:P.follows .mixedOrders=true)(hB:Region.lexB .any l.toArray=true)(hC:C w.drew)
  (h:wpQuiet P l.toArray C (λa'=>∀w',C w'->Q .normal a' w') l a):(Code.region id l.toArray true).wp P Q a w:=
 wp_region_quiet (C:=C) hm hB hC (by simpa using h)
end
theorem rH {k:Nat}(n:Nat)(hm:P.follows .mixedOrders=true)(hB:Region.lexTailB .any l.toArray n=true)
  (h:wpQuiet P l.toArray (λW=>∃m,W=w.drewN m) (λa'=>∀m,wpList P l.toArray Q (l.drop n) a' (w.drewN m)) (l.take n) a):(Code.region id l.toArray true).wp P Q a (w.drewN k):=
 gO (λW=>∃m,W=w.drewN m) n hm hB ⟨k+1,rfl⟩ (by
  have e:(λa':Act=>∀w',(∃m,w'=w.drewN m)->wpList P l.toArray Q (l.drop n) a' w')=λa'=>∀m,wpList P l.toArray Q (l.drop n) a' (w.drewN m):=by
   funext a';exact propext ⟨λh m=>h _ ⟨m,rfl⟩,λh w' ⟨m,e⟩=>e▸h m⟩
  rw[e];exact h)
theorem aLl (n:Nat)(hm:P.follows .mixedOrders=true)(hB:Region.lexTailB .any l.toArray n=true)
  (h:wpQuiet P l.toArray (λW=>∃m,W=w.drewN m) (λa'=>∀m,wpList P l.toArray Q (l.drop n) a' (w.drewN m)) (l.take n) a):(Code.region id l.toArray true).wp P Q a w:=
 rH (k:=0) n hm hB h
theorem aRl {k:IntKind}{a b:Int}(h:a=b):Ending.returned (.int k a)=.returned (.int k b):=by rw[h]
@[go_sem] theorem aQe (w:World)(n:Nat)(a:Addr)(v:Value):(w.drewN n).setCell a v=(w.setCell a v).drewN n:=rfl
@[go_sem] theorem aSh (w:World)(n:Nat)(o:Obj):(w.drewN n).alloc o=(w.alloc o).drewN n:=rfl
structure Cw (w:World)where
 W:World
 below:Below w.heap.size w W
instance (w:World):Nonempty (Cw w):=⟨⟨w,aW⟩⟩
theorem Cw.call {x:Cw w}
  (h:Calls P f args x.W λe w'=>e=.returned v/\Below x.W.heap.size x.W w'):Calls P f args x.W λe w'=>e=.returned v/\∃y:Cw w,w'=y.W:=
 h.mono λ_ w' ⟨he,hb⟩=>⟨he,⟨w',x.below.trans (hb.mono x.below.size)⟩,rfl⟩
theorem Cw.aW0 {x:Cw w}
  (h:Calls P f args x.W λe w'=>e=.returned v/\w'=x.W):Calls P f args x.W λe w'=>e=.returned v/\∃y:Cw w,w'=y.W:=
 h.mono λ_ _ ⟨he,hb⟩=>⟨he,x,hb⟩
theorem Cw.aXo {x:Cw w}
  (h:Calls P f args x.W λe w'=>e=.returned v/\∃m,w'=x.W.drewN m):Calls P f args x.W λe w'=>e=.returned v/\∃y:Cw w,w'=y.W:=
 h.mono λ_ w' ⟨he,m,hb⟩=>⟨he,⟨w',x.below.trans (by rw[hb];exact⟨rfl,rfl,rfl,aH,λ_ _=>rfl⟩)⟩,rfl⟩
theorem Cw.cell (b o:Nat)(v:Value)(hb:b<w.heap.size)(h:w.cell? ⟨b,o,none⟩=some v):∀x:Cw w,x.W.cell? ⟨b,o,none⟩=some v:=
 λx=>(x.below.cell (p:=⟨b,o,none⟩) hb).trans h
theorem Cw.frozen (b o:Nat)(hb:b<w.heap.size)(h:w.frozen? ⟨b,o,none⟩=false):∀x:Cw w,x.W.frozen? ⟨b,o,none⟩=false:=
 λx=>(x.below.frozen (p:=⟨b,o,none⟩) hb).trans h
theorem lO (hm:P.follows .mixedOrders=true)(hB:Region.lexB .any l.toArray=true)
  (h:wpQuiet P l.toArray (λW=>∃x:Cw w,W=x.W) (λa'=>∀x:Cw w,Q .normal a' x.W) l a):(Code.region id l.toArray true).wp P Q a w:=
 rO (λW=>∃x:Cw w,W=x.W) hm hB ⟨⟨w.drew,aW.drew⟩,rfl⟩ (by
  have e:(λa':Act=>∀w',(∃x:Cw w,w'=x.W)->Q .normal a' w')=λa'=>∀x:Cw w,Q .normal a' x.W:=by
   funext a';exact propext ⟨λh x=>h _ ⟨x,rfl⟩,λh w' ⟨x,e⟩=>e▸h x⟩
  rw[e];exact h)
theorem xU (n:Nat)(hm:P.follows .mixedOrders=true)(hB:Region.lexTailB .any l.toArray n=true)
  (h:wpQuiet P l.toArray (λW=>∃x:Cw w,W=x.W) (λa'=>∀x:Cw w,wpList P l.toArray Q (l.drop n) a' x.W) (l.take n) a):(Code.region id l.toArray true).wp P Q a w:=
 gO (λW=>∃x:Cw w,W=x.W) n hm hB ⟨⟨w.drew,aW.drew⟩,rfl⟩ (by
  have e:(λa':Act=>∀w',(∃x:Cw w,w'=x.W)->wpList P l.toArray Q (l.drop n) a' w')=λa'=>∀x:Cw w,wpList P l.toArray Q (l.drop n) a' x.W:=by
   funext a';exact propext ⟨λh x=>h _ ⟨x,rfl⟩,λh w' ⟨x,e⟩=>e▸h x⟩
  rw[e];exact h)
end
section
variable {id:Nat}
def sO (P:Program)(W:World)(F:Value->World->Prop):Result Next->Prop
 | .ok (.value v) W'=>Below W.heap.size W W'/\F v W'
 | .ok .skip W'=>Below W.heap.size W W'/\F undef W'
 | .ok (.enter f args) W'=>Below W.heap.size W W'/\Calls P f args W' λe W''=>∃v,e=.returned v/\Below W'.heap.size W' W''/\F v W''
 |_=>False
def eH (P:Program)(ops:Array Oper)(o:Oper)(a:Act)(W:World)(F:Value->World->Prop):Prop:=
 if Region.wanted o (yielded ops a.tmps) then sO P W F ((execOp a.eval o).run P W) else F undef W
def eJ (l:List Oper):List Nat:=l.filterMap (·.dst)
def fS :List Oper->Nat->(Nat->Value)->Act->Act
 |[],_,_,a=>a
 |o::r,j,v,a=>fS r (j+1) v (a.put o.dst (v j))
def fQ (P:Program)(ops:Array Oper)(a₀:Act)(w:World)(head:List Oper)(F:Nat->Value->World->Prop):Nat->List Oper->Prop
 |_,[]=>True
 |j,o::r=>(∀(a:Act) (W:World),Below w.heap.size w W->
   (∀t,t∉eJ head->a.tmps.getD t undef=a₀.tmps.getD t undef)->
   (∀i d,(o.after.any λe=>Region.binds .any e&&e.on==i)=true->((ops[i]?).bind (·.dst))=some d->F i (a.tmps.getD d undef) W)->
   eH P ops o a W (F j))/\fQ P ops a₀ w head F (j+1) r
theorem fQ.get {P:Program}{ops:Array Oper}{a₀:Act}{w:World}{head:List Oper}{F:Nat->Value->World->Prop}:∀(l:List Oper) (k j:Nat) (o:Oper),fQ P ops a₀ w head F k l->l[j]? =some o->
  ∀(a:Act) (W:World),Below w.heap.size w W->
   (∀t,t∉eJ head->a.tmps.getD t undef=a₀.tmps.getD t undef)->
   (∀i d,(o.after.any λe=>Region.binds .any e&&e.on==i)=true->((ops[i]?).bind (·.dst))=some d->F i (a.tmps.getD d undef) W)->
   eH P ops o a W (F (k+j))
 |[],_,_,_,_,h=>by simp at h
 |_::_,k,0,o,hs,h=>by
  simp only[List.getElem?_cons_zero,Option.some.injEq] at h;subst h;exact hs.1
 |_::r,k,j+1,o,hs,h=>by
  have:=fQ.get r (k+1) j o hs.2 (by simpa using h);rw[show k+(j+1)=k+1+j by omega];exact this
def lL (ops:Array Oper)(n:Nat):Bool:=
 decide (n<ops.size)&&Region.sinkB .any ops n&&Region.chainB .any ops n&&
 ((List.range ops.size).all λj=>match ops[j]? with|some o=>o.after.all λe=> !Region.binds .any e||decide (e.on<j)|none=>true)&&
 ((ops.toList.take n).all λo=>o.dst.isSome)&&decide (eJ (ops.toList.take n)).Nodup&&
 Region.seqB .any ops (ops.size-n) n (Array.replicate n true++Array.replicate (ops.size-n) false)
theorem vW (p:Nat->Prop):∀j,p j->∃k,p k/\∀i,i<k->¬p i:=by
 intro j
 induction j using Nat.strongRecOn with
 |_ j ih=>
  intro hj
  by_cases h:∃i,i<j/\p i
  .obtain⟨i,hi,hp⟩:=h;exact ih i hi hp
  .exact⟨j,hj,λi hi hp=>h ⟨i,hi,hp⟩⟩
theorem aAb :∀(r:List Oper) (k:Nat) (v:Nat->Value) (a b:Act),b.tmps.size=a.tmps.size->b.defers=a.defers->
  (∀t,t∉eJ r->a.tmps[t]? =b.tmps[t]?)->(∀j o,r[j]? =some o->∃d,o.dst=some d/\v (k+j)=a.tmps.getD d undef)->fS r k v b=a
 |[],_,_,a,b,hs,hd,ht,_=>by
  obtain⟨ta,da⟩:=a;obtain⟨tb,db⟩:=b;simp only at hd hs ht;subst hd;have:tb=ta:=Array.ext_getElem? λi=>(ht i (by simp[eJ])).symm;subst this;rfl
 |o::r,k,v,a,b,hs,hd,ht,hv=>by
  obtain⟨d,ho,hvd⟩:=hv 0 o rfl;rw[Nat.add_zero] at hvd;refine aAb r (k+1) v a (b.put o.dst (v k)) ?_ ?_ ?_ ?_
  .rw[ho];simpa[Act.put] using hs
  .rw[ho];exact hd
  .intro t htr;rw[ho];simp only[Act.put,Array.getElem?_setIfInBounds]
   by_cases e:d=t
   .subst e
    by_cases hlt:d<b.tmps.size
    .rw[if_pos rfl,if_pos hlt,hvd,Array.getElem?_eq_getElem (by omega)];simp[Array.getD,show d<a.tmps.size by omega]
    .rw[if_pos rfl,if_neg hlt];exact Array.getElem?_eq_none (by omega)
   .rw[if_neg e];exact ht t (by simp only[eJ,List.filterMap_cons,ho,List.mem_cons];rintro(h|h);exact e h.symm;exact htr h)
  .intro j o' hj;have:=hv (j+1) o' (by simpa using hj);rwa[show k+(j+1)=k+1+j by omega] at this
section
variable {P:Program} {l:List Oper} {a₀:Act} {w:World} {F:Nat->Value->World->Prop} {n:Nat} {Q:Exit->Act->World->Prop} {J:Array Bool->Act->World->Prop} {listed:Array Bool} {a:Act} {W:World}
theorem rG {r:List Oper}{j:Nat}{o:Oper}{d:Nat}(h:r[j]? =some o)(hd:o.dst=some d):d∈eJ r:=
 List.mem_filterMap.2 ⟨o,bK h,hd⟩
theorem xB {r:List Oper}(hnd:(eJ r).Nodup):∀{i j:Nat} {oi oj:Oper} {d:Nat},r[i]? =some oi->r[j]? =some oj->oi.dst=some d->oj.dst=some d->i=j:=by
 induction r with
 |nil=>intro i j oi oj d hi;simp at hi
 |cons o r ih=>
  intro i j oi oj d hi hj hdi hdj;have hnd':(eJ r).Nodup:=by
   unfold eJ at hnd⊢;rw[List.filterMap_cons] at hnd;split at hnd
   .exact hnd
   .exact(List.nodup_cons.1 hnd).2
  cases i with
  |zero=>
   cases j with
   |zero=>rfl
   |succ j=>
    simp only[List.getElem?_cons_zero,Option.some.injEq] at hi;subst hi;have hm:=rG (r:=r) (by simpa using hj) hdj;unfold eJ at hnd;rw[List.filterMap_cons,hdi] at hnd;exact absurd hm (List.nodup_cons.1 hnd).1
  |succ i=>
   cases j with
   |zero=>
    simp only[List.getElem?_cons_zero,Option.some.injEq] at hj;subst hj;have hm:=rG (r:=r) (by simpa using hi) hdi;unfold eJ at hnd;rw[List.filterMap_cons,hdj] at hnd;exact absurd hm (List.nodup_cons.1 hnd).1
   |succ j=>
    exact congrArg Nat.succ (ih hnd' (by simpa using hi) (by simpa using hj) hdi hdj)
theorem aQ9 {o:Oper}{a:Act}{W:World}{G:Value->World->Prop}{K:Act->World->Prop}(h:sO P W G ((execOp a.eval o).run P W))
  (hK:∀v W',Below W.heap.size W W'->G v W'->K (a.put o.dst v) W'):o.wp P a W K Q:=by
 unfold Oper.wp;generalize(execOp a.eval o).run P W=r at*;cases r with
 |ok x W'=>
  cases x<;>simp only[sO] at h<;>simp only[Oper.upon]
  case value v=>exact hK _ _ h.1 h.2
  case skip=>exact hK _ _ h.1 h.2
  case enter f args=>exact h.2.mono λe W'' ⟨v,he,hb,hg⟩=>by subst he;exact hK _ _ (h.1.trans (hb.mono h.1.size)) hg
 |halt x W'=>simp only[sO] at h
structure wX (l:List Oper)(a₀:Act)(F:Nat->Value->World->Prop)(n:Nat)(J:Array Bool->Act->World->Prop)(listed:Array Bool)(a:Act)(W:World):Prop where
 head:HeadInv .any l.toArray n listed
 tsize:a.tmps.size=a₀.tmps.size
 defers:a.defers=a₀.defers
 rest:∀t,t∉eJ (l.take n)->a.tmps[t]? =a₀.tmps[t]?
 facts:∀j o d,j<n->listed.getD j false=true->l[j]? =some o->o.dst=some d->F j (a.tmps.getD d undef) W
 inv:J listed a W
theorem wX.aXs (inv:wX l a₀ F n J listed a W):∀t,t∉eJ (l.take n)->a.tmps.getD t undef=a₀.tmps.getD t undef:=λt ht=>by
 have:=inv.rest t ht;simp only[Array.getD_eq_getD_getElem?,this]
theorem wX.aX2 (inv:wX l a₀ F n J listed a W){i:Nat}(hi:i∈Region.ready .any l.toArray listed){oi:Oper}(hoi':l[i]? =some oi):∀i' d,(oi.after.any λe=>Region.binds .any e&&e.on==i')=true->((l.toArray[i']?).bind (·.dst))=some d->F i' (a.tmps.getD d undef) W:=by
 obtain⟨hiun,oi',hoi2,hdeps⟩:=mem_ready.1 hi;obtain rfl:oi'=oi:=oSi (hoi2.symm.trans (by simpa using hoi'));intro i' d ha hd;obtain⟨e,he,hb⟩:=Array.any_eq_true'.1 ha;simp only[Bool.and_eq_true,beq_iff_eq] at hb;have h1:=hdeps e he hb.1;rw[hb.2] at h1;cases ho':l[i']? with
 |none=>simp[ho'] at hd
 |some o'=>
  simp only[List.getElem?_toArray,ho',Option.bind_some] at hd;have hi'n:i'<n:=by
   rcases Nat.lt_or_ge i' n with h|h
   .exact h
   .have h2:=inv.head.tail i' h (by simpa using(gJ.1 ho').1);rw[getD_both h2] at h1;cases h1
  exact inv.facts i' o' d hi'n h1 ho' hd
theorem wS {R:Nat->Array Bool->Act->World->Prop}{W0:World}(hn:n<=l.length)
  (hback:((List.range l.length).all λj=>match l.toArray[j]? with|some o=>o.after.all λe=> !Region.binds .any e||decide (e.on<j)|none=>true)=true)
  (hsome:((l.take n).all λo=>o.dst.isSome)=true) (hnd:(eJ (l.take n)).Nodup) (hslots:((eJ (l.take n)).all λd=>decide (d<a₀.tmps.size))=true)
  (h0:J (Array.replicate l.toArray.size false) a₀ W0)
  (hend:∀(v:Nat->Value) (listed:Array Bool) (a:Act) (W:World),wX l a₀ F n J listed a W->listed=Array.replicate n true++Array.replicate (l.length-n) false->a=fS (l.take n) 0 v a₀->
   (∀j o d,l[j]? =some o->o.dst=some d->v j=a.tmps.getD d undef)->(∀j,j<n->F j (v j) W)->R (l.length-n) listed a W)
  (hstep:∀(f:Nat) (listed:Array Bool) (a:Act) (W:World),wX l a₀ F n J listed a W->∀k,k<n->k∈Region.ready .any l.toArray listed->
   (∀i oi,i<n->i∈Region.ready .any l.toArray listed->l[i]? =some oi->∀v W',(∀j x,j≠i->F j x W->F j x W')->F i v W'->J (listed.setIfInBounds i true) (a.put oi.dst v) W'->R f (listed.setIfInBounds i true) (a.put oi.dst v) W')->R (f+1) listed a W):
  R l.toArray.size (Array.replicate l.toArray.size false) a₀ W0:=by
 have hl:∀j,j<n->(l.take n)[j]? =l[j]? :=λj hj=>by simp[hj]
 have key:∀(f:Nat) (todo:List Nat) (listed:Array Bool) (a:Act) (W:World),todo.length=f->todo.Nodup->(∀j,j∈todo↔j<n/\listed.getD j true=false)->
   wX l a₀ F n J listed a W->R (f+(l.length-n)) listed a W:=by
  intro f
  induction f with
  |zero=>
   intro todo listed a W hlen _ hmem inv;obtain rfl:todo=[]:=List.length_eq_zero_iff.1 hlen;have hall:∀j,j<n->listed.getD j true=true:=λj hj=>by
    cases h:listed.getD j true with
    |true=>rfl
    |false=>exact absurd ((hmem j).2 ⟨hj,h⟩) (by simp)
   have hsz:=inv.head.size;simp only[List.size_toArray] at hsz;have hL:listed=Array.replicate n true++Array.replicate (l.length-n) false:=by
    apply Array.ext
    .simp[hsz];omega
    .intro i h1 h2
     by_cases hi:i<n
     .have:=hall i hi;simp[Array.getD,h1] at this;rw[Array.getElem_append_left (by simpa using hi)]
      simpa using this
     .have:=inv.head.tail i (by omega) (by simpa using(by omega:i<l.length));simp[Array.getD,h1] at this;rw[Array.getElem_append_right (by simp;omega)]
      simpa using this
   rw[Nat.zero_add];refine hend (λj=>match(l[j]?).bind (·.dst) with|some d=>a.tmps.getD d undef|none=>undef) listed a W inv hL ?_ (λj o d hj hd=>by simp[hj,hd]) λj hj=> ?_
   .refine(aAb (l.take n) 0 _ a a₀ inv.tsize.symm inv.defers.symm inv.rest λj o hj=> ?_).symm;have hjn:j<n:=by
     have:=(gJ.1 hj).1;simp at this;omega
    obtain⟨d,hd⟩:=Option.isSome_iff_exists.1 (List.all_eq_true.1 hsome o (bK hj));refine⟨d,hd,?_⟩;rw[Nat.zero_add,<-hl j hjn,hj];simp[hd]
   .have hlj:l[j]? =some l[j]:=cZ (by omega);have hjt:listed.getD j false=true:=by
     have:=hall j hj;have hjs:j<listed.size:=by omega
     simp[Array.getD,hjs] at this⊢;exact this
    obtain⟨d,hd⟩:=Option.isSome_iff_exists.1 (List.all_eq_true.1 hsome l[j] (bK ((hl j hj).trans hlj)));simp only[hlj,Option.bind_some,hd];exact inv.facts j _ d hj hjt hlj hd
  |succ f ih=>
   intro todo listed a W hlen hnod hmem inv;rw[show f+1+(l.length-n)=(f+(l.length-n))+1 by omega];obtain⟨j0,hj0⟩:∃j,j<n/\listed.getD j true=false:=by
    cases todo with
    |nil=>simp at hlen
    |cons j r=>exact⟨j,(hmem j).1 (by simp)⟩
   obtain⟨k,hk,hmin⟩:=vW (λj=>j<n/\listed.getD j true=false) j0 hj0;have hkl:k<l.length:=by omega
   have hsz:=inv.head.size;simp only[List.size_toArray] at hsz;have hready:k∈Region.ready .any l.toArray listed:=by
    refine mem_ready.2 ⟨hk.2,l[k],by simp[cZ hkl],λe he hb=> ?_⟩;have h1:=List.all_eq_true.1 hback k (List.mem_range.2 hkl);simp only[List.getElem?_toArray,cZ hkl] at h1;have h2:=Array.all_eq_true'.1 h1 e he;simp only[hb,Bool.not_true,Bool.false_or,decide_eq_true_eq] at h2;have h3:=hmin e.on h2;cases h4:listed.getD e.on true with
    |false=>exact absurd ⟨by omega,h4⟩ h3
    |true=>
     have h5:e.on<listed.size:=by omega
     simp[Array.getD,h5] at h4⊢;exact h4
   refine hstep _ listed a W inv k hk.1 hready λi oi hin hi hoi' v W' hkeep hFv hJ=> ?_;have hiun:=(mem_ready.1 hi).1;obtain⟨di,hdi⟩:=Option.isSome_iff_exists.1 (List.all_eq_true.1 hsome oi (bK ((hl i hin).trans hoi')));have hdm:=rG ((hl i hin).trans hoi') hdi;have hin2:di<a.tmps.size:=by
    have:=List.all_eq_true.1 hslots di hdm;simp only[decide_eq_true_eq] at this;rw[inv.tsize];exact this
   refine ih (todo.erase i) _ _ W' ?_ (hnod.erase i) ?_ ?_
   .rw[List.length_erase_of_mem ((hmem i).2 ⟨hin,hiun⟩),hlen];rfl
   .intro j;rw[hnod.mem_erase_iff,hmem j]
    by_cases e:i=j
    .subst e;have hi2:i<listed.size:=by omega
     simp[Array.getD,hi2]
    .rw[getD_set_ne true e];exact⟨λh=>h.2,λh=>⟨λe'=>e e'.symm,h⟩⟩
   .refine⟨inv.head.set hi hin,?_,?_,?_,?_,hJ⟩
    .rw[hdi];simpa[Act.put] using inv.tsize
    .rw[hdi];exact inv.defers
    .intro t ht;rw[hdi];simp only[Act.put];rw[Array.getElem?_setIfInBounds_ne (λe=>ht (by rw[<-e];exact hdm))];exact inv.rest t ht
    .intro j o d hj hlj hoj hd;rw[hdi];simp only[Act.put]
     by_cases e:i=j
     .subst e;obtain rfl:o=oi:=oSi (hoj.symm.trans hoi');obtain rfl:d=di:=oSi (hd.symm.trans hdi);rw[show(a.tmps.setIfInBounds d v).getD d undef=v by simp[Array.getD,hin2]];exact hFv
     .have hne:di≠d:=λe'=>e (xB hnd ((hl i hin).trans hoi') ((hl j hj).trans hoj) hdi (e'▸hd));rw[show(a.tmps.setIfInBounds di v).getD d undef=a.tmps.getD d undef by simp only[Array.getD_eq_getD_getElem?];rw[Array.getElem?_setIfInBounds_ne hne]];rw[getD_set_ne false e] at hlj;exact hkeep _ _ (λe'=>e e'.symm) (inv.facts j o d hj hlj hoj hd)
 have h:=key n (List.range n) (Array.replicate l.toArray.size false) a₀ W0 (by simp) List.nodup_range (λj=>by
   rw[List.mem_range];exact⟨λhj=>⟨hj,getD_in (by simp;omega) (getD_replicate_false _ _)⟩,λh=>h.1⟩)
  ⟨⟨by simp,λj oj _ hl=>(by rw[getD_replicate_false] at hl;cases hl),λt _ ht=>getD_in (by simpa using ht) (getD_replicate_false _ _)⟩,rfl,rfl,λ_ _=>rfl,λj o d hj hl=>(by rw[getD_replicate_false] at hl;cases hl),h0⟩
 rw[show n+(l.length-n)=l.toArray.size by simp;omega] at h;exact h
theorem aCk {K:Act->World->Prop}{G:Value->World->Prop}{i:Nat}{oi:Oper}(ho:l[i]? =some oi)(h:eH P l.toArray oi a W G)(hK:∀v W',Below W.heap.size W W'->G v W'->K (a.put oi.dst v) W'):wpOp P l.toArray Q i K a W:=by
 unfold wpOp;unfold eH at h;simp only[List.getElem?_toArray,ho];split
 .rename_i hw;simp only[hw,if_true] at h;exact .inl (aQ9 h hK)
 .rename_i hw;simp only[hw] at h;exact hK undef W aW h
theorem wX.spec (inv:wX l a₀ F n (λ_ _ W=>Below w.heap.size w W) listed a W)(hs:fQ P l.toArray a₀ w (l.take n) F 0 (l.take n)){i:Nat}(hin:i<n)(hi:i∈Region.ready .any l.toArray listed){oi:Oper}(ho:l[i]? =some oi):eH P l.toArray oi a W (F i):=by
 have:=fQ.get (l.take n) 0 i oi hs ((show(l.take n)[i]? =l[i]? by simp[hin]).trans ho) a W inv.inv inv.aXs (inv.aX2 hi ho);rwa[Nat.zero_add] at this
theorem wX.wp {R:Array Bool->Act->World->Prop}(inv:wX l a₀ F n (λ_ _ W=>Below w.heap.size w W) listed a W)(hs:fQ P l.toArray a₀ w (l.take n) F 0 (l.take n))(hF:∀i v W W',F i v W->Below W.heap.size W W'->F i v W')
  (next:∀i oi,i<n->i∈Region.ready .any l.toArray listed->l[i]? =some oi->∀v W',(∀j x,j≠i->F j x W->F j x W')->F i v W'->Below w.heap.size w W'->R (listed.setIfInBounds i true) (a.put oi.dst v) W')
  {i:Nat} (hin:i<n) (hi:i∈Region.ready .any l.toArray listed):wpOp P l.toArray Q i (R (listed.setIfInBounds i true)) a W:=by
 obtain⟨_,oi,hoi,_⟩:=mem_ready.1 hi;have ho:l[i]? =some oi:=by simpa using hoi
 exact aCk ho (inv.spec hs hin hi ho) λv W' hb hv=>next i oi hin hi ho v W' (λj x _ h=>hF j x _ _ h hb) hv (inv.inv.trans (hb.mono inv.inv.size))
theorem aDm (n:Nat)(F:Nat->Value->World->Prop)(hm:P.follows .mixedOrders=true)(hB:lL l.toArray n=true)
  (hslots:((eJ (l.take n)).all λd=>decide (d<a₀.tmps.size))=true)
  (hF:∀i v W W',F i v W->Below W.heap.size W W'->F i v W')
  (hs:fQ P l.toArray a₀ w (l.take n) F 0 (l.take n))
  (hend:∀(v:Nat->Value) (W:World),Below w.heap.size w W->(∀j,j<n->F j (v j) W)->wpList P l.toArray Q (l.drop n) (fS (l.take n) 0 v a₀) W):
  (Code.region id l.toArray true).wp P Q a₀ w:=by
 simp only[lL,Bool.and_eq_true,decide_eq_true_eq] at hB;obtain⟨⟨⟨⟨⟨⟨hn,hsk⟩,hch⟩,hback⟩,hsome⟩,hnd⟩,hseq⟩:=hB;simp only[List.size_toArray] at hn hseq hback;refine wp_region_any hm (wS (R:=wpAny P .any l.toArray Q) (J:=λ_ _ W=>Below w.heap.size w W) (F:=F) (n:=n) (by omega) hback hsome hnd hslots aW.drew ?_ ?_)
 .rintro v listed a W inv rfl rfl-hf;have h3:=wpAny_of_seq (md:=.any) (Q':=Q) (l.drop n) n (Array.replicate n true++Array.replicate (l.length-n) false) _ W (λj=>by simp[List.getElem?_drop]) (by simpa using hseq) (hend v W inv.inv hf)
  simpa using h3
 .intro f listed a W inv k hk hkr next;refine⟨λh=>(by rw[h] at hkr;cases hkr),λi hi=>inv.wp hs hF next ?_ hi⟩;rcases Nat.lt_or_ge i n with h|h
  .exact h
  .exact absurd hi (tail_waits hsk hch (by simpa using hn) inv.head _ k rfl hk (mem_ready.1 hkr).1 i h)
def aO6 (ops:Array Oper)(n:Nat):Bool:=
 decide (n=ops.size)&&
 ((List.range ops.size).all λj=>match ops[j]? with|some o=>o.after.all λe=> !Region.binds .any e||decide (e.on<j)|none=>true)&&
 ((ops.toList.take n).all λo=>o.dst.isSome)&&decide (eJ (ops.toList.take n)).Nodup&&
 Region.seqB .any ops (ops.size-n) n (Array.replicate n true++Array.replicate (ops.size-n) false)
theorem aId (n:Nat)(F:Nat->Value->World->Prop)(hm:P.follows .mixedOrders=true)(hB:aO6 l.toArray n=true)
  (hslots:((eJ (l.take n)).all λd=>decide (d<a₀.tmps.size))=true)
  (hF:∀i v W W',F i v W->Below W.heap.size W W'->F i v W')
  (hs:fQ P l.toArray a₀ w (l.take n) F 0 (l.take n))
  (hend:∀(v:Nat->Value) (W:World),Below w.heap.size w W->(∀j,j<n->F j (v j) W)->wpList P l.toArray Q (l.drop n) (fS (l.take n) 0 v a₀) W):
  (Code.region id l.toArray true).wp P Q a₀ w:=by
 simp only[aO6,Bool.and_eq_true,decide_eq_true_eq] at hB;obtain⟨⟨⟨⟨hn,hback⟩,hsome⟩,hnd⟩,hseq⟩:=hB;simp only[List.size_toArray] at hn hseq hback;refine wp_region_any hm (wS (R:=wpAny P .any l.toArray Q) (J:=λ_ _ W=>Below w.heap.size w W) (F:=F) (n:=n) (by omega) hback hsome hnd hslots aW.drew ?_ ?_)
 .rintro v listed a W inv rfl rfl-hf;have h3:=wpAny_of_seq (md:=.any) (Q':=Q) (l.drop n) n (Array.replicate n true++Array.replicate (l.length-n) false) _ W (λj=>by simp[List.getElem?_drop]) (by simpa using hseq) (hend v W inv.inv hf)
  simpa using h3
 .intro f listed a W inv k hk hkr next;refine⟨λh=>(by rw[h] at hkr;cases hkr),λi hi=>inv.wp hs hF next ?_ hi⟩;obtain⟨_,oi,hoi,_⟩:=mem_ready.1 hi;rw[hn]
  simpa using(Array.getElem?_eq_some_iff.1 hoi).1
def aIz (ops:Array Oper)(n:Nat):Bool:=
 decide (n<ops.size)&&decide (0<n)&&Region.noSelect ops&&
 ((List.range (n-1)).all λi=>(List.range n).any λj=>decide (i<j)&&Region.waitsFor .any ops j i)&&
 ((List.range ops.size).all λi=>decide (i<n)||((List.range i).any λj=>decide (n-1<=j)&&Region.waitsFor .any ops i j))&&
 ((List.range ops.size).all λj=>match ops[j]? with|some o=>o.after.all λe=> !Region.binds .any e||decide (e.on<j)|none=>true)&&
 ((ops.toList.take n).all λo=>o.dst.isSome)&&decide (eJ (ops.toList.take n)).Nodup
theorem aEz (n:Nat)(F:Nat->Value->World->Prop)(hm:P.follows .mixedOrders=true)(hB:aIz l.toArray n=true)
  (hslots:((eJ (l.take n)).all λd=>decide (d<a₀.tmps.size))=true)
  (hF:∀i v W W',F i v W->Below W.heap.size W W'->F i v W')
  (hs:fQ P l.toArray a₀ w (l.take n) F 0 (l.take n))
  (hend:∀(v:Nat->Value) (W:World),Below w.heap.size w W->(∀j,j<n->F j (v j) W)->wpAny P .any l.toArray Q (l.length-n) (Array.replicate n true++Array.replicate (l.length-n) false) (fS (l.take n) 0 v a₀) W):
  (Code.region id l.toArray true).wp P Q a₀ w:=by
 simp only[aIz,Bool.and_eq_true,decide_eq_true_eq] at hB;obtain⟨⟨⟨⟨⟨⟨⟨hn,hn0⟩,hsel⟩,hwait⟩,hch⟩,hback⟩,hsome⟩,hnd⟩:=hB;simp only[List.size_toArray] at hn hback hch;refine wp_region_any hm (wS (R:=wpAny P .any l.toArray Q) (J:=λ_ _ W=>Below w.heap.size w W) (F:=F) (n:=n) (by omega) hback hsome hnd hslots aW.drew ?_ ?_)
 .rintro v listed a W inv rfl rfl-hf;exact hend v W inv.inv hf
 .intro f listed a W inv k hk hkr next;refine⟨λh=>(by rw[h] at hkr;cases hkr),λi hi=> ?_⟩;rcases Nat.lt_or_ge i n with hin|hin
  .exact inv.wp hs hF next hin hi
  exfalso;obtain⟨hiun,oi,hoi,hdeps⟩:=mem_ready.1 hi;have hilt:i<l.length:=by simpa using(Array.getElem?_eq_some_iff.1 hoi).1
  have h1:=List.all_eq_true.1 hch i (List.mem_range.2 hilt);simp only[Bool.or_eq_true,decide_eq_true_eq] at h1;rcases h1 with h1|h1
  .omega
  obtain⟨j,hj1,hj2⟩:=List.any_eq_true.1 h1;simp only[Bool.and_eq_true,decide_eq_true_eq,List.mem_range] at hj1 hj2;obtain⟨oj,hoj,e',he',hb,hon⟩:=Region.waitsFor_spec hj2.2;rw[hoi] at hoj;obtain rfl:=oSi hoj;have h2:=hdeps e' he' hb;rw[hon] at h2;have hjn:j=n-1:=by
   rcases Nat.lt_or_ge j n with h|h
   .omega
   .have h3:=inv.head.tail j h (by simp;omega);rw[getD_both h3] at h2;cases h2
  subst hjn;have hallD:∀d q,n-1-q=d->q<=n-1->listed.getD q false=true:=by
   intro d
   induction d using Nat.strongRecOn with
   |ind d ihd=>
    intro q hd hq
    by_cases e:q=n-1
    .rw[e];exact h2
    have h1:=List.all_eq_true.1 hwait q (List.mem_range.2 (by omega));obtain⟨p,hp1,hp2⟩:=List.any_eq_true.1 h1;simp only[Bool.and_eq_true,decide_eq_true_eq,List.mem_range] at hp1 hp2;have hpl:=ihd (n-1-p) (by omega) p rfl (by omega);obtain⟨op,hop,e',he',hb,hon⟩:=Region.waitsFor_spec hp2.2;have h2:=inv.head.closed p op (by simpa using hop) hpl e' he' hb;rwa[hon] at h2
  have h3:=hallD _ k rfl (by omega);rw[getD_both (mem_ready.1 hkr).1] at h3;cases h3
def xD (ops:Array Oper)(n:Nat)(qs:List Nat):Bool:=
 decide (n<ops.size)&&(qs.all λq=>decide (q<n))&&Region.noSelect ops&&
 ((List.range n).all λi=>qs.contains i||Region.waitsFor .any ops n i||((List.range n).any λj=> !(qs.contains j)&&decide (i<j)&&Region.waitsFor .any ops j i))&&Region.chainB .any ops n&&
 ((List.range ops.size).all λj=>match ops[j]? with|some o=>o.after.all λe=> !Region.binds .any e||decide (e.on<j)|none=>true)&&
 ((ops.toList.take n).all λo=>o.dst.isSome)&&decide (eJ (ops.toList.take n)).Nodup&&
 Region.seqB .any ops (ops.size-n) n (Array.replicate n true++Array.replicate (ops.size-n) false)&&
 (qs.all λq=>match ops[q]? with|some o=>o.guard.isNone|none=>false)&&(qs.all λq=>(List.range ops.size).all λj=>j==q||Region.waitsFor .any ops q j||(match ops[q]?,ops[j]? with|some oq,some oj=>oj.after.any (λe=>Region.binds .any e&&e.on==q)||oq.apart ops oj|_,_=>true))
theorem aBx (n:Nat)(qs:List Nat)(F:Nat->Value->World->Prop)(hm:P.follows .mixedOrders=true)(hB:xD l.toArray n qs=true)
  (hslots:((eJ (l.take n)).all λd=>decide (d<a₀.tmps.size))=true)
  (hF:∀i v W W',F i v W->Below W.heap.size W W'->F i v W')
  (hs:fQ P l.toArray a₀ w (l.take n) F 0 (l.take n))
  (hq:∀q,q∈qs->∀oq,l[q]? =some oq->∀(a:Act) (W:World),Below w.heap.size w W->
   (∀t,t∉eJ (l.take n)->a.tmps.getD t undef=a₀.tmps.getD t undef)->
   (∀i d,(oq.after.any λe=>Region.binds .any e&&e.on==i)=true->((l.toArray[i]?).bind (·.dst))=some d->F i (a.tmps.getD d undef) W)->
   ∃vq,(∀W',(execOp a.eval oq).run P W'=.ok (.value vq) W')/\∀W,F q vq W)
  (hQ:∀q oq d,q∈qs->l[q]? =some oq->oq.dst=some d->∀v c a w,Q (.panic c) (a.put (some d) v) w->Q (.panic c) a w)
  (hend:∀(v:Nat->Value) (W:World),Below w.heap.size w W->(∀j,j<n->F j (v j) W)->wpList P l.toArray Q (l.drop n) (fS (l.take n) 0 v a₀) W):
  (Code.region id l.toArray true).wp P Q a₀ w:=by
 simp only[xD,Bool.and_eq_true,decide_eq_true_eq] at hB;obtain⟨⟨⟨⟨⟨⟨⟨⟨⟨⟨hn,hqn⟩,hsel⟩,hwait⟩,hch⟩,hback⟩,hsome⟩,hnd⟩,hseq⟩,hgq⟩,hfree⟩:=hB;simp only[List.size_toArray] at hn hseq hback;have hqn':∀q,q∈qs->q<n:=λq hq=>by simpa using List.all_eq_true.1 hqn q hq
 refine wp_region_any hm (wS (R:=wpAny P .any l.toArray Q) (J:=λ_ _ W=>Below w.heap.size w W) (F:=F) (n:=n) (by omega) hback hsome hnd hslots aW.drew ?_ ?_)
 .rintro v listed a W inv rfl rfl-hf;have h3:=wpAny_of_seq (md:=.any) (Q':=Q) (l.drop n) n (Array.replicate n true++Array.replicate (l.length-n) false) _ W (λj=>by simp[List.getElem?_drop]) (by simpa using hseq) (hend v W inv.inv hf)
  simpa using h3
 .intro f listed a W inv k hk hkr next
  by_cases hqx:∃q,q∈qs/\q∈Region.ready .any l.toArray listed
  .obtain⟨q,hqm,hqr⟩:=hqx;have hqn2:=hqn' q hqm;have hql:q<l.length:=by omega
   have hoq:l[q]? =some l[q]:=cZ hql;obtain⟨vq,hrun,hFk⟩:=hq q hqm _ hoq a W inv.inv inv.aXs (inv.aX2 hqr hoq);have hgd:(l[q]).guard=none:=by
    have h1:=List.all_eq_true.1 hgq q hqm;simp only[List.getElem?_toArray,hoq,Option.isNone_iff_eq_none] at h1;exact h1
   have hfr:=List.all_eq_true.1 hfree q hqm;refine wpAny_first (i:=q) (oi:=l[q]) (v:=vq) (by simp) (λj o cs b=>Region.noSelect_spec hsel j o cs b) (λc a w h=>by
    obtain⟨dq,hdq⟩:=Option.isSome_iff_exists.1 (List.all_eq_true.1 hsome l[q] (bK ((show(l.take n)[q]? =l[q]? by simp[hqn2]).trans hoq)));rw[hdq] at h;exact hQ q _ dq hqm hoq hdq vq c a w h) _ listed a W ?_ hqr (.inl ⟨by simp[Region.wanted,hgd],hrun⟩) (next q _ hqn2 hqr hoq vq W (λ_ _ _ h=>h) (hFk W) inv.inv)
   intro j oj hj hne hun hno;have hjl:j<l.toArray.size:=(Array.getElem?_eq_some_iff.1 hj).1;have h1:=List.all_eq_true.1 hfr j (List.mem_range.2 hjl);have hoq2:l.toArray[q]? =some l[q]:=by simp
   simp only[hoq2,hj,Bool.or_eq_true,beq_iff_eq,hne,false_or] at h1;rcases h1 with h1|h1|h1
   .exfalso;obtain⟨oq',hoq',e',he',hb,hon⟩:=Region.waitsFor_spec h1;obtain⟨_,oq2,hoq3,hdq⟩:=mem_ready.1 hqr;obtain rfl:oq2=oq':=oSi (hoq3.symm.trans hoq');have h2:=hdq e' he' hb;rw[hon,getD_both hun] at h2;cases h2
   .exfalso;obtain⟨e',he',hb⟩:=Array.any_eq_true'.1 h1;simp only[Bool.and_eq_true,beq_iff_eq] at hb;exact hno e' he' hb.1 hb.2
   .exact h1
  refine⟨λh=>(by rw[h] at hkr;cases hkr),λi hi=> ?_⟩;obtain⟨hiun,oi,hoi,hdeps⟩:=mem_ready.1 hi;have hoi':l[i]? =some oi:=by simpa using hoi
  rcases Nat.lt_or_ge i n with hin|hin
  .exact inv.wp hs hF next hin hi
  .obtain rfl:i=n:=by
    by_cases e:i=n
    .exact e
    .exfalso;have hilt:i<l.length:=(gJ.1 hoi').1;have h1:=List.all_eq_true.1 hch i (List.mem_range.2 (by simpa using hilt));simp only[Bool.or_eq_true,decide_eq_true_eq] at h1;rcases h1 with h1|h1
     .omega
     .obtain⟨oj,hoj,e',he',hb,hon⟩:=Region.waitsFor_spec h1;rw[hoi] at hoj;obtain rfl:=oSi hoj;have h2:=hdeps e' he' hb;rw[hon] at h2;have h3:=inv.head.tail (i-1) (by omega) (by simp;omega);rw[getD_both h3] at h2;cases h2
   have hothersD:∀d j,i-j=d->j<i->j∉qs->listed.getD j false=true:=by
    intro d
    induction d using Nat.strongRecOn with
    |ind d ihd=>
     intro j hd hj hjq;have h1:=List.all_eq_true.1 hwait j (List.mem_range.2 hj);simp only[Bool.or_eq_true,List.contains_iff_mem,hjq,false_or] at h1;rcases h1 with h1|h1
     .obtain⟨oj,hoj,e',he',hb,hon⟩:=Region.waitsFor_spec h1;rw[hoi] at hoj;obtain rfl:=oSi hoj;have h2:=hdeps e' he' hb;rwa[hon] at h2
     .obtain⟨k,hk1,hk2⟩:=List.any_eq_true.1 h1;simp only[Bool.and_eq_true,decide_eq_true_eq,Bool.not_eq_true',List.mem_range] at hk1 hk2;obtain⟨⟨hkq,hjk⟩,hkw⟩:=hk2;have hkq':k∉qs:=λhm=>by
       rw[List.contains_iff_mem.2 hm] at hkq;cases hkq
      have hkl:=ihd (i-k) (by omega) k rfl hk1 hkq';obtain⟨ok,hok,e',he',hb,hon⟩:=Region.waitsFor_spec hkw;have h2:=inv.head.closed k ok (by simpa using hok) hkl e' he' hb;rwa[hon] at h2
   have hothers:∀j,j<i->j∉qs->listed.getD j false=true:=λj hj hjq=>hothersD _ j rfl hj hjq;exfalso;have hkq:k∈qs:=Classical.byContradiction λe=>by
    have h2:=hothers k hk e;rw[getD_both (mem_ready.1 hkr).1] at h2;cases h2
   exact hqx ⟨k,hkq,hkr⟩
end
end
section
variable {P:Program} {v:Value} {W:World}
def bO (f:Value->World->Prop):Prop:=∀v W W',f v W->Below W.heap.size W W'->f v W'
def dC (c:Value):Value->World->Prop:=λv _=>v=c
def wY (B:Nat)(cs:Array Value)(T:TypeId):Value->World->Prop:=λv W=>∃A,v=pv A 0/\B<=A/\W.heap[A]? =some (.cells cs T (0,0))
theorem aS (c:Value):bO (dC c):=λ_ _ _ h _=>h
theorem lU (B:Nat)(cs:Array Value)(T:TypeId):bO (wY B cs T):=λ_ _ _ ⟨A,h1,h2,h3⟩ hb=>
 ⟨A,h1,h2,(hb.block A (Array.getElem?_eq_some_iff.1 h3).1).trans h3⟩
def Fs (l:List (Value->World->Prop))(i:Nat):Value->World->Prop:=l.getD i (λ_ _=>True)
theorem tG (l:List (Value->World->Prop))(h:∀f,f∈l->bO f):∀i v W W',Fs l i v W->Below W.heap.size W W'->Fs l i v W':=by
 intro i v W W' hf hb;unfold Fs at hf⊢;rw[List.getD_eq_getElem?_getD] at hf⊢
 revert hf
 cases e:l[i]? with
 |none=>exact λ_=>trivial
 |some f=>exact λhf=>h f (bK e) v W W' hf hb
theorem gY {f:FuncId}{args:Array Value}{F:Value->World->Prop}(h:Calls P f args W λe w'=>e=.returned v/\Below W.heap.size W w')(hF:∀w',Below W.heap.size W w'->F v w'):
  sO P W F (.ok (.enter f args) W):=
 ⟨aW,h.mono λ_ _ ⟨he,hb⟩=>⟨v,he,hb,hF _ hb⟩⟩
theorem aG {F:Value->World->Prop}(hF:F v W):sO P W F (.ok (.value v) W):=⟨aW,hF⟩
theorem nZ {B:Nat}{cs:Array Value}{T:TypeId}(hB:B<=W.heap.size):sO P W (wY B cs T) (.ok (.value (pv W.heap.size 0)) (W.alloc (.cells cs T))):=
 ⟨aW.alloc aH _,_,rfl,hB,kH W _⟩
end
abbrev cH :=Nat×Array Value×TypeId
theorem aE {w:World}{b:Nat}{cs:Array Value}{T:TypeId}(h:w.heap[b]? =some (.cells cs T (0,0)))(o:Nat):w.cell? ⟨b,o,none⟩=cs[o]? :=by
 simp[World.cell?,h]
theorem bB {w:World}{b:Nat}{cs:Array Value}{T:TypeId}(h:w.heap[b]? =some (.cells cs T (0,0)))(o:Nat):w.frozen? ⟨b,o,none⟩=false:=by
 simp[World.frozen?,h]
theorem aC {w:World}{b:Nat}{o:Obj}(h:w.heap[b]? =some o):b<w.heap.size:=(Array.getElem?_eq_some_iff.1 h).1
structure St (w0:World)(bl:List cH)(E:World->Prop)(w:World):Prop where
 below:Below w0.heap.size w0 w
 blk:∀x∈bl,w.heap[x.1]? =some (.cells x.2.1 x.2.2 (0,0))
 nd:bl.Pairwise (λx y=>x.1≠y.1)
 ex:E w
 keep:∀W W',E W->Below W.heap.size W W'->E W'
theorem St.start (w:World):St w [] (λ_=>True) w:=⟨aW,by simp,List.Pairwise.nil,trivial,λ_ _ _ _=>trivial⟩
theorem St.aX5 {w:World}{E:World->Prop}(h:E w)(k:∀W W',E W->Below W.heap.size W W'->E W'):St w [] E w:=⟨aW,by simp,List.Pairwise.nil,h,k⟩
theorem St.to {w0:World}{bl:List cH}{E:World->Prop}{w w':World}(h:St w0 bl E w)(hb:Below w.heap.size w w'):St w0 bl E w':=
 ⟨h.below.trans (hb.mono h.below.size),λx hx=>(hb.block _ (aC (h.blk x hx))).trans (h.blk x hx),h.nd,h.keep _ _ h.ex hb,h.keep⟩
theorem St.alloc {w0:World}{bl:List cH}{E:World->Prop}{w:World}(h:St w0 bl E w){cs:Array Value}{T:TypeId}:St w0 ((w.heap.size,cs,T)::bl) E (w.alloc (.cells cs T)):=by
 have h':=h.to (aW.alloc aH (.cells cs T));refine⟨h'.below,?_,?_,h'.ex,h'.keep⟩
 .intro x hx;rcases List.mem_cons.1 hx with rfl|hx
  .exact kH w _
  .exact h'.blk x hx
 .refine List.Pairwise.cons ?_ h.nd;intro x hx e;have:=aC (h.blk x hx);simp only at e;omega
theorem St.drew {w0:World}{bl:List cH}{E:World->Prop}{w:World}(h:St w0 bl E w):St w0 bl E w.drew:=h.to aW.drew
theorem St.drewN {w0:World}{bl:List cH}{E:World->Prop}{w:World}(h:St w0 bl E w){n:Nat}:St w0 bl E (w.drewN n):=h.to ⟨rfl,rfl,rfl,aH,λ_ _=>rfl⟩
theorem St.aXp {w0:World}{bl:List cH}{E F:World->Prop}{w:World}(h:St w0 bl E w)(hF:F w)(k:∀W W',F W->Below W.heap.size W W'->F W'):St w0 bl (λW=>E W/\F W) w:=
 ⟨h.below,h.blk,h.nd,⟨h.ex,hF⟩,λ_ _ e hb=>⟨h.keep _ _ e.1 hb,k _ _ e.2 hb⟩⟩
theorem St.less {w0:World}{bl:List cH}{E:World->Prop}{w:World}(h:St w0 bl E w)(bl':List cH)(hs:bl'.Sublist bl):St w0 bl' E w:=
 ⟨h.below,λx hx=>h.blk x (hs.subset hx),h.nd.sublist hs,h.ex,h.keep⟩
theorem St.aW3 {w0:World}{bl:List cH}{E F:World->Prop}{w:World}(h:St w0 bl E w)(hF:F w)(k:∀W W',F W->Below W.heap.size W W'->F W'):St w0 bl F w:=
 ⟨h.below,h.blk,h.nd,hF,k⟩
theorem cU {w:World}{b:Nat}{cs:Array Value}{T:TypeId}(h:w.heap[b]? =some (.cells cs T (0,0)))(o:Nat)(v:Value):(w.setCell ⟨b,o,none⟩ v).heap[b]? =some (.cells (cs.setIfInBounds o v) T (0,0)):=by
 have hlt:=aC h;have h':w.heap[b]=.cells cs T (0,0):=by simpa[Array.getElem?_eq_getElem hlt] using h
 show(w.heap.modify b _)[b]? =_;rw[Array.getElem?_eq_getElem (by simpa using hlt),Array.getElem_modify_self,h'];rfl
def jP (bl:List cH)(i o:Nat)(v:Value):List cH:=bl.modify i λx=>(x.1,x.2.1.setIfInBounds o v,x.2.2)
theorem St.set {w0:World}{bl:List cH}{E:World->Prop}{w:World}(h:St w0 bl E w)(i:Nat){A:Nat}{cs:Array Value}{T:TypeId}(hi:bl[i]? =some (A,cs,T))(hA:w0.heap.size<=A){o:Nat}{v:Value}
  (hE:E w->E (w.setCell ⟨A,o,none⟩ v)):St w0 (jP bl i o v) E (w.setCell ⟨A,o,none⟩ v):=by
 have hil:i<bl.length:=(gJ.1 hi).1;have hmem:∀j x,(jP bl i o v)[j]? =some x->∃y,bl[j]? =some y/\x.1=y.1/\x=(if i=j then(y.1,y.2.1.setIfInBounds o v,y.2.2) else y):=by
  intro j x hx;unfold jP at hx;rw[List.getElem?_modify] at hx;cases hy:bl[j]? with
  |none=>simp[hy] at hx
  |some y=>
   rw[hy] at hx;have hx':(if i=j then(y.1,y.2.1.setIfInBounds o v,y.2.2) else y)=x:=by
    split at hx<;>simp_all
   refine⟨y,rfl,?_,hx'.symm⟩;rw[<-hx'];split<;>rfl
 refine⟨h.below.setCell hA _,?_,?_,hE h.ex,h.keep⟩
 .intro x hx;obtain⟨j,hj⟩:=List.mem_iff_getElem?.1 hx;obtain⟨y,hy,h1,h2⟩:=hmem j x hj
  by_cases e:i=j
  .subst e;obtain rfl:(A,cs,T)=y:=oSi (hi.symm.trans hy);rw[if_pos rfl] at h2;subst h2;exact cU (h.blk _ (bK hi)) o v
  .rw[if_neg e] at h2;subst h2;have hne:x.1≠A:=by
    intro e';have hjl:j<bl.length:=(gJ.1 hy).1;have hp:=List.pairwise_iff_getElem.1 h.nd;have ei:bl[i]=(A,cs,T):=by simpa[cZ hil] using hi
    have ej:bl[j]=x:=by simpa[cZ hjl] using hy
    rcases Nat.lt_or_gt_of_ne e with hlt|hlt
    .exact hp i j hil hjl hlt (by rw[ei,ej];exact e'.symm)
    .exact hp j i hjl hil hlt (by rw[ei,ej];exact e')
   exact(Below.heap_setCell w ⟨A,o,none⟩ v x.1 hne).trans (h.blk x (bK hy))
 .rw[List.pairwise_iff_getElem];intro j k hj hk hjk;obtain⟨y,hy,h1,_⟩:=hmem j _ (cZ hj);obtain⟨z,hz,h3,_⟩:=hmem k _ (cZ hk);rw[h1,h3];have hjl:j<bl.length:=(gJ.1 hy).1;have hkl:k<bl.length:=(gJ.1 hz).1;have:=List.pairwise_iff_getElem.1 h.nd j k hjl hkl hjk;have ey:bl[j]=y:=by simpa[cZ hjl] using hy
  have ez:bl[k]=z:=by simpa[cZ hkl] using hz
  rwa[ey,ez] at this
theorem St.aW5 {w0:World}{bl:List cH}{w:World}(h:St w0 bl (λ_=>True) w)(i:Nat){A:Nat}{cs:Array Value}{T:TypeId}(hi:bl[i]? =some (A,cs,T))(hA:w0.heap.size<=A){o:Nat}{v:Value}:
  St w0 (jP bl i o v) (λ_=>True) (w.setCell ⟨A,o,none⟩ v):=h.set i hi hA λ_=>trivial
theorem St.grown {w0:World}{bl:List cH}{w w':World}{row:Option Nat}(h:St w0 bl (λ_=>True) w)(hg:w.grownBy w' row)(hr:∀k,row=some k->w0.heap.size<=k/\∀x∈bl,x.1<k):St w0 bl (λ_=>True) w':=
 ⟨h.below.grown hg h.below.size (λk hk=>(hr k hk).1),λx hx=>(hg.block _ (aC (h.blk x hx)) (λe=>by have:=(hr _ e.symm).2 x hx;omega)).trans (h.blk x hx),h.nd,trivial,λ_ _ _ _=>trivial⟩
theorem St.aXc {w0:World}{bl bl':List cH}{E:World->Prop}{w w' wB:World}{e:TypeId}{size:Nat}{v:Value}{n:Nat}{xs:List Value}(h:St w0 bl (λ_=>True) w)(hB:St w0 bl' E wB)(hown:w.ownsRow wB.heap.size e size v n xs)(hg:w.grownBy w' v.ownBlock)(hs:∀x∈bl,x∈bl':=by exact λ_ h=>h):St w0 bl (λ_=>True) w':=
 h.grown hg λk hk=>by
  have h1:=(hown.lt k hk).1;exact⟨dR hB.below.size h1,λx hx=>kG (aC (hB.blk x (hs x hx))) h1⟩
theorem fP {w:World}{B B':Nat}{e:TypeId}{size:Nat}{v:Value}{n:Nat}{xs:List Value}(h:w.ownsRow B e size v n xs)(hb:B'<=B):w.ownsRow B' e size v n xs:=by
 refine⟨h.1,?_⟩;rcases h.2 with hn|⟨g,cap,cur,h1,h2,h3⟩
 .exact .inl hn
 .exact .inr ⟨g,cap,cur,h1,dR hb h2,h3⟩
theorem mV {B:Nat}{e:TypeId}{size:Nat}{v:Value}{n:Nat}{xs:List Value}:∀W W':World,W.ownsRow B e size v n xs->Below W.heap.size W W'->W'.ownsRow B e size v n xs:=by
 intro W W' h hb;refine⟨h.1,?_⟩;rcases h.2 with hn|⟨g,cap,cur,h1,h2,h3,h4⟩
 .exact .inl hn
 .exact .inr ⟨g,cap,cur,h1,h2,(hb.block g (aC h3)).trans h3,h4⟩
theorem St.aW8 {w0:World}{bl:List cH}{E E':World->Prop}{w W:World}(hw:St w0 bl E w)(h:St w0 bl E' W){A:Nat}{cs:Array Value}{T:TypeId}(hA:w.heap.size<=A)(hN:W.heap[A]? =some (.cells cs T (0,0))):St w0 ((A,cs,T)::bl) E' W:=
 ⟨h.below,λx hx=>by
  rcases List.mem_cons.1 hx with rfl|hx
  .exact hN
  .exact h.blk x hx,List.Pairwise.cons (λx hx e=>by have:=aC (hw.blk x hx);simp only at e;omega) h.nd,h.ex,h.keep⟩
def aI (w:World):List cH->Prop
 |[]=>True
 |x::l=>(∀o,w.cell? ⟨x.1,o,none⟩=x.2.1[o]?)/\(∀o,w.frozen? ⟨x.1,o,none⟩=false)/\x.1<w.heap.size/\aI w l
theorem aCx {w:World}:∀(bl:List cH),(∀x∈bl,w.heap[x.1]? =some (.cells x.2.1 x.2.2 (0,0)))->aI w bl
 |[],_=>trivial
 |x::l,h=>⟨aE (h x (by simp)),bB (h x (by simp)),aC (h x (by simp)),aCx l λy hy=>h y (by simp[hy])⟩
theorem St.rules {w0:World}{bl:List cH}{E:World->Prop}{w:World}(h:St w0 bl E w):aI w bl:=aCx bl h.blk
theorem St.rl {w0:World}{bl:List cH}{E:World->Prop}{w:World}{R:Prop}(h:St w0 bl E w)(e:aI w bl=R:=by simp only[aI];rfl):R:=e▸h.rules
theorem St.rs {w0:World}{bl:List cH}{E:World->Prop}{w:World}{R:Prop}(h:St w0 bl E w)(e:aI w bl=R:=by simp only[aI,World.size_alloc];rfl):R:=e▸h.rules
theorem St.sx {w0:World}{bl bl':List cH}{w:World}(h:St w0 bl (λ_=>True) w)(i:Nat){A:Nat}{cs:Array Value}{T:TypeId}(hi:bl[i]? =some (A,cs,T))(hA:w0.heap.size<=A){o:Nat}{v:Value}
  (e:jP bl i o v=bl':=by simp only[jP,List.modify_succ_cons,List.modify_zero_cons,List.setIfInBounds_toArray,List.set_cons_zero,List.set_cons_succ];rfl):St w0 bl' (λ_=>True) (w.setCell ⟨A,o,none⟩ v):=e▸St.aW5 h i hi hA
@[go_sem] theorem aSp {w:World}{n k:Nat}(h:n<w.heap.size):(n<w.heap.size+k)=True:=eq_true (by omega)
@[go_sem] theorem aVn {w:World}{n:Nat}(h:n<w.heap.size):(n<=w.heap.size)=True:=eq_true (by omega)
structure Cs (w0:World)(bl:List cH)(E:World->Prop)where
 W:World
 st:St w0 bl E W
theorem Cs.call {P:Program}{f:FuncId}{args:Array Value}{w0:World}{bl:List cH}{E:World->Prop}{x:Cs w0 bl E}{v:Value}
  (h:Calls P f args x.W λe w'=>e=.returned v/\Below x.W.heap.size x.W w'):Calls P f args x.W λe w'=>e=.returned v/\∃y:Cs w0 bl E,w'=y.W:=
 h.mono λ_ w' ⟨he,hb⟩=>⟨he,⟨w',x.st.to hb⟩,rfl⟩
theorem Cs.aW0 {P:Program}{f:FuncId}{args:Array Value}{w0:World}{bl:List cH}{E:World->Prop}{x:Cs w0 bl E}{v:Value}
  (h:Calls P f args x.W λe w'=>e=.returned v/\w'=x.W):Calls P f args x.W λe w'=>e=.returned v/\∃y:Cs w0 bl E,w'=y.W:=
 h.mono λ_ _ ⟨he,hb⟩=>⟨he,x,hb⟩
theorem Cs.aXo {P:Program}{f:FuncId}{args:Array Value}{w0:World}{bl:List cH}{E:World->Prop}{x:Cs w0 bl E}{v:Value}
  (h:Calls P f args x.W λe w'=>e=.returned v/\∃m,w'=x.W.drewN m):Calls P f args x.W λe w'=>e=.returned v/\∃y:Cs w0 bl E,w'=y.W:=
 h.mono λ_ w' ⟨he,m,hb⟩=>⟨he,⟨w',by rw[hb];exact x.st.drewN⟩,rfl⟩
theorem St.cs {w0:World}{bl:List cH}{E:World->Prop}{w:World}(_:St w0 bl E w):∀x:Cs w0 bl E,aI x.W bl:=λx=>x.st.rules
theorem St.csE {w0:World}{bl:List cH}{E:World->Prop}{w:World}(_:St w0 bl E w):∀x:Cs w0 bl E,E x.W:=λx=>x.st.ex
theorem St.aW1 {w0:World}{bl:List cH}{E:World->Prop}{w:World}(h:St w0 bl E w):∃bl' E',Nonempty (Cs w0 bl' E')/\St w0 bl' E' w/\(∀x:Cs w0 bl' E',aI x.W bl)/\(∀x:Cs w0 bl' E',Hid (E x.W))/\(∀x:Cs w0 bl' E',Hid (Below w0.heap.size w0 x.W))/\(∀x:Cs w0 bl' E',Hid (St w0 bl E x.W)):=
 ⟨bl,E,⟨⟨w,h⟩⟩,h,λx=>x.st.rules,λx=>x.st.ex,λx=>x.st.below,λx=>x.st⟩
theorem St.call {P:Program}{f:FuncId}{args:Array Value}{w0:World}{bl:List cH}{E:World->Prop}{w:World}{v:Value}(h:St w0 bl E w)
  (hc:Calls P f args w λe w'=>e=.returned v/\Below w.heap.size w w'):Calls P f args w λe w'=>e=.returned v/\St w0 bl E w':=
 hc.mono λ_ _ ⟨he,hb⟩=>⟨he,h.to hb⟩
theorem St.aXb {P:Program}{f:FuncId}{args:Array Value}{w0:World}{bl:List cH}{E:World->Prop}{w:World}{v:Value}(h:St w0 bl E w)
  (hc:St w0 bl E w->Calls P f args w λe w'=>e=.returned v/\Below w.heap.size w w'):Calls P f args w λe w'=>e=.returned v/\St w0 bl E w':=h.call (hc h)
theorem St.ne {w0:World}{bl:List cH}{E:World->Prop}{w:World}(h:St w0 bl E w):Nonempty (Cs w0 bl E):=⟨⟨w,h⟩⟩
theorem aZ {P:Program}{id:Nat}{Q:Exit->Act->World->Prop}{a:Act}{w w0:World}{bl:List cH}{E:World->Prop}{l:List Oper}(st:St w0 bl E w)(hm:P.follows .mixedOrders=true)(hB:Region.lexB .any l.toArray=true)
  (h:wpQuiet P l.toArray (λW=>∃x:Cs w0 bl E,W=x.W) (λa'=>∀x:Cs w0 bl E,Q .normal a' x.W) l a):(Code.region id l.toArray true).wp P Q a w:=
 rO (λW=>∃x:Cs w0 bl E,W=x.W) hm hB ⟨⟨w.drew,st.drew⟩,rfl⟩ (by
  have e:(λa':Act=>∀w',(∃x:Cs w0 bl E,w'=x.W)->Q .normal a' w')=λa'=>∀x:Cs w0 bl E,Q .normal a' x.W:=by
   funext a';exact propext ⟨λh x=>h _ ⟨x,rfl⟩,λh w' ⟨x,e⟩=>e▸h x⟩
  rw[e];exact h)
theorem bP {P:Program}{id:Nat}{Q:Exit->Act->World->Prop}{a:Act}{w w0:World}{bl:List cH}{E:World->Prop}{l:List Oper}(st:St w0 bl E w)(n:Nat)(hm:P.follows .mixedOrders=true)(hB:Region.lexTailB .any l.toArray n=true)
  (h:wpQuiet P l.toArray (λW=>∃x:Cs w0 bl E,W=x.W) (λa'=>∀x:Cs w0 bl E,wpList P l.toArray Q (l.drop n) a' x.W) (l.take n) a):(Code.region id l.toArray true).wp P Q a w:=
 gO (λW=>∃x:Cs w0 bl E,W=x.W) n hm hB ⟨⟨w.drew,st.drew⟩,rfl⟩ (by
  have e:(λa':Act=>∀w',(∃x:Cs w0 bl E,w'=x.W)->wpList P l.toArray Q (l.drop n) a' w')=λa'=>∀x:Cs w0 bl E,wpList P l.toArray Q (l.drop n) a' x.W:=by
   funext a';exact propext ⟨λh x=>h _ ⟨x,rfl⟩,λh w' ⟨x,e⟩=>e▸h x⟩
  rw[e];exact h)
section
variable {B:Nat} {s:Option Addr} {v:Value} {W W':World}
section
variable {α:Type} {k:Nat} {enc:α->List Value}
def Rd (k:Nat)(enc:α->List Value)(W:World)(s:Option Addr)(L:List α):Prop:=
 ∀i x,L[i]? =some x->∃g o,s=some ⟨g,o,none⟩/\g<W.heap.size/\∀j u,(enc x)[j]? =some u->W.cell? ⟨g,o+i*k+j,none⟩=some u
theorem Rd.nil (W:World)(s:Option Addr):Rd k enc W s []:=λi x h=>by simp at h
theorem Rd.aWu {n:Nat}{L:List α}(h:Rd k enc W s L)(hn:W.heap.size<=n)(hb:Below n W W'):Rd k enc W' s L:=by
 intro i x hx;obtain⟨g,o,e,hg,hc⟩:=h i x hx;have:=hb.size;exact⟨g,o,e,by omega,λj u hu=>(hb.cell (p:=⟨g,o+i*k+j,none⟩) (by show g<n;omega)).trans (hc j u hu)⟩
theorem Rd.keep {L:List α}:∀W W':World,Rd k enc W s L->Below W.heap.size W W'->Rd k enc W' s L:=λ_ _ h hb=>h.aWu aH hb
theorem Rd.drop {L:List α}{g o:Nat}(h:Rd k enc W (some ⟨g,o,none⟩) L)(n:Nat):Rd k enc W (some ⟨g,o+n*k,none⟩) (L.drop n):=by
 intro i x hx;rw[List.getElem?_drop] at hx;obtain⟨g',o',e,hg,hc⟩:=h _ x hx;cases e;refine⟨g,o+n*k,rfl,hg,λj u hu=> ?_⟩;rw[<-hc j u hu];congr 2;rw[Nat.add_mul];omega
theorem Rd.take {L:List α}(h:Rd k enc W s L)(n:Nat):Rd k enc W s (L.take n):=by
 intro i x hx;rw[List.getElem?_take] at hx;split at hx
 .exact h i x hx
 .cases hx
def dJ (s:Option Addr):Prop:=∀ad,s=some ad->∃g o,ad=⟨g,o,none⟩
theorem dJ.none :dJ none:=λ_ h=>by cases h
theorem dJ.some (g o:Nat):dJ (some ⟨g,o,.none⟩):=λ_ h=>by cases h;exact⟨g,o,rfl⟩
def aL (k:Nat)(enc:α->List Value)(e:TypeId)(W:World)(B:Nat)(v:Value)(L:List α):Prop:=W.ownsRow B e k v L.length (L.flatMap enc)
variable {e:TypeId}
theorem aL.nil (W:World)(B:Nat):aL k enc e W B (.slice none 0 0) []:=⟨by simp,.inl ⟨rfl,rfl⟩⟩
theorem eD (hk:∀x,(enc x).length=k):∀L:List α,(L.flatMap enc).length=L.length*k
 |[]=>by simp
 |x::L=>by simp[eD hk L,hk,Nat.add_mul,Nat.add_comm]
theorem nB (hk:∀x,(enc x).length=k):∀(L:List α) (i:Nat) (x:α),L[i]? =some x->∀j u,(enc x)[j]? =some u->(L.flatMap enc)[i*k+j]? =some u
 |[],i,x,h,_,_,_=>by simp at h
 |y::L,i,x,h,j,u,hu=>by
  have hj:j<k:=by have:=(gJ.1 hu).1;rw[hk] at this;exact this
  rw[List.flatMap_cons];cases i with
  |zero=>
   simp at h;subst h;rw[Nat.zero_mul,Nat.zero_add,List.getElem?_append_left (by rw[hk];exact hj)];exact hu
  |succ i=>
   simp at h;rw[List.getElem?_append_right (by rw[hk,Nat.add_mul];omega),hk,show(i+1)*k+j-k=i*k+j by rw[Nat.add_mul];omega];exact nB hk L i x h j u hu
theorem tL (hk:∀x,(enc x).length=k)(hk0:0<k)(L:List α)(j:Nat)(u:Value)(h:(L.flatMap enc)[j]? =some u):∃x,L[j/k]? =some x/\(enc x)[j%k]? =some u:=by
 have hj:j<L.length*k:=by have:=(gJ.1 h).1;rwa[eD hk] at this
 have hq:j/k<L.length:=(Nat.div_lt_iff_lt_mul hk0).2 hj;refine⟨L[j/k],cZ hq,?_⟩;have hr:j%k<(enc L[j/k]).length:=by rw[hk];exact Nat.mod_lt _ hk0
 have:=nB hk L (j/k) _ (cZ hq) (j%k) _ (cZ hr);rw[show j/k*k+j%k=j by rw[Nat.mul_comm];exact Nat.div_add_mod j k] at this;rw[cZ hr,<-h,this]
theorem aL.form {L:List α}(hk:∀x,(enc x).length=k)(h:aL k enc e W B v L):
  ∃s cap,v=.slice s L.length cap/\L.length<=cap/\cap<=9223372036854775807/\Rd k enc W s L/\(s=none->cap=0)/\dJ s:=by
 rcases h.2 with⟨hv,hz⟩|⟨g,cap,cur,hv,hB,hbk,hcap,hcm,hcs,hct⟩
 .have e0:L=[]:=List.eq_nil_of_length_eq_zero hz;subst e0;exact⟨none,0,hv,aH,by omega,Rd.nil _ _,λ_=>rfl,dJ.none⟩
 .refine⟨some ⟨g,0,none⟩,cap,hv,hcap,by unfold maxLen at hcm;omega,λi x hx=> ?_,(λh=>by cases h),dJ.some _ _⟩;refine⟨g,0,rfl,aC hbk,λj u hu=> ?_⟩;have hf:=nB hk L i x hx j u hu;have hlt:=(gJ.1 hf).1;rw[eD hk] at hlt;rw[Nat.zero_add,aE hbk,<-hf,<-hct,List.getElem?_take,if_pos hlt,Array.getElem?_toList]
def uD (B:Nat)(s:Option Addr):Prop:=dJ s/\∀g o,s=some ⟨g,o,none⟩->B<=g
def aTc (B:Nat)(s0 s:Option Addr):Prop:=dJ s/\(s=s0\/∀g o,s=some ⟨g,o,none⟩->B<=g)
theorem uD.mono {B':Nat}(h:uD B s)(hb:B'<=B):uD B' s:=⟨h.1,λg o e=>dR hb (h.2 g o e)⟩
theorem aL.aXq {n cap:Nat}{L:List α}(h:aL k enc e W B (.slice s n cap) L):∀g o,s=some ⟨g,o,none⟩->B<=g:=by
 intro g o hs;rcases h.2 with⟨hv,_⟩|⟨g',cap',cur,hv,hB,_⟩
 .cases hv;cases hs
 .cases hv;cases hs;exact hB
theorem aL.keep {L:List α}:∀W W':World,aL k enc e W B v L->Below W.heap.size W W'->aL k enc e W' B v L:=λW W' h hb=>mV W W' h hb
theorem aL.other {R:Nat}{L:List α}(h:aL k enc e W B v L)(hg:W.grownBy W' (some R))(hR:R<B):aL k enc e W' B v L:=
 World.ownsRow.kept (row:=some R) h hg (.inr (λe=>by
  have:=(h.lt R e).1;omega))
theorem aL.base {B':Nat}{L:List α}(h:aL k enc e W B v L)(hb:B'<=B):aL k enc e W B' v L:=fP h hb
def eM (P:Program)(t e:TypeId)(k bytes:Nat):Prop:=P.underlying t=some (.slice e)/\0<k/\∃i z,P.info? e=some i/\i.zero=some z/\i.size=k/\i.bytes=bytes/\z.cells.size=k
theorem eM.mk {P:Program}{t e:TypeId}{k bytes:Nat}{z:Value}(h:P.underlying t=some (.slice e))(hi:(P.info? e).map (λi=>(i.zero,i.size,i.bytes))=some (some z,k,bytes))(hz:z.cells.size=k)(h0:0<k):eM P t e k bytes:=by
 obtain⟨i,h1,h2,h3,h4⟩:=info_parts hi;exact⟨h,h0,i,z,h1,h2,h3,h4,hz⟩
end
section
variable {α:Type} {k:Nat} {enc:α->List Value} {P:Program} {t e:TypeId} {bytes:Nat}
structure aLr (w0:World)(bl:List cH)(W:World)(B:Nat)(k:Nat)(enc:α->List Value)(e:TypeId)(L:List α)(v':Value)(w':World):Prop where
 st:St w0 bl (λ_=>True) w'
 own:aL k enc e w' B v' L
 size:W.heap.size<=w'.heap.size
 low:∀b,b<B->w'.heap[b]? =W.heap[b]?
 others:KeepsOthers W w'
theorem zL {e:TypeId}{size:Nat}{k:Nat}{xs:List Value}(hr:W.ownsRow B e size v k xs)(j:Nat)(o:Obj)(h:v.ownBlock=some j)(ho:W.heap[j]? =some o):o.isCells=true:=by
 rcases hr.2 with⟨rfl,_⟩|⟨g,cap,cur,rfl,_,hgb,_⟩
 .simp[Value.ownBlock] at h
 .obtain rfl:g=j:=by simpa[Value.ownBlock] using h
  rw[hgb] at ho;cases ho;rfl
theorem iT (h:Below W.heap.size W W'):KeepsOthers W W':=⟨h.size,λk _ hk _=>(h.block k (aC hk)).trans hk⟩
theorem aB5 {w0:World}{bl:List cH}{W1:World}{v':Value}{w':World}{L M:List α}(st:St w0 bl (λ_=>True) W)(hown:aL k enc e W1 B v L)(h1:Below W.heap.size W W1)(hw:w0.heap.size<=B)(hbl:∀z∈bl,z.1<B)(hB:B<=W.heap.size)
  (ho:w'.ownsRow B e k v' (L.length+M.length) (L.flatMap enc++M.flatMap enc)) (hgr:W1.grownBy w' v.ownBlock):aLr w0 bl W B k enc e (L++M) v' w':=by
 have st1:=st.to h1;have hlt:∀b,v.ownBlock=some b->B<=b:=λb hb=>(hown.lt b hb).1;refine⟨st1.grown hgr λb hb=> ?_,?_,dR h1.size hgr.size,λb hb=> ?_,(iT h1).trans (KeepsOthers.of_grownBy hgr λj o ej hj=>zL hown j o ej hj)⟩
 .have:=hlt b hb;exact⟨by omega,λz hz=>by have:=hbl z hz;omega⟩
 .unfold aL;rw[List.length_append,List.flatMap_append];exact ho
 .have hs:=h1.size;refine(hgr.block b (by omega) (λee=> ?_)).trans (h1.block b (by omega));have:=hlt b ee.symm;omega
theorem fI (el:eM P t e k bytes)(hk:∀x,(enc x).length=k)(h1:∀x,∀v∈enc x,v.oneCell'=true){ops:Array Oper}{rest:List Oper}{o:Oper}{a:Act}{Q:Exit->Act->World->Prop}{w0 W:World}{bl:List cH}(hgd:o.guard=none)(s x:Operand)
  (ho:o.op=.call {callee:=.builtin .append,args:= #[s,x],argTypes:= #[t,t]}) (B:Nat) (v:Value) (L:List α) (y:α) (hs:a.eval s=v) (st:St w0 bl (λ_=>True) W) (hown:aL k enc e W B v L)
  (hw:w0.heap.size<=B) (hbl:∀z∈bl,z.1<B) (hB:B<=W.heap.size) (cs:Array Value) (hcs:cs=(enc y).toArray) (g:Nat) (hg:g=W.heap.size) (hx:a.eval x=.slice (some ⟨g,0,none⟩) 1 1) (hn:L.length+1<=1000000) (hby:bytes<=10000)
  (h:∀v' w',aLr w0 bl W B k enc e (L++[y]) v' w'->wpList P ops Q rest (a.put o.dst v') w'):
  wpList P ops Q (o::rest) a (W.alloc (.cells cs e)):=by
 obtain⟨h2,h0,i,z,h3,h4,h5,h6,h7⟩:=el;subst hg;subst hcs;have hb:=(Below.refl W.heap.size W).alloc aH (.cells (enc y).toArray e);have hown1:=aL.keep _ _ hown hb;have hmul:(L.length+1)*bytes<=1000000*10000:=Nat.mul_le_mul hn hby
 refine wpList_append_own _ hgd s x t ho B e i z k bytes h2 h3 h4 h5 h6 h7 h0 v L.length (L.flatMap enc) hs hown1 ⟨W.heap.size,0,none⟩ 1 1 (enc y) hx (by rw[hk];omega) ?_ (h1 y) (by unfold maxLen;omega) (by omega) (by simp;omega) ?_
 .intro j u hj;rw[Addr.add_lit,Nat.zero_add,aE (kH W _),List.getElem?_toArray,hj]
 .intro v' w' hown' hgr _;exact h v' w' (aB5 (M:=[y]) st hown1 hb hw hbl hB (by simpa using hown') hgr)
theorem aB6 (el:eM P t e k bytes)(hk:∀x,(enc x).length=k)(h1:∀x,∀v∈enc x,v.oneCell'=true){F:Fence}{m:Nat}{ops:Array Oper}{rest:List Oper}{o:Oper}{a:Act}{Q:Exit->Act->World->Prop}{w0 W:World}{bl:List cH}(hgd:o.guard=none)(s x:Operand)
  (ho:o.op=.call {callee:=.builtin .append,args:= #[s,x],argTypes:= #[t,t]}) (B:Nat) (v:Value) (L:List α) (y:α) (hs:a.eval s=v) (st:St w0 bl (λ_=>True) W) (hown:aL k enc e W B v L)
  (hw:w0.heap.size<=B) (hbl:∀z∈bl,z.1<B) (hB:B<=W.heap.size) (cs:Array Value) (hcs:cs=(enc y).toArray) (g:Nat) (hg:g=W.heap.size) (hx:a.eval x=.slice (some ⟨g,0,none⟩) 1 1) (hn:L.length+1<=1000000) (hby:bytes<=10000)
  (h:∀v' w',aLr w0 bl W B k enc e (L++[y]) v' w'->wpListIn F m P ops Q rest (a.put o.dst v') w'):
  wpListIn F m P ops Q (o::rest) a (W.alloc (.cells cs e)):=by
 obtain⟨h2,h0,i,z,h3,h4,h5,h6,h7⟩:=el;subst hg;subst hcs;have hb:=(Below.refl W.heap.size W).alloc aH (.cells (enc y).toArray e);have hown1:=aL.keep _ _ hown hb;have hmul:(L.length+1)*bytes<=1000000*10000:=Nat.mul_le_mul hn hby
 refine wpListIn_append_own _ hgd s x t ho B e i z k bytes h2 h3 h4 h5 h6 h7 h0 v L.length (L.flatMap enc) hs hown1 ⟨W.heap.size,0,none⟩ 1 1 (enc y) hx (by rw[hk];omega) ?_ (h1 y) (by unfold maxLen;omega) (by omega) (by simp;omega) ?_
 .intro j u hj;rw[Addr.add_lit,Nat.zero_add,aE (kH W _),List.getElem?_toArray,hj]
 .intro v' w' hown' hgr _;exact h v' w' (aB5 (M:=[y]) st hown1 hb hw hbl hB (by simpa using hown') hgr)
theorem kW (hk:∀x,(enc x).length=k)(hk0:0<k){W:World}{g o:Nat}{M:List α}(hM:Rd k enc W (some ⟨g,o,none⟩) M)(j:Nat)(u:Value)(hj:(M.flatMap enc)[j]? =some u):W.cell? ((⟨g,o,none⟩:Addr).add j)=some u:=by
 obtain⟨x,hx,hu⟩:=tL hk hk0 M j u hj;obtain⟨g',o',he,_,hc⟩:=hM _ _ hx;cases he;have:=hc _ _ hu;rw[Addr.add_lit];rw[show o+j/k*k+j%k=o+j by have:=Nat.div_add_mod j k;rw[Nat.mul_comm] at this;omega] at this;exact this
theorem qU (h1:∀x,∀v∈enc x,v.oneCell'=true)(M:List α):∀u∈M.flatMap enc,u.oneCell'=true:=by
 intro u hu;obtain⟨x,_,hx⟩:=List.mem_flatMap.1 hu;exact h1 x u hx
theorem kV {M:List α}(h:Rd k enc W none M):M=[]:=by
 cases M with
 |nil=>rfl
 |cons y M=>obtain⟨g,o,he,_⟩:=h 0 y rfl;cases he
theorem cY (el:eM P t e k bytes)(hk:∀x,(enc x).length=k)(h1:∀x,∀v∈enc x,v.oneCell'=true){ops:Array Oper}{rest:List Oper}{o:Oper}{a:Act}{Q:Exit->Act->World->Prop}{w0 W:World}{bl:List cH}(hgd:o.guard=none)(s x:Operand)
  (ho:o.op=.call {callee:=.builtin .append,args:= #[s,x],argTypes:= #[t,t]}) (B:Nat) (v:Value) (L:List α) (hs:a.eval s=v) (st:St w0 bl (λ_=>True) W) (hown:aL k enc e W B v L)
  (hw:w0.heap.size<=B) (hbl:∀z∈bl,z.1<B) (hB:B<=W.heap.size) (M:List α) (m:Nat) (hm:m=M.length) (sx:Option Addr) (cx:Nat) (hx:a.eval x=.slice sx m cx) (hc:sx=none->cx=0) (hM:Rd k enc W sx M)
  (hn:L.length+M.length<=1000000) (hby:bytes<=10000)
  (h:∀v' w',aLr w0 bl W B k enc e (L++M) v' w'->wpList P ops Q rest (a.put o.dst v') w'):
  wpList P ops Q (o::rest) a W:=by
 obtain⟨h2,h0,i,z,h3,h4,h5,h6,h7⟩:=el;subst hm;have hmul:(L.length+M.length)*bytes<=1000000*10000:=Nat.mul_le_mul hn hby
 cases sx with
 |none=>
  obtain rfl:=kV hM;obtain rfl:=hc rfl;refine wpList_append_own_none hgd s x t ho B e i k h2 h3 v L.length (L.flatMap enc) hs hown hx ?_;refine h v W ⟨st,by rw[List.append_nil];exact hown,aH,λ_ _=>rfl,KeepsOthers.refl _⟩
 |some ad=>
  have hspot:∀j u,(M.flatMap enc)[j]? =some u->W.cell? (ad.add j)=some u:=by
   intro j u hj;obtain⟨y,hy,_⟩:=tL hk h0 M j u hj;obtain⟨g,o',he,_⟩:=hM _ _ hy;cases he;exact kW hk h0 hM j u hj
  refine wpList_append_own _ hgd s x t ho B e i z k bytes h2 h3 h4 h5 h6 h7 h0 v L.length (L.flatMap enc) hs hown ad M.length cx (M.flatMap enc) hx (eD hk M) hspot (qU h1 M) (by unfold maxLen;omega) (by omega) hB ?_;intro v' w' hown' hgr _;exact h v' w' (aB5 st hown aW hw hbl hB hown' hgr)
theorem kS (el:eM P t e k bytes)(hk:∀x,(enc x).length=k)(h1:∀x,∀v∈enc x,v.oneCell'=true){ops:Array Oper}{rest:List Oper}{o:Oper}{a:Act}{Q:Exit->Act->World->Prop}{w0 W:World}{bl:List cH}(hgd:o.guard=none)(s x:Operand)
  (ho:o.op=.call {callee:=.builtin .append,args:= #[s,x],argTypes:= #[t,t]}) (ss:Option Addr) (L:List α) (n:Nat) (hn0:n=L.length) (y:α) (hs:a.eval s=.slice ss n n) (hsn:ss=none->n=0) (st:St w0 bl (λ_=>True) W) (hL:Rd k enc W ss L)
  (cs:Array Value) (hcs:cs=(enc y).toArray) (g:Nat) (hg:g=W.heap.size) (hx:a.eval x=.slice (some ⟨g,0,none⟩) 1 1) (hn:L.length+1<=1000000) (hby:bytes<=10000)
  (h:∀v' w',aLr w0 bl W W.heap.size k enc e (L++[y]) v' w'->wpList P ops Q rest (a.put o.dst v') w'):
  wpList P ops Q (o::rest) a (W.alloc (.cells cs e)):=by
 obtain⟨h2,h0,i,z,h3,h4,h5,h6,h7⟩:=el;subst hg;subst hcs;subst hn0;have hb:=(Below.refl W.heap.size W).alloc aH (.cells (enc y).toArray e);have hL1:=hL.keep _ _ hb;have hmul:(L.length+1)*bytes<=1000000*10000:=Nat.mul_le_mul hn hby
 refine wpList_append_grows _ hgd s x t ho e i z k bytes h2 h3 h4 h5 h6 h7 h0 ss L.length L.length (L.flatMap enc) hs (λhh=>⟨hsn hh,hsn hh⟩) (eD hk L) ?_ ⟨W.heap.size,0,none⟩ 1 1 (enc y) hx (by rw[hk];omega) ?_ (h1 y) (by omega) (by unfold maxLen;omega) (by omega) ?_
 .intro b hbb j u hj;subst hbb;obtain⟨y',hy,_⟩:=tL hk h0 L j u hj;obtain⟨g,o',he,_⟩:=hL1 _ _ hy;cases he;exact kW hk h0 hL1 j u hj
 .intro j u hj;rw[Addr.add_lit,Nat.zero_add,aE (kH W _),List.getElem?_toArray,hj]
 .intro v' w' hown' hgr;have hgr':W.grownBy w' none:=⟨hgr.os.trans hb.os,hgr.tape.trans hb.tape,hgr.output.trans hb.output,dR hb.size hgr.size,λb hbl _=>(hgr.block b (kG hbl hb.size) (by simp)).trans (hb.block b hbl)⟩;have hbw:Below W.heap.size W w':=⟨hgr'.os,hgr'.tape,hgr'.output,hgr'.size,λb hbl=>hgr'.block b hbl (by simp)⟩;refine h v' w' ⟨st.to hbw,?_,hbw.size,λb hbl=>hbw.block b hbl,iT hbw⟩;unfold aL;rw[List.length_append,List.flatMap_append];have:W.heap.size<=(W.alloc (.cells (enc y).toArray e)).heap.size:=hb.size;exact fP (by simpa using hown') this
end
end
section
variable {cs:Array Value} {bl:List cH} {A:Nat} {W w0:World} {E:World->Prop}
theorem St.setRow {bl1 bl2:List cH}{T:TypeId}{w:World}(h:St w0 (bl1++(A,cs,T)::bl2) (λ_=>True) w)(hA:w0.heap.size<=A)(cs':Array Value):St w0 (bl1++(A,cs',T)::bl2) (λ_=>True) (w.setRow A cs'):=by
 have hnd:=h.nd;have hp1:=(List.pairwise_append.1 hnd).1;have hp2:=(List.pairwise_append.1 hnd).2.1;have hp3:=(List.pairwise_append.1 hnd).2.2;obtain⟨hq1,hq2⟩:=List.pairwise_cons.1 hp2;refine⟨below_setRow h.below hA cs',?_,?_,trivial,λ_ _ _ _=>trivial⟩
 .intro x hx;rcases List.mem_append.1 hx with hx|hx
  .have:=hp3 x hx (A,cs,T) (by simp);exact(setRow_other w A x.1 cs' this).trans (h.blk x (List.mem_append_left _ hx))
  .rcases List.mem_cons.1 hx with rfl|hx
   .exact setRow_heap w A cs cs' T (0,0) (h.blk (A,cs,T) (by simp))
   .have:=hq1 x hx;exact(setRow_other w A x.1 cs' (λe=>this e.symm)).trans (h.blk x (List.mem_append_right _ (List.mem_cons_of_mem _ hx)))
 .refine List.pairwise_append.2 ⟨hp1,List.pairwise_cons.2 ⟨λy hy=>hq1 y hy,hq2⟩,λx hx y hy=> ?_⟩;rcases List.mem_cons.1 hy with rfl|hy
  .exact hp3 x hx (A,cs,T) (by simp)
  .exact hp3 x hx y (List.mem_cons_of_mem _ hy)
theorem St.cons (h:St w0 bl E W){b:Nat}{cs:Array Value}{T:TypeId}(hb:W.heap[b]? =some (.cells cs T (0,0)))(hne:∀x∈bl,x.1≠b):St w0 ((b,cs,T)::bl) E W:=
 ⟨h.below,λx hx=>by
  rcases List.mem_cons.1 hx with rfl|hx
  .exact hb
  .exact h.blk x hx,List.Pairwise.cons (λx hx e=>hne x hx e.symm) h.nd,h.ex,h.keep⟩
theorem St.perm {bl':List cH}(h:St w0 bl E W)(hp:bl.Perm bl'):St w0 bl' E W:=
 ⟨h.below,λx hx=>h.blk x (hp.mem_iff.2 hx),(List.Perm.pairwise_iff (fun{a b} (e:a.1≠b.1)=>Ne.symm e) hp).1 h.nd,h.ex,h.keep⟩
theorem Rd.aW2 {α:Type}{k:Nat}{enc:α->List Value}{L:List α}{T:TypeId}(hk:∀x,(enc x).length=k)(h:W.heap[A]? =some (.cells cs T (0,0)))(hc:cs=(L.flatMap enc).toArray):Rd k enc W (some ⟨A,0,none⟩) L:=by
 intro i x hx;refine⟨A,0,rfl,aC h,λj u hu=> ?_⟩;rw[Nat.zero_add,aE h,hc,List.getElem?_toArray];exact nB hk L i x hx j u hu
section
variable {α:Type} {enc:α->List Value} {P:Program} {t e:TypeId} {bytes:Nat}
theorem aT8 (el:eM P t e 1 bytes){ops:Array Oper}{rest:List Oper}{o:Oper}{a:Act}{Q:Exit->Act->World->Prop}{w0 W:World}{bl:List cH}(hgd:o.guard=none)(l c:Operand)(ho:o.op=Op.makeSlice t l c)(n:Nat)
  (hl:a.eval l=.int .i64 n) (hc:a.eval c=.int .i64 n) (st:St w0 bl (λ_=>True) W) (hn:n<=1000000) (hby:bytes<=10000)
  (h:∀cs w',St w0 ((W.heap.size,cs,e)::bl) (λ_=>True) w'->Below W.heap.size W w'->cs.size=n->wpList P ops Q rest (a.put o.dst (.slice (some ⟨W.heap.size,0,none⟩) n n)) w'):
  wpList P ops Q (o::rest) a W:=by
 obtain⟨h2,h0,i,z,h3,h4,h5,h6,h7⟩:=el;have hmul:i.bytes*n<=10000*1000000:=Nat.mul_le_mul (by omega) hn;refine wpList_make_full _ hgd l c t ho W.heap.size e i z 1 h2 h3 h4 h5 .i64 .i64 n n n hl hc rfl rfl (by omega) (by unfold maxLen;omega) aH ?_;intro w' hown hgr;have hbw:Below W.heap.size W w':=⟨hgr.os,hgr.tape,hgr.output,hgr.size,λb hbl=>hgr.block b hbl (by simp)⟩;rcases hown.2 with⟨hv,_⟩|⟨g,cap,cur,hv,_,hbk,_,_,hcs,_⟩
 .cases hv
 .cases hv;exact h cur w' (St.aW8 st (st.to hbw) aH hbk) hbw (by rw[hcs,Nat.mul_one])
theorem aI8 {z:Value}(h2:P.underlying t=some (.slice e))(hi:(P.info? e).map (λi=>(i.zero,i.size,i.bytes))=some (some z,1,bytes))(hz:z.cells= #[z]){ops:Array Oper}{rest:List Oper}{o:Oper}{a:Act}{Q:Exit->Act->World->Prop}{w0 W:World}{bl:List cH}(hgd:o.guard=none)(l c:Operand)(ho:o.op=Op.makeSlice t l c)(n:Nat)
  (hl:a.eval l=.int .i64 n) (hc:a.eval c=.int .i64 n) (st:St w0 bl (λ_=>True) W) (hn:n<=1000000) (hby:bytes<=10000)
  (h:∀w',St w0 ((W.heap.size,(List.replicate n z).toArray,e)::bl) (λ_=>True) w'->Below W.heap.size W w'->wpList P ops Q rest (a.put o.dst (.slice (some ⟨W.heap.size,0,none⟩) n n)) w'):
  wpList P ops Q (o::rest) a W:=by
 obtain⟨i,h3,h4,h5,h6⟩:=info_parts hi;have hmul:i.bytes*n<=10000*1000000:=Nat.mul_le_mul (by omega) hn;refine wpList_make_full _ hgd l c t ho W.heap.size e i z 1 h2 h3 h4 h5 .i64 .i64 n n n hl hc rfl rfl (by omega) (by unfold maxLen;omega) aH ?_;intro w' hown hgr;have hbw:Below W.heap.size W w':=⟨hgr.os,hgr.tape,hgr.output,hgr.size,λb hbl=>hgr.block b hbl (by simp)⟩;rcases hown.2 with⟨hv,_⟩|⟨g,cap,cur,hv,_,hbk,_,_,hcs,hct⟩
 .cases hv
 .cases hv;have e1:cur=(List.replicate n z).toArray:=by
   rw[hz,Nat.mul_one,toList_madeCells_one] at hct;rw[Nat.mul_one] at hcs;rw[List.take_of_length_le (by simp[hcs])] at hct;rw[<-hct]
  rw[e1] at hbk;exact h w' (St.aW8 st (st.to hbw) aH hbk) hbw
theorem aPk (el:eM P t e 1 bytes)(hk:∀x,(enc x).length=1)(h1:∀x,∀v∈enc x,v.oneCell'=true){ops:Array Oper}{rest:List Oper}{o:Oper}{a:Act}{Q:Exit->Act->World->Prop}{w0 W:World}{bl1 bl2:List cH}(hgd:o.guard=none)(d s:Operand)
  (ho:o.op=.call {callee:=.builtin .copy,args:= #[d,s],argTypes:= #[t,t]}) (A:Nat) (cs:Array Value) (L:List α) (n:Nat) (hn:n=L.length) (hcs:cs.size=n) (hd:a.eval d=.slice (some ⟨A,0,none⟩) n n) (ss:Option Addr) (cap:Nat) (hs:a.eval s=.slice ss n cap)
  (st:St w0 (bl1++(A,cs,e)::bl2) (λ_=>True) W) (hA:w0.heap.size<=A) (hL:Rd 1 enc W ss L)
  (h:∀w',St w0 (bl1++(A,(L.flatMap enc).toArray,e)::bl2) (λ_=>True) w'->(∀b,b≠A->w'.heap[b]? =W.heap[b]?)->w'.heap.size=W.heap.size->wpList P ops Q rest (a.put o.dst (.int .i64 n)) w'):
  wpList P ops Q (o::rest) a W:=by
 obtain⟨h2,h0,i,z,h3,h4,h5,h6,h7⟩:=el;subst hn;have hA':=st.blk (A,cs,e) (by simp);have hl:=eD hk L;rw[Nat.mul_one] at hl;have hsz:(P.info? e).map (·.size)=some 1:=by rw[h3,Option.map_some,h5]
 by_cases hz:L.length=0
 .have hL0:L=[]:=List.eq_nil_of_length_eq_zero hz;refine wpList_copy_nothing hgd d s t t ho e h2 hsz (some ⟨A,0,none⟩) ss L.length L.length L.length cap hd hs (by rw[hz];rfl) ?_;have e0:goInt 0=.int .i64 L.length:=by rw[hz];rfl
  rw[e0];rw[hz] at hcs;refine h W ?_ (λ_ _=>rfl) rfl;rw[hL0];have:cs=([]:List Value).toArray:=by simpa using hcs
  rw[this] at st;exact st
 .cases ss with
  |none=>exact absurd (by rw[kV hL];rfl) hz
  |some ad=>
   obtain⟨g,o',rfl⟩:∃g o',ad=⟨g,o',none⟩:=by
    obtain⟨x,hx⟩:∃x,L[0]? =some x:=⟨_,cZ (by omega)⟩;obtain⟨g,o',he,_⟩:=hL 0 x hx;cases he;exact⟨g,o',rfl⟩
   refine wpList_copy_own hgd d s t t ho e h2 hsz A 0 L.length L.length ⟨g,o',none⟩ L.length cap hd hs cs e hA' (L.flatMap enc) (by rw[hl];simp) (λj v hj=>kW hk h0 hL j v hj) (by rw[hl];omega) (qU h1 L) ?_;have he:(cs.toList.take 0++(L.flatMap enc++cs.toList.drop (0+(L.flatMap enc).length))).toArray=(L.flatMap enc).toArray:=by
    rw[List.take_zero,List.nil_append,List.drop_of_length_le (by simp[hl,hcs]),List.append_nil]
   rw[he];have hint:goInt (L.flatMap enc).length=.int .i64 L.length:=by rw[hl];rfl
   rw[hint];exact h _ (st.setRow hA _) (λb hb=>setRow_other W A b _ hb) (by simp)
end
end
section
variable {g:Nat} {W:World}
def Bts (g:Nat)(l:List UInt8)(W:World):Prop:=
 ∃(cs:Array Value) (m:Nat),W.heap[g]? =some (.cells cs 5 (m,m+1))/\l.length<=m/\∀j,j<l.length->cs[j]? =(l[j]?).map (λb=>Value.int .u8 b.toNat)
theorem Bts.lt {l:List UInt8}(h:Bts g l W):g<W.heap.size:=by
 obtain⟨cs,m,h1,_⟩:=h;exact aC h1
theorem Bts.cell {l:List UInt8}(h:Bts g l W)(j:Nat)(b:UInt8)(hj:l[j]? =some b):W.cell? ⟨g,j,none⟩=some (.int .u8 b.toNat):=by
 obtain⟨cs,m,h1,h2,h3⟩:=h;have:=h3 j (gJ.1 hj).1;rw[hj] at this;simp[World.cell?,h1,this]
theorem Bts.free {l:List UInt8}(h:Bts g l W)(j:Nat)(hj:j<l.length):W.frozen? ⟨g,j,none⟩=false:=by
 obtain⟨cs,m,h1,h2,h3⟩:=h;simp[World.frozen?,h1];omega
theorem Bts.made (w:World)(s:ByteArray)(cap:Nat):Bts w.heap.size s.data.toList (w.alloc (.cells (bytesRow s cap) 5 ((bytesRow s cap).size,(bytesRow s cap).size+1))).drew:=by
 refine⟨bytesRow s cap,(bytesRow s cap).size,kH w _,by simp[bytesRow],?_⟩;intro j hj;have hj':j<s.size:=by simpa using hj
 simp[bytesRow,Array.getElem?_append,hj']
theorem aM5 (w:World)(s:ByteArray):(convert 9 117 (.string s)).run prog w=.ok (.slice (some ⟨w.heap.size,0,none⟩) s.size (grownCap w s.size 0 5))
   (w.drew.alloc (.cells (bytesRow s (grownCap w s.size 0 5)) 5 ((bytesRow s (grownCap w s.size 0 5)).size,(bytesRow s (grownCap w s.size 0 5)).size+1))):=
 run_bytes_of_string w 9 117 5 s underlying9 underlying117 underlying5
theorem St.aYi {w0:World}{bl:List cH}{E F:World->Prop}{w:World}(h:St w0 bl E w){g o:Nat}{v:Value}(hg:w0.heap.size<=g)(hb:∀x∈bl,x.1≠g)(hF:F (w.setCell ⟨g,o,none⟩ v))(k:∀W W',F W->Below W.heap.size W W'->F W'):
  St w0 bl F (w.setCell ⟨g,o,none⟩ v):=
 ⟨h.below.setCell (p:=⟨g,o,none⟩) hg _,λx hx=>(Below.heap_setCell w ⟨g,o,none⟩ v x.1 (hb x hx)).trans (h.blk x hx),h.nd,hF,k⟩
end
end Go.Proofs.YtmgdbfmlnmahpaaGreatDoor
