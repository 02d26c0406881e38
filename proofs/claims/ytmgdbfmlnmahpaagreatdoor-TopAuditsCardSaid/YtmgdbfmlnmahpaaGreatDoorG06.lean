/- Part of TopAudits. -/
import Derived.Test.YtmgdbfmlnmahpaaGreatDoorG03
import Derived.RangeFuncCalls
import Derived.RangeFuncLeaves
import Derived.Shelf.Abstract
namespace Go.Proofs.YtmgdbfmlnmahpaaGreatDoor
set_option linter.unusedSimpArgs false
set_option linter.unusedVariables false
set_option maxRecDepth 100000
set_option maxHeartbeats 4000000
section
open Go.RowKit
theorem St.own {w0:World}{bl:List cH}{A B:World}{row:Option Nat}{base:Nat}(h:St w0 bl (λ_=>True) A)(hg:A.grownBy B row)(hr:∀r,row=some r->base<=r/\∃o:Obj,A.heap[r]? =some o/\o.isCells=false)(hb:w0.heap.size<=base):St w0 bl (λ_=>True) B:=
 ⟨h.below.grown hg h.below.size (λk e=>dR hb (hr k e).1),λx hx=>(hg.block _ (aC (h.blk x hx)) (λe=>by
  obtain⟨_,o,ho,hc⟩:=hr _ e.symm;rw[h.blk x hx] at ho;cases ho;simp[Obj.isCells] at hc)).trans (h.blk x hx),h.nd,trivial,λ_ _ _ _=>trivial⟩
theorem wH {W W':World}{b:Nat}{cs:Array Value}{T:TypeId}(h:W.heap[b]? =some (.cells cs T (0,0)))(hg:W.grownBy W' (some b)):KeepsOthers W W':=
 ⟨hg.size,λk o hk ho=>(hg.block k (Array.getElem?_eq_some_iff.1 hk).1 (λe=>by
  obtain rfl:k=b:=by simpa using e
  rw[h] at hk;cases hk;cases ho)).trans hk⟩
theorem aU {W W':World}(hg:Below W.heap.size W W')(row:Option Nat):W.grownBy W' row:=⟨hg.os,hg.tape,hg.output,hg.size,λk hk _=>hg.block k hk⟩
theorem gM {X Y Z:World}{row:Option Nat}(h:X.grownBy Y row)(k:Y.grownBy Z row):X.grownBy Z row:=
 ⟨k.os.trans h.os,k.tape.trans h.tape,k.output.trans h.output,dR h.size k.size,λi hi hne=>(k.block i (kG hi h.size) hne).trans (h.block i hi hne)⟩
theorem bF (W:World)(b o:Nat)(v:Value):W.grownBy (W.setCell ⟨b,o,none⟩ v) (some b):=⟨rfl,rfl,rfl,by simp[World.setCell],λk _ hne=>Below.heap_setCell _ _ _ _ (λe=>hne (by rw[e]))⟩
end
section
open Go.RowKit Go.Shelf
variable {W W':World}
def jJ {β:Type}(b:Option Nat)(J:β->World->Prop):Prop:=∀s A B,J s A->A.grownBy B b->J s B
def aBd {α:Type}(F:Fence)(n:Nat)(P:Program)(g:Nat)(lb:Array Value)(encs:α->Array Value)(Pre:α->World->Prop)(Kp:World->World->Prop)(S Sp:List α->Prop)(N:Nat)(b:Option Nat)(W:World):Prop:=
 ∀(l:Nat) (J Jx:List α->World->Prop),jJ b J->jJ b Jx->
  (∀pre x W1,J pre W1->Pre x W1->pre.length<N->YieldAt F (n-1) P l (encs x) W1 λe W'=>
   (e=.returned (.bool true)/\J (pre++[x]) W'/\Kp W1 W')\/(e=.returned (.bool false)/\Jx (pre++[x]) W'))->
  J [] W->
  CallsIn F n P g (#[.func (.yield l) #[] #[]]++lb) W λe W'=>(∃v,e=.returned v)/\((∃xs,S xs/\J xs W')\/(∃pre,Sp pre/\Jx pre W'))
variable {F:Fence} {n:Nat} {P:Program}
theorem eQ {A B:World}{b:Option Nat}{k:Nat}{o:Obj}(hg:A.grownBy B b)(hne:∀j,b=some j->j<k)(h:A.heap[k]? =some o):B.heap[k]? =some o:=
 (hg.block k (aC h) (λe=>by have:=hne k e.symm;omega)).trans h
theorem bU {α:Type}{g:Operand}{ps:Array Tmp}{assign body:Code}{Q:Exit->Act->World->Prop}{a:Act}{w:World}{b:Option Nat}(hbl:∀j,b=some j->j<w.heap.size)
  (hro:F.round=none) (h1:1<=n) {gf:Nat} {lb:Array Value} (hg:a.eval g=.func (.func gf) #[] lb) (hFg:F.fn gf) (eg:∀args w,(callFunc gf args).run P w=.ok (.enter gf args) w)
  {encs:α->Array Value} {Pre:α->World->Prop} {Kp:World->World->Prop} {S Sp:List α->Prop} {N:Nat} (hseq:∀W,Below w.heap.size w W->aBd F (n-1) P gf lb encs Pre Kp S Sp N b W)
  (hKt:∀{A B C:World},Kp A B->Kp B C->Kp A C) (hKb:∀(W:World) (l:Nat) (o':Obj),w.heap.size<=l->l<W.heap.size->Kp W (W.putObj l o'))
  (hps:∀x,(encs x).size=ps.size)
  (I:List α->World->Prop) (Ix:Code->List α->World->Prop) (hI:OwnFrom w.heap.size I) (hIx:∀c,OwnFrom w.heap.size (Ix c)) (bI:jJ b I) (bIx:∀c,jJ b (Ix c)) (h0:I [] w) (a₁:α->Nat->Act) (Ax:α->Nat->World->Prop) (hAx:∀x c,OwnFrom w.heap.size (λ(_:Unit) W=>Ax x c W))
  (hassign:∀(l:Nat) (pre:List α) (x:α) (W:World) (K:Act->World->Prop),I pre W->Pre x W->(∀c W',KeepsOthers W W'->Kp W W'->I pre W'->Ax x c W'->K (a₁ x c) W')->
   assign.wpIn (F.inRound l) (n-1-1) P (Exit.then K (λ_ _ _=>False)) {tmps:=(ps.zip (encs x)).foldl (λt (p,v)=>t.setIfInBounds p v) a.tmps,defers:=[]} W)
  (hbody:∀(l:Nat) (pre:List α) (x:α) (c:Nat) (W:World),I pre W->Ax x c W->pre.length<N->body.wpIn (F.inRound l) (n-1-1) P (ownPostK Kp I Ix (pre++[x]) W) (a₁ x c) W)
  (hdone:∀(D:Nat) (xs:List α) (W:World),w.heap.size<=D->S xs->I xs W->W.heap[D]? =some (.deferred (some []))->Q .normal {a with defers:={target:=.collected D,args:= #[]}::a.defers} W)
  (hstop:∀(D:Nat) (c:Code) (pre:List α) (W:World),w.heap.size<=D->Sp pre->Ix c pre W->W.heap[D]? =some (.deferred (some []))->c.wpIn F n P Q {a with defers:={target:=.collected D,args:= #[]}::a.defers} W):
  (Code.rangeFunc g ps assign body).wpIn F n P Q a w:=by
 refine wpIn_rangeFunc ?_;intro fn hfn;rw[hro];have hrec:∃rec:LoopState->Option Code->Loop,rec=λst pe=>{state:=st,pending:=pe,fn,tmps:=a.tmps,params:=ps,assign,body,defers:=w.heap.size}:=⟨_,rfl⟩;obtain⟨rec,hrec⟩:=hrec;have hz:(w.alloc (.deferred (some []))).heap.size=w.heap.size+1:=by simp
 have hL1:((w.alloc (.deferred (some []))).alloc (.loop (rec .ready none))).heap[w.heap.size+1]? =some (.loop (rec .ready none)):=by
  have:=kH (w.alloc (.deferred (some []))) (.loop (rec .ready none));rwa[hz] at this
 have hK1:((w.alloc (.deferred (some []))).alloc (.loop (rec .ready none))).heap[w.heap.size]? =some (.deferred (some [])):=
  (Below.heap_alloc _ _ _ (by rw[hz];omega)).trans (kH w _)
 have hI1:I [] ((w.alloc (.deferred (some []))).alloc (.loop (rec .ready none))):=hI.alloc _ (hI.alloc _ h0);have hb1:Below w.heap.size w ((w.alloc (.deferred (some []))).alloc (.loop (rec .ready none))):=((Below.refl _ w).alloc aH _).alloc (by simp) _;have hent:=run_enterLoop_outer (P:=P) (w:=w) fn a.tmps ps assign body;refine⟨w.heap.size+1,[{target:=.collected w.heap.size,args:= #[]}],(w.alloc (.deferred (some []))).alloc (.loop (rec .ready none)),{target:=.fn (.func gf) lb,args:= #[.func (.yield (w.heap.size+1)) #[] #[]]},
  (w.alloc (.deferred (some []))).alloc (.loop (rec .ready none)),gf,#[.func (.yield (w.heap.size+1)) #[] #[]]++lb,(w.alloc (.deferred (some []))).alloc (.loop (rec .ready none)),?_,?_,?_,?_,λ_=>h1,?_⟩
 .rw[hrec];exact hent
 .simp only[resolve,hg];simp[go_sem]
 .intro f' hf';simp[Target.leads] at hf';subst hf';exact hFg
 .simp[invoke,go_sem,eg]
 .generalize(w.alloc (.deferred (some []))).alloc (.loop (rec .ready none))=W1 at*;refine(hseq W1 hb1 (w.heap.size+1)
   (λpre W=>I pre W/\W.heap[w.heap.size+1]? =some (.loop (rec .ready none))/\W.heap[w.heap.size]? =some (.deferred (some [])))
   (λpre W=>∃c,Ix c pre W/\W.heap[w.heap.size+1]? =some (.loop (rec .done (some c)))/\W.heap[w.heap.size]? =some (.deferred (some [])))
   (λs A B h hg=>⟨bI s A B h.1 hg,eQ hg (λj e=>by have:=hbl j e;omega) h.2.1,eQ hg hbl h.2.2⟩)
   (λs A B h hg=>by
    obtain⟨c,h1,h2,h3⟩:=h;exact⟨c,bIx c s A B h1 hg,eQ hg (λj e=>by have:=hbl j e;omega) h2,eQ hg hbl h3⟩)
   ?_ ⟨hI1,hL1,hK1⟩).mono ?_
  .rintro pre x W ⟨hi,hl,hk⟩ hp hlen;have hlt:=aC hl;have hy:=run_yield (P:=P) (args:=encs x) hl (by rw[hrec];exact hps x);rw[hrec] at hy;refine⟨fn,_,assign,body,hy,roundIn_of_wpIn hfn (hassign _ pre x W _ hi hp ?_)⟩;clear hy hp hlt;intro c0 Wa hka hkpa hia hax;have hla:=hka.same _ _ hl rfl;have hkk:=hka.same _ _ hk rfl;clear hl hk hi;have hlt:=aC hla;refine⟨_,run_beginRound hla (by rw[hrec]),?_⟩;have hl2:(Wa.putObj (w.heap.size+1) (.loop {rec .ready none with state:=.busy})).heap[w.heap.size+1]? =some (.loop {rec .ready none with state:=.busy}):=World.putObj_heap_same hlt;have hk2:(Wa.putObj (w.heap.size+1) (.loop {rec .ready none with state:=.busy})).heap[w.heap.size]? =some (.deferred (some [])):=(World.putObj_heap_other (by omega)).trans hkk;have hw2:Kp W (Wa.putObj (w.heap.size+1) (.loop {rec .ready none with state:=.busy})):=hKt hkpa (hKb _ _ _ (by omega) hlt);have hi2:=hI.putObj (.loop {rec .ready none with state:=.busy}) hia (Nat.le_succ _) hla rfl;have hp2:=(hAx x c0).putObj (s:=()) (.loop {rec .ready none with state:=.busy}) hax (Nat.le_succ _) hla rfl;refine wpIn_mono (hbody (w.heap.size+1) pre x c0 _ hi2 hp2 hlen) ?_;generalize Wa.putObj (w.heap.size+1) (.loop {rec .ready none with state:=.busy})=W2 at*;have fin:∀(jump:Option Code) (W3:World),KeepsOthers W2 W3->
     (Instr.endRound (w.heap.size+1) jump).run P W3=.ok (.bool jump.isNone) (W3.putObj (w.heap.size+1) (.loop (rec (if jump.isNone then .ready else .done) jump)))/\
     W3.heap[w.heap.size+1]? =some (.loop {rec .ready none with state:=.busy})/\
     (W3.putObj (w.heap.size+1) (.loop (rec (if jump.isNone then .ready else .done) jump))).heap[w.heap.size+1]? =some (.loop (rec (if jump.isNone then .ready else .done) jump))/\
     (W3.putObj (w.heap.size+1) (.loop (rec (if jump.isNone then .ready else .done) jump))).heap[w.heap.size]? =some (.deferred (some [])):=λjump W3 hk3=>by
    have hl3:=hk3.same _ _ hl2 rfl;have:=run_endRound (P:=P) jump hl3;rw[hrec] at this⊢;exact⟨this,by rw[hrec] at hl3;exact hl3,World.putObj_heap_same (aC hl3),(World.putObj_heap_other (by omega)).trans (hk3.same _ _ hk2 rfl)⟩
   rintro e a3 W3 hq;cases e with
   |normal=>
    obtain⟨hk3,hkp3,hi3⟩:=hq;obtain⟨hr,hl3,hl4,hk4⟩:=fin none W3 hk3;exact⟨_,_,hr,.inl ⟨rfl,⟨hI.putObj _ hi3 (by omega) hl3 rfl,hl4,hk4⟩,hKt (hKt hw2 hkp3) (hKb _ _ _ (by omega) (aC hl3))⟩⟩
   |ret=>
    obtain⟨hk3,hi3⟩:=hq;obtain⟨hr,hl3,hl4,hk4⟩:=fin (some .ret) W3 hk3;exact⟨_,_,hr,.inr ⟨rfl,.ret,(hIx _).putObj _ hi3 (by omega) hl3 rfl,hl4,hk4⟩⟩
   |exit id=>
    obtain⟨hk3,hi3⟩:=hq;obtain⟨hr,hl3,hl4,hk4⟩:=fin (some (.exit id)) W3 hk3;exact⟨_,_,hr,.inr ⟨rfl,.exit id,(hIx _).putObj _ hi3 (by omega) hl3 rfl,hl4,hk4⟩⟩
   |goto t=>
    obtain⟨hk3,hi3⟩:=hq;obtain⟨hr,hl3,hl4,hk4⟩:=fin (some (.goto t)) W3 hk3;exact⟨_,_,hr,.inr ⟨rfl,.goto t,(hIx _).putObj _ hi3 (by omega) hl3 rfl,hl4,hk4⟩⟩
   |panic ch=>exact hq.elim
   |outgrown=>exact hq.elim
  .rintro e W2 ⟨⟨v,rfl⟩,(⟨xs,hS,hi,hl,hk⟩|⟨pre,hSp,c,hi,hl,hk⟩)⟩
   .exact⟨none,_,by have:=run_endLoop (P:=P) hl (by rw[hrec];simp);rw[hrec] at this;exact this,hdone _ xs _ aH hS (hI.putObj _ hi (by omega) hl rfl) ((World.putObj_heap_other (by omega)).trans hk)⟩
   .exact⟨some c,_,by have:=run_endLoop (P:=P) hl (by rw[hrec];simp);rw[hrec] at this;exact this,hstop _ c pre _ aH hSp ((hIx c).putObj _ hi (by omega) hl rfl) ((World.putObj_heap_other (by omega)).trans hk)⟩
theorem oE {row:Option Nat}{B:Nat}{e:TypeId}{size:Nat}{v:Value}{k:Nat}{xs:List Value}(hr:W.ownsRow B e size v k xs)(hg:W.grownBy W' row)
  (hrow:∀r,row=some r->∃o:Obj,W.heap[r]? =some o/\o.isCells=false):W'.ownsRow B e size v k xs:=by
 refine hr.kept hg ?_;rcases hr.2 with⟨rfl,_⟩|⟨g,cap,cur,rfl,_,hgb,_⟩
 .exact .inl rfl
 .refine .inr λe'=> ?_;obtain⟨o,ho,hc⟩:=hrow g (by simpa[Value.ownBlock] using e'.symm);rw[hgb] at ho;cases ho;cases hc
theorem aX (h:Below W.heap.size W W'):KeepsOthers W W':=⟨h.size,λk _ hk _=>(h.block k (aC hk)).trans hk⟩
end
section
open Go.RowKit Go.Shelf
def aU9 {α:Type}(F:Fence)(n:Nat)(P:Program)(g:Nat)(lb:Array Value)(encs:α->Array Value)(Pre:List α->α->World->Prop)(Kp:World->World->Prop)(S Sp:List α->Prop)(N:Nat)(b:Option Nat)(W:World):Prop:=
 ∀(l:Nat) (J Jx:List α->World->Prop),jJ b J->jJ b Jx->
  (∀pre x W1,J pre W1->Pre pre x W1->pre.length<N->YieldAt F (n-1) P l (encs x) W1 λe W'=>
   (e=.returned (.bool true)/\J (pre++[x]) W'/\Kp W1 W')\/(e=.returned (.bool false)/\Jx (pre++[x]) W'))->
  J [] W->(∀s W',J s W'->s.length<N)->
  CallsIn F n P g (#[.func (.yield l) #[] #[]]++lb) W λe W'=>(∃v,e=.returned v)/\((∃xs,S xs/\J xs W')\/(∃pre,Sp pre/\Jx pre W'))
variable {F:Fence} {n:Nat} {P:Program}
theorem tM {α:Type}{g:Operand}{ps:Array Tmp}{assign body:Code}{Q:Exit->Act->World->Prop}{a:Act}{w:World}{b:Option Nat}(hbl:∀j,b=some j->j<w.heap.size)
  (hro:F.round=none) (h1:1<=n) {gf:Nat} {lb:Array Value} (hg:a.eval g=.func (.func gf) #[] lb) (hFg:F.fn gf) (eg:∀args w,(callFunc gf args).run P w=.ok (.enter gf args) w)
  {encs:α->Array Value} {Pre:List α->α->World->Prop} {Kp:World->World->Prop} {S Sp:List α->Prop} {N:Nat} (hseq:∀W,Below w.heap.size w W->aU9 F (n-1) P gf lb encs Pre Kp S Sp N b W)
  (hKt:∀{A B C:World},Kp A B->Kp B C->Kp A C) (hKb:∀(W:World) (l:Nat) (o':Obj),w.heap.size<=l->l<W.heap.size->Kp W (W.putObj l o'))
  (hps:∀x,(encs x).size=ps.size)
  (I:List α->World->Prop) (Ix:Code->List α->World->Prop) (hI:OwnFrom w.heap.size I) (hIx:∀c,OwnFrom w.heap.size (Ix c)) (bI:jJ b I) (bIx:∀c,jJ b (Ix c)) (h0:I [] w) (hIN:∀s W,I s W->s.length<N) (a₁:α->Nat->Act) (Ax:List α->α->Nat->World->Prop) (hAx:∀pre x c,OwnFrom w.heap.size (λ(_:Unit) W=>Ax pre x c W))
  (hassign:∀(l:Nat) (pre:List α) (x:α) (W:World) (K:Act->World->Prop),I pre W->Pre pre x W->(∀c W',KeepsOthers W W'->Kp W W'->I pre W'->Ax pre x c W'->K (a₁ x c) W')->
   assign.wpIn (F.inRound l) (n-1-1) P (Exit.then K (λ_ _ _=>False)) {tmps:=(ps.zip (encs x)).foldl (λt (p,v)=>t.setIfInBounds p v) a.tmps,defers:=[]} W)
  (hbody:∀(l:Nat) (pre:List α) (x:α) (c:Nat) (W:World),I pre W->Ax pre x c W->pre.length<N->body.wpIn (F.inRound l) (n-1-1) P (ownPostK Kp I Ix (pre++[x]) W) (a₁ x c) W)
  (hdone:∀(D:Nat) (xs:List α) (W:World),w.heap.size<=D->S xs->I xs W->W.heap[D]? =some (.deferred (some []))->Q .normal {a with defers:={target:=.collected D,args:= #[]}::a.defers} W)
  (hstop:∀(D:Nat) (c:Code) (pre:List α) (W:World),w.heap.size<=D->Sp pre->Ix c pre W->W.heap[D]? =some (.deferred (some []))->c.wpIn F n P Q {a with defers:={target:=.collected D,args:= #[]}::a.defers} W):
  (Code.rangeFunc g ps assign body).wpIn F n P Q a w:=by
 refine wpIn_rangeFunc ?_;intro fn hfn;rw[hro];have hrec:∃rec:LoopState->Option Code->Loop,rec=λst pe=>{state:=st,pending:=pe,fn,tmps:=a.tmps,params:=ps,assign,body,defers:=w.heap.size}:=⟨_,rfl⟩;obtain⟨rec,hrec⟩:=hrec;have hz:(w.alloc (.deferred (some []))).heap.size=w.heap.size+1:=by simp
 have hL1:((w.alloc (.deferred (some []))).alloc (.loop (rec .ready none))).heap[w.heap.size+1]? =some (.loop (rec .ready none)):=by
  have:=kH (w.alloc (.deferred (some []))) (.loop (rec .ready none));rwa[hz] at this
 have hK1:((w.alloc (.deferred (some []))).alloc (.loop (rec .ready none))).heap[w.heap.size]? =some (.deferred (some [])):=
  (Below.heap_alloc _ _ _ (by rw[hz];omega)).trans (kH w _)
 have hI1:I [] ((w.alloc (.deferred (some []))).alloc (.loop (rec .ready none))):=hI.alloc _ (hI.alloc _ h0);have hb1:Below w.heap.size w ((w.alloc (.deferred (some []))).alloc (.loop (rec .ready none))):=((Below.refl _ w).alloc aH _).alloc (by simp) _;have hent:=run_enterLoop_outer (P:=P) (w:=w) fn a.tmps ps assign body;refine⟨w.heap.size+1,[{target:=.collected w.heap.size,args:= #[]}],(w.alloc (.deferred (some []))).alloc (.loop (rec .ready none)),{target:=.fn (.func gf) lb,args:= #[.func (.yield (w.heap.size+1)) #[] #[]]},
  (w.alloc (.deferred (some []))).alloc (.loop (rec .ready none)),gf,#[.func (.yield (w.heap.size+1)) #[] #[]]++lb,(w.alloc (.deferred (some []))).alloc (.loop (rec .ready none)),?_,?_,?_,?_,λ_=>h1,?_⟩
 .rw[hrec];exact hent
 .simp only[resolve,hg];simp[go_sem]
 .intro f' hf';simp[Target.leads] at hf';subst hf';exact hFg
 .simp[invoke,go_sem,eg]
 .generalize(w.alloc (.deferred (some []))).alloc (.loop (rec .ready none))=W1 at*;refine(hseq W1 hb1 (w.heap.size+1)
   (λpre W=>I pre W/\W.heap[w.heap.size+1]? =some (.loop (rec .ready none))/\W.heap[w.heap.size]? =some (.deferred (some [])))
   (λpre W=>∃c,Ix c pre W/\W.heap[w.heap.size+1]? =some (.loop (rec .done (some c)))/\W.heap[w.heap.size]? =some (.deferred (some [])))
   (λs A B h hg=>⟨bI s A B h.1 hg,eQ hg (λj e=>by have:=hbl j e;omega) h.2.1,eQ hg hbl h.2.2⟩)
   (λs A B h hg=>by
    obtain⟨c,h1,h2,h3⟩:=h;exact⟨c,bIx c s A B h1 hg,eQ hg (λj e=>by have:=hbl j e;omega) h2,eQ hg hbl h3⟩)
   ?_ ⟨hI1,hL1,hK1⟩ (λs W' h=>hIN s W' h.1)).mono ?_
  .rintro pre x W ⟨hi,hl,hk⟩ hp hlen;have hlt:=aC hl;have hy:=run_yield (P:=P) (args:=encs x) hl (by rw[hrec];exact hps x);rw[hrec] at hy;refine⟨fn,_,assign,body,hy,roundIn_of_wpIn hfn (hassign _ pre x W _ hi hp ?_)⟩;clear hy hp hlt;intro c0 Wa hka hkpa hia hax;have hla:=hka.same _ _ hl rfl;have hkk:=hka.same _ _ hk rfl;clear hl hk hi;have hlt:=aC hla;refine⟨_,run_beginRound hla (by rw[hrec]),?_⟩;have hl2:(Wa.putObj (w.heap.size+1) (.loop {rec .ready none with state:=.busy})).heap[w.heap.size+1]? =some (.loop {rec .ready none with state:=.busy}):=World.putObj_heap_same hlt;have hk2:(Wa.putObj (w.heap.size+1) (.loop {rec .ready none with state:=.busy})).heap[w.heap.size]? =some (.deferred (some [])):=(World.putObj_heap_other (by omega)).trans hkk;have hw2:Kp W (Wa.putObj (w.heap.size+1) (.loop {rec .ready none with state:=.busy})):=hKt hkpa (hKb _ _ _ (by omega) hlt);have hi2:=hI.putObj (.loop {rec .ready none with state:=.busy}) hia (Nat.le_succ _) hla rfl;have hp2:=(hAx pre x c0).putObj (s:=()) (.loop {rec .ready none with state:=.busy}) hax (Nat.le_succ _) hla rfl;refine wpIn_mono (hbody (w.heap.size+1) pre x c0 _ hi2 hp2 hlen) ?_;generalize Wa.putObj (w.heap.size+1) (.loop {rec .ready none with state:=.busy})=W2 at*;have fin:∀(jump:Option Code) (W3:World),KeepsOthers W2 W3->
     (Instr.endRound (w.heap.size+1) jump).run P W3=.ok (.bool jump.isNone) (W3.putObj (w.heap.size+1) (.loop (rec (if jump.isNone then .ready else .done) jump)))/\
     W3.heap[w.heap.size+1]? =some (.loop {rec .ready none with state:=.busy})/\
     (W3.putObj (w.heap.size+1) (.loop (rec (if jump.isNone then .ready else .done) jump))).heap[w.heap.size+1]? =some (.loop (rec (if jump.isNone then .ready else .done) jump))/\
     (W3.putObj (w.heap.size+1) (.loop (rec (if jump.isNone then .ready else .done) jump))).heap[w.heap.size]? =some (.deferred (some [])):=λjump W3 hk3=>by
    have hl3:=hk3.same _ _ hl2 rfl;have:=run_endRound (P:=P) jump hl3;rw[hrec] at this⊢;exact⟨this,by rw[hrec] at hl3;exact hl3,World.putObj_heap_same (aC hl3),(World.putObj_heap_other (by omega)).trans (hk3.same _ _ hk2 rfl)⟩
   rintro e a3 W3 hq;cases e with
   |normal=>
    obtain⟨hk3,hkp3,hi3⟩:=hq;obtain⟨hr,hl3,hl4,hk4⟩:=fin none W3 hk3;exact⟨_,_,hr,.inl ⟨rfl,⟨hI.putObj _ hi3 (by omega) hl3 rfl,hl4,hk4⟩,hKt (hKt hw2 hkp3) (hKb _ _ _ (by omega) (aC hl3))⟩⟩
   |ret=>
    obtain⟨hk3,hi3⟩:=hq;obtain⟨hr,hl3,hl4,hk4⟩:=fin (some .ret) W3 hk3;exact⟨_,_,hr,.inr ⟨rfl,.ret,(hIx _).putObj _ hi3 (by omega) hl3 rfl,hl4,hk4⟩⟩
   |exit id=>
    obtain⟨hk3,hi3⟩:=hq;obtain⟨hr,hl3,hl4,hk4⟩:=fin (some (.exit id)) W3 hk3;exact⟨_,_,hr,.inr ⟨rfl,.exit id,(hIx _).putObj _ hi3 (by omega) hl3 rfl,hl4,hk4⟩⟩
   |goto t=>
    obtain⟨hk3,hi3⟩:=hq;obtain⟨hr,hl3,hl4,hk4⟩:=fin (some (.goto t)) W3 hk3;exact⟨_,_,hr,.inr ⟨rfl,.goto t,(hIx _).putObj _ hi3 (by omega) hl3 rfl,hl4,hk4⟩⟩
   |panic ch=>exact hq.elim
   |outgrown=>exact hq.elim
  .rintro e W2 ⟨⟨v,rfl⟩,(⟨xs,hS,hi,hl,hk⟩|⟨pre,hSp,c,hi,hl,hk⟩)⟩
   .exact⟨none,_,by have:=run_endLoop (P:=P) hl (by rw[hrec];simp);rw[hrec] at this;exact this,hdone _ xs _ aH hS (hI.putObj _ hi (by omega) hl rfl) ((World.putObj_heap_other (by omega)).trans hk)⟩
   .exact⟨some c,_,by have:=run_endLoop (P:=P) hl (by rw[hrec];simp);rw[hrec] at this;exact this,hstop _ c pre _ aH hSp ((hIx c).putObj _ hi (by omega) hl rfl) ((World.putObj_heap_other (by omega)).trans hk)⟩
end
end Go.Proofs.YtmgdbfmlnmahpaaGreatDoor
