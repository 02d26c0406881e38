/- Part of TopAudits. -/
import Derived.Test.YtmgdbfmlnmahpaaGreatDoorG03
namespace Go.Proofs.YtmgdbfmlnmahpaaGreatDoor
set_option linter.unusedSimpArgs false
set_option linter.unusedVariables false
set_option maxRecDepth 100000
set_option maxHeartbeats 4000000
open Go.RowKit
section
def aOw (P:Program)(ops:Array Oper)(o:Oper)(a:Act)(W:World)(F:Value->World->Prop)(Rel:World->World->Prop)(T:World->Prop):Prop:=
 Region.wanted o (yielded ops a.tmps)=true/\∃v W',(execOp a.eval o).run P W=.ok (.value v) W'/\Rel W W'/\F v W'/\T W'
def lT (P:Program)(ops:Array Oper)(a₀:Act)(head:List Oper)(F:Nat->Value->World->Prop)(iA:Nat)(G:Bool->World->Prop)(Rel:World->World->Prop):Nat->List Oper->Prop
 |_,[]=>True
 |j,o::r=>(∀(a:Act) (W:World),cond (Nat.beq j iA) (G false W) (G false W\/G true W)->
   (∀t,t∉eJ head->a.tmps.getD t undef=a₀.tmps.getD t undef)->
   (∀i d,(o.after.any λe=>Region.binds .any e&&e.on==i)=true->((ops[i]?).bind (·.dst))=some d->F i (a.tmps.getD d undef) W)->
   cond (Nat.beq j iA) (aOw P ops o a W (F j) Rel (G true)) (eH P ops o a W (F j)))/\lT P ops a₀ head F iA G Rel (j+1) r
theorem lT.get {P:Program}{ops:Array Oper}{a₀:Act}{head:List Oper}{F:Nat->Value->World->Prop}{iA:Nat}{G:Bool->World->Prop}{Rel:World->World->Prop}:∀(l:List Oper) (k j:Nat) (o:Oper),lT P ops a₀ head F iA G Rel k l->l[j]? =some o->
  ∀(a:Act) (W:World),cond (Nat.beq (k+j) iA) (G false W) (G false W\/G true W)->
   (∀t,t∉eJ head->a.tmps.getD t undef=a₀.tmps.getD t undef)->
   (∀i d,(o.after.any λe=>Region.binds .any e&&e.on==i)=true->((ops[i]?).bind (·.dst))=some d->F i (a.tmps.getD d undef) W)->
   cond (Nat.beq (k+j) iA) (aOw P ops o a W (F (k+j)) Rel (G true)) (eH P ops o a W (F (k+j)))
 |[],_,_,_,_,h=>by simp at h
 |_::_,k,0,o,hs,h=>by
  simp only[List.getElem?_cons_zero,Option.some.injEq] at h;subst h;exact hs.1
 |_::r,k,j+1,o,hs,h=>by
  have:=lT.get r (k+1) j o hs.2 (by simpa using h);rw[show k+(j+1)=k+1+j by omega];exact this
theorem vZ {n m i:Nat}(hi:i<n):(Array.replicate n true++Array.replicate m false).getD i false=true:=by
 have h:i<(Array.replicate n true++Array.replicate m false).size:=by simp;omega
 rw[Array.getD,dif_pos h];show(Array.replicate n true++Array.replicate m false)[i]=true;rw[Array.getElem_append_left (by simpa using hi)];simp
theorem aBj {listed:Array Bool}{i:Nat}(hs:i<listed.size)(h:listed.getD i true=false):listed.getD i false=false:=by
 simp[Array.getD,hs] at h⊢;exact h
section
variable {P:Program} {l:List Oper} {a₀:Act} {w:World} {Q:Exit->Act->World->Prop}
theorem wP {id:Nat}(n iA:Nat)(F:Nat->Value->World->Prop)(G:Bool->World->Prop)(Rel:World->World->Prop)(hm:P.follows .mixedOrders=true)(hB:lL l.toArray n=true)
  (hslots:((eJ (l.take n)).all λd=>decide (d<a₀.tmps.size))=true)
  (hAn:iA<n) (h0:G false w.drew)
  (hF:∀i v W W',F i v W->Below W.heap.size W W'->F i v W') (hFR:∀i v W W',i≠iA->F i v W->Rel W W'->F i v W') (hG:∀b W W',G b W->Below W.heap.size W W'->G b W')
  (hs:lT P l.toArray a₀ (l.take n) F iA G Rel 0 (l.take n))
  (hend:∀(v:Nat->Value) (W:World),G true W->(∀j,j<n->F j (v j) W)->wpList P l.toArray Q (l.drop n) (fS (l.take n) 0 v a₀) W):
  (Code.region id l.toArray true).wp P Q a₀ w:=by
 simp only[lL,Bool.and_eq_true,decide_eq_true_eq] at hB;obtain⟨⟨⟨⟨⟨⟨hn,hsk⟩,hch⟩,hback⟩,hsome⟩,hnd⟩,hseq⟩:=hB;simp only[List.size_toArray] at hn hseq hback;refine wp_region_any hm (wS (R:=wpAny P .any l.toArray Q) (J:=λls _ W=>G (ls.getD iA false) W) (F:=F) (n:=n) (by omega) hback hsome hnd hslots (by rw[getD_replicate_false];exact h0) ?_ ?_)
 .rintro v listed a W inv rfl rfl-hf;have hgt:G true W:=by
   have:=inv.inv;rwa[vZ hAn] at this
  have h3:=wpAny_of_seq (md:=.any) (Q':=Q) (l.drop n) n (Array.replicate n true++Array.replicate (l.length-n) false) _ W (λj=>by simp[List.getElem?_drop]) (by simpa using hseq) (hend v W hgt hf)
  simpa using h3
 .intro f listed a W inv k hk hkr next;refine⟨λh=>(by rw[h] at hkr;cases hkr),λi hi=> ?_⟩;have hin:i<n:=by
   rcases Nat.lt_or_ge i n with h|h
   .exact h
   .exact absurd hi (tail_waits hsk hch (by simpa using hn) inv.head _ k rfl hk (mem_ready.1 hkr).1 i h)
  obtain⟨hiun,oi,hoi,_⟩:=mem_ready.1 hi;have ho:l[i]? =some oi:=by simpa using hoi
  have hisz:i<listed.size:=by
   have:=inv.head.size;simp only[List.size_toArray] at this;omega
  have hl:∀j,j<n->(l.take n)[j]? =l[j]? :=λj hj=>by simp[hj]
  have hgw:cond (Nat.beq (0+i) iA) (G false W) (G false W\/G true W):=by
   rw[Nat.zero_add];have:=inv.inv;cases hb:Nat.beq i iA with
   |true=>
    rw[<-Nat.eq_of_beq_eq_true hb,aBj hisz hiun] at this;exact this
   |false=>
    cases hq:listed.getD iA false with
    |true=>rw[hq] at this;exact .inr this
    |false=>rw[hq] at this;exact .inl this
  have hstep:=lT.get (l.take n) 0 i oi hs ((hl i hin).trans ho) a W hgw inv.aXs (inv.aX2 hi ho);rw[Nat.zero_add] at hstep;cases hb:Nat.beq i iA with
  |true=>
   have e:=Nat.eq_of_beq_eq_true hb;rw[hb] at hstep;obtain⟨hw,v,W',hrun,hrel,hFv,hGt⟩:=hstep;unfold wpOp;simp only[hoi];rw[if_pos hw];left;unfold Oper.wp;rw[hrun];exact next i oi hin hi ho v W' (λj x hne hx=>hFR j x W W' (by rw[<-e];exact hne) hx hrel) hFv (by
    rw[show(listed.setIfInBounds i true).getD iA false=true by rw[<-e];simp[Array.getD,hisz]];exact hGt)
  |false=>
   have e:i≠iA:=λe=>by rw[e] at hb;simp at hb
   rw[hb] at hstep;exact aCk ho hstep λv W' hbW hFv=>next i oi hin hi ho v W' (λj x _ hx=>hF j x W W' hx hbW) hFv (by
    rw[getD_set_ne false e];exact hG _ _ _ inv.inv hbW)
end
end
section
variable {k:Nat} {e:TypeId} {W W':World}
def sS (Rel:World->World->Prop)(f:Value->World->Prop):Prop:=∀v W W',f v W->Rel W W'->f v W'
theorem bE (Rel:World->World->Prop)(c:Value):sS Rel (dC c):=λ_ _ _ h _=>h
def aMk (Rel:World->World->Prop)(iA:Nat):Nat->List (Value->World->Prop)->Prop
 |_,[]=>True
 |j,f::r=>cond (Nat.beq j iA) True (sS Rel f)/\aMk Rel iA (j+1) r
theorem aMk.get {Rel:World->World->Prop}{iA:Nat}:∀(l:List (Value->World->Prop)) (k j:Nat) (f:Value->World->Prop),aMk Rel iA k l->l[j]? =some f->k+j≠iA->sS Rel f
 |[],_,_,_,_,h,_=>by simp at h
 |_::_,k,0,f,hs,h,hn=>by
  simp only[List.getElem?_cons_zero,Option.some.injEq] at h;subst h;have h1:=hs.1;have:Nat.beq k iA=false:=by
   cases hb:Nat.beq k iA with
   |false=>rfl
   |true=>exact absurd (Nat.eq_of_beq_eq_true hb) hn
  rw[this] at h1;exact h1
 |_::r,k,j+1,f,hs,h,hn=>aMk.get r (k+1) j f hs.2 (by simpa using h) (by omega)
theorem xW (Rel:World->World->Prop)(iA:Nat)(l:List (Value->World->Prop))(h:aMk Rel iA 0 l):∀i v W W',i≠iA->Fs l i v W->Rel W W'->Fs l i v W':=by
 intro i v W W' hi hf hb;unfold Fs at hf⊢;rw[List.getD_eq_getElem?_getD] at hf⊢
 revert hf
 cases e:l[i]? with
 |none=>exact λ_=>trivial
 |some f=>exact λhf=>aMk.get l 0 i f h e (by omega) v W W' hf hb
theorem sD {α:Type}{enc:α->List Value}{P:Program}{t:TypeId}{bytes:Nat}(el:eM P t e k bytes)(hk:∀x,(enc x).length=k)(h1:∀x,∀v∈enc x,v.oneCell'=true){ops:Array Oper}{o:Oper}{a:Act}{W:World}{F:Value->World->Prop}{Rel:World->World->Prop}{T:World->Prop}(hgd:o.guard=none)(s x:Operand)
  (ho:o.op=.call {callee:=.builtin .append,args:= #[s,x],argTypes:= #[t,t]}) (B:Nat) (v:Value) (L:List α) (hs:a.eval s=v) (hown:aL k enc e W B v L) (M:List α) (mm:Nat) (hm:mm=M.length) (g o' cx:Nat) (hx:a.eval x=.slice (some ⟨g,o',none⟩) mm cx) (hM:Rd k enc W (some ⟨g,o',none⟩) M)
  (hn:L.length+M.length<=1000000) (hby:bytes<=10000) (hB:B<=W.heap.size) (h:∀v' W',aL k enc e W' B v' (L++M)->W.grownBy W' v.ownBlock->Rel W W'/\F v' W'/\T W'):aOw P ops o a W F Rel T:=by
 subst hm;obtain⟨h2,h0,i,z,h3,h4,h5,h6,h7⟩:=el;have hmul:(L.length+M.length)*bytes<=1000000*10000:=Nat.mul_le_mul hn hby
 obtain⟨v',w',hrun,hown',hg,_⟩:=run_append_own (P:=P) W B t o.type e i z k bytes h2 h3 h4 h5 h6 h7 h0 v L.length (L.flatMap enc) hown ⟨g,o',none⟩ M.length cx (M.flatMap enc) (eD hk M) (λj u hj=>kW hk h0 hM j u hj) (qU h1 M) (by unfold maxLen;omega) (by omega) hB;obtain⟨r1,r2,r3⟩:=h v' w' (by unfold aL;rw[List.length_append,List.flatMap_append];exact hown') hg;refine⟨by simp[Region.wanted,hgd],v',w',?_,r1,r2,r3⟩;simp[execOp,ho,resolve,invoke,builtin,hs,hx,hrun,Result.andThen]
theorem aL.row {α:Type}{enc:α->List Value}{B:Nat}{v:Value}{L:List α}(h:aL k enc e W B v L):∀r,v.ownBlock=some r->B<=r/\∃cur,W.heap[r]? =some (.cells cur e (0,0)):=by
 intro r hr;rcases h.2 with⟨rfl,_⟩|⟨g,cap,cur,rfl,hB,hb,_⟩
 .simp[Value.ownBlock] at hr
 .obtain rfl:g=r:=by simpa[Value.ownBlock] using hr
  exact⟨hB,cur,hb⟩
theorem gZ {row:Option Nat}(hg:W.grownBy W' row)(hr:∀r,row=some r->∃cur,W.heap[r]? =some (.cells cur e (0,0))){b:Nat}{cs:Array Value}{T:TypeId}(hT:T≠e)(hb:W.heap[b]? =some (.cells cs T (0,0))):W'.heap[b]? =some (.cells cs T (0,0)):=by
 refine(hg.block b (aC hb) λee=> ?_).trans hb;obtain⟨cur,hc⟩:=hr b ee.symm;rw[hb] at hc;cases hc;exact hT rfl
theorem aL.aW7 {α:Type}{enc:α->List Value}{e':TypeId}{B:Nat}{v:Value}{L:List α}(h:aL k enc e' W B v L){row:Option Nat}(hT:e'≠e)(hg:W.grownBy W' row)(hr:∀r,row=some r->∃cur,W.heap[r]? =some (.cells cur e (0,0))):aL k enc e' W' B v L:=by
 refine World.ownsRow.kept (row:=row) h hg ?_;cases hv:v.ownBlock with
 |none=>exact .inl rfl
 |some g=>
  refine .inr λee=> ?_;obtain⟨_,cur,hb⟩:=h.row g hv;obtain⟨cur',hc⟩:=hr g (ee.symm.trans rfl);rw[hb] at hc;cases hc;exact hT rfl
theorem St.aW7 {w0:World}{bl:List cH}{row:Option Nat}(h:St w0 bl (λ_=>True) W)(hg:W.grownBy W' row)(hr:∀r,row=some r->w0.heap.size<=r/\∃cur,W.heap[r]? =some (.cells cur e (0,0)))(hT:∀x∈bl,x.2.2≠e):St w0 bl (λ_=>True) W':=
 ⟨h.below.grown hg h.below.size (λr e=>(hr r e).1),λx hx=>gZ hg (λr e=>(hr r e).2) (hT x hx) (h.blk x hx),h.nd,trivial,λ_ _ _ _=>trivial⟩
end
section
variable {a:Act} {listed:Array Bool} {d i:Nat}
def OpB (P:Program)(W:World)(K:Value->World->Prop):Result Next->Prop
 | .ok (.value v) W'=>K v W'
 | .ok (.enter f args) W'=>Calls P f args W' λe W''=>∃v,e=.returned v/\K v W''
 |_=>False
theorem aN1 {P:Program}{Q:Exit->Act->World->Prop}{o:Oper}{W:World}{G:Value->World->Prop}{K:Act->World->Prop}(h:OpB P W G ((execOp a.eval o).run P W))
  (hK:∀v W',G v W'->K (a.put o.dst v) W'):o.wp P a W K Q:=by
 unfold Oper.wp;generalize(execOp a.eval o).run P W=r at*;cases r with
 |ok x W'=>
  cases x<;>simp only[OpB] at h<;>simp only[Oper.upon]
  case value v=>exact hK _ _ h
  case enter f args=>exact h.mono λe W'' ⟨v,he,hg⟩=>by subst he;exact hK _ _ hg
 |halt x W'=>simp only[OpB] at h
def gat (listed:Array Bool)(a:Act)(j d:Nat):Option Value:=cond (listed.getD j false) (some (a.tmps.getD d undef)) none
def aJj (P:Program)(ops:Array Oper)(o:Oper)(a:Act)(W:World)(Rel:World->World->Prop)(T:Value->World->Prop):Prop:=
 Region.wanted o (yielded ops a.tmps)=true/\OpB P W (λv W'=>Rel W W'/\T v W') ((execOp a.eval o).run P W)
def lF (P:Program)(ops:Array Oper)(a₀:Act)(head:List Oper)(F:Nat->Value->World->Prop)(iA iB:Nat)(G:Option Value->Option Value->World->Prop)(Rel:World->World->Prop):Nat->List Oper->Prop
 |_,[]=>True
 |j,o::r=>(∀(a:Act) (W:World) (gA gB:Option Value),G gA gB W->(j=iA->gA=none)->(j=iB->gB=none)->
   (∀t,t∉eJ head->a.tmps.getD t undef=a₀.tmps.getD t undef)->
   (∀i d,(o.after.any λe=>Region.binds .any e&&e.on==i)=true->((ops[i]?).bind (·.dst))=some d->F i (a.tmps.getD d undef) W)->
   cond (Nat.beq j iA) (aJj P ops o a W Rel (λv=>G (some v) gB)) (cond (Nat.beq j iB) (aJj P ops o a W Rel (λv=>G gA (some v))) (eH P ops o a W (F j))))/\lF P ops a₀ head F iA iB G Rel (j+1) r
theorem lF.get {P:Program}{ops:Array Oper}{a₀:Act}{head:List Oper}{F:Nat->Value->World->Prop}{iA iB:Nat}{G:Option Value->Option Value->World->Prop}{Rel:World->World->Prop}:∀(l:List Oper) (k j:Nat) (o:Oper),lF P ops a₀ head F iA iB G Rel k l->l[j]? =some o->
  ∀(a:Act) (W:World) (gA gB:Option Value),G gA gB W->(k+j=iA->gA=none)->(k+j=iB->gB=none)->
   (∀t,t∉eJ head->a.tmps.getD t undef=a₀.tmps.getD t undef)->
   (∀i d,(o.after.any λe=>Region.binds .any e&&e.on==i)=true->((ops[i]?).bind (·.dst))=some d->F i (a.tmps.getD d undef) W)->
   cond (Nat.beq (k+j) iA) (aJj P ops o a W Rel (λv=>G (some v) gB)) (cond (Nat.beq (k+j) iB) (aJj P ops o a W Rel (λv=>G gA (some v))) (eH P ops o a W (F (k+j))))
 |[],_,_,_,_,h=>by simp at h
 |_::_,k,0,o,hs,h=>by
  simp only[List.getElem?_cons_zero,Option.some.injEq] at h;subst h;exact hs.1
 |_::r,k,j+1,o,hs,h=>by
  have:=lF.get r (k+1) j o hs.2 (by simpa using h);rw[show k+(j+1)=k+1+j by omega];exact this
theorem aBk {j di:Nat}{v:Value}(hi:i≠j)(hd:di≠d):gat (listed.setIfInBounds i true) (a.put (some di) v) j d=gat listed a j d:=by
 unfold gat
 rw[getD_set_ne false hi];have:(a.put (some di) v).tmps.getD d undef=a.tmps.getD d undef:=by
  simp only[Act.put,Array.getD_eq_getD_getElem?];rw[Array.getElem?_setIfInBounds_ne hd]
 rw[this]
theorem aOu {v:Value}(hi:i<listed.size)(hd:d<a.tmps.size):gat (listed.setIfInBounds i true) (a.put (some d) v) i d=some v:=by
 unfold gat
 have h1:(listed.setIfInBounds i true).getD i false=true:=by simp[Array.getD,hi]
 have h2:(a.put (some d) v).tmps.getD d undef=v:=by simp[Act.put,Array.getD,hd]
 rw[h1,h2];rfl
theorem tD (hi:listed.getD i false=false):gat listed a i d=none:=by
 unfold gat
 rw[hi];rfl
theorem aFi (hi:listed.getD i false=true):gat listed a i d=some (a.tmps.getD d undef):=by
 unfold gat
 rw[hi];rfl
section
variable {P:Program} {l:List Oper} {a₀:Act} {w:World} {Q:Exit->Act->World->Prop}
theorem aHv {id:Nat}(n iA iB dA dB:Nat)(F:Nat->Value->World->Prop)(G:Option Value->Option Value->World->Prop)(Rel:World->World->Prop)(hm:P.follows .mixedOrders=true)(hB:lL l.toArray n=true)
  (hslots:((eJ (l.take n)).all λd=>decide (d<a₀.tmps.size))=true)
  (hAn:iA<n) (hBn:iB<n) (hAB:iA≠iB) (hdA:((l[iA]?).bind (·.dst))=some dA) (hdB:((l[iB]?).bind (·.dst))=some dB) (h0:G none none w.drew)
  (hFA:∀v W,F iA v W) (hFB:∀v W,F iB v W)
  (hF:∀i v W W',F i v W->Below W.heap.size W W'->F i v W') (hFR:∀i v W W',F i v W->Rel W W'->F i v W') (hG:∀gA gB W W',G gA gB W->Below W.heap.size W W'->G gA gB W')
  (hs:lF P l.toArray a₀ (l.take n) F iA iB G Rel 0 (l.take n))
  (hend:∀(v:Nat->Value) (W:World),G (some (v iA)) (some (v iB)) W->(∀j,j<n->F j (v j) W)->wpList P l.toArray Q (l.drop n) (fS (l.take n) 0 v a₀) W):
  (Code.region id l.toArray true).wp P Q a₀ w:=by
 simp only[lL,Bool.and_eq_true,decide_eq_true_eq] at hB;obtain⟨⟨⟨⟨⟨⟨hn,hsk⟩,hch⟩,hback⟩,hsome⟩,hnd⟩,hseq⟩:=hB;simp only[List.size_toArray] at hn hseq hback;obtain⟨oA,hoA,hodA⟩:=Option.bind_eq_some_iff.1 hdA;obtain⟨oB,hoB,hodB⟩:=Option.bind_eq_some_iff.1 hdB;refine wp_region_any hm (wS (R:=wpAny P .any l.toArray Q) (J:=λls a W=>G (gat ls a iA dA) (gat ls a iB dB) W) (F:=F) (n:=n) (by omega) hback hsome hnd hslots (by rw[tD (getD_replicate_false _ _),tD (getD_replicate_false _ _)];exact h0) ?_ ?_)
 .rintro v listed a W inv rfl rfl hv hf;have hgt:G (some (v iA)) (some (v iB)) W:=by
   have:=inv.inv;rwa[aFi (vZ hAn),aFi (vZ hBn),<-hv iA oA dA hoA hodA,<-hv iB oB dB hoB hodB] at this
  have h3:=wpAny_of_seq (md:=.any) (Q':=Q) (l.drop n) n (Array.replicate n true++Array.replicate (l.length-n) false) _ W (λj=>by simp[List.getElem?_drop]) (by simpa using hseq) (hend v W hgt hf)
  simpa using h3
 .intro f listed a W inv k hk hkr next;refine⟨λh=>(by rw[h] at hkr;cases hkr),λi hi=> ?_⟩;have hin:i<n:=by
   rcases Nat.lt_or_ge i n with h|h
   .exact h
   .exact absurd hi (tail_waits hsk hch (by simpa using hn) inv.head _ k rfl hk (mem_ready.1 hkr).1 i h)
  obtain⟨hiun,oi,hoi,_⟩:=mem_ready.1 hi;have ho:l[i]? =some oi:=by simpa using hoi
  have hisz:i<listed.size:=by
   have:=inv.head.size;simp only[List.size_toArray] at this;omega
  have hl:∀j,j<n->(l.take n)[j]? =l[j]? :=λj hj=>by simp[hj]
  have hstep:=lF.get (l.take n) 0 i oi hs ((hl i hin).trans ho) a W _ _ inv.inv
   (λe=>tD (by rw[<-e,Nat.zero_add];exact aBj hisz hiun)) (λe=>tD (by rw[<-e,Nat.zero_add];exact aBj hisz hiun)) inv.aXs (inv.aX2 hi ho)
  rw[Nat.zero_add] at hstep;obtain⟨di,hdi⟩:=Option.isSome_iff_exists.1 (List.all_eq_true.1 hsome oi (bK ((hl i hin).trans ho)));have hdi':di<a.tmps.size:=by
   have:=List.all_eq_true.1 hslots di (rG ((hl i hin).trans ho) hdi);simp only[decide_eq_true_eq] at this;rw[inv.tsize];exact this
  have hap:∀j oj dj,j<n->l[j]? =some oj->oj.dst=some dj->i≠j->di≠dj:=λj oj dj hj hoj hdj e e'=>e (xB hnd ((hl i hin).trans ho) ((hl j hj).trans hoj) hdi (e'▸hdj));have hapA:=hap iA oA dA hAn hoA hodA;have hapB:=hap iB oB dB hBn hoB hodB;cases hb:Nat.beq i iA with
  |true=>
   have e:=Nat.eq_of_beq_eq_true hb;subst e;rw[hb] at hstep;obtain⟨hw,hop⟩:=hstep;unfold wpOp;simp only[hoi];rw[if_pos hw];left;have hdd:di=dA:=by rw[ho] at hdA;exact oSi (hdi.symm.trans hdA)
   subst hdd;refine aN1 hop λv W' ⟨hrel,hg⟩=>next i oi hin hi ho v W' (λj x _ hx=>hFR j x W W' hx hrel) (hFA _ _) ?_;rw[hdi,aOu hisz hdi',aBk hAB (hapB hAB)];exact hg
  |false=>
  have eA:i≠iA:=λe=>by rw[e] at hb;simp at hb
  rw[hb] at hstep;simp only[cond_false] at hstep;cases hb2:Nat.beq i iB with
  |true=>
   have e:=Nat.eq_of_beq_eq_true hb2;subst e;rw[hb2] at hstep;obtain⟨hw,hop⟩:=hstep;unfold wpOp;simp only[hoi];rw[if_pos hw];left;have hdd:di=dB:=by rw[ho] at hdB;exact oSi (hdi.symm.trans hdB)
   subst hdd;refine aN1 hop λv W' ⟨hrel,hg⟩=>next i oi hin hi ho v W' (λj x _ hx=>hFR j x W W' hx hrel) (hFB _ _) ?_;rw[hdi,aOu hisz hdi',aBk eA (hapA eA)];exact hg
  |false=>
   have eB:i≠iB:=λe=>by rw[e] at hb2;simp at hb2
   rw[hb2] at hstep;exact aCk ho hstep λv W' hbW hFv=>next i oi hin hi ho v W' (λj x _ hx=>hF j x W W' hx hbW) hFv (by
    rw[hdi,aBk eA (hapA eA),aBk eB (hapB eB)];exact hG _ _ _ _ inv.inv hbW)
end
end
end Go.Proofs.YtmgdbfmlnmahpaaGreatDoor
