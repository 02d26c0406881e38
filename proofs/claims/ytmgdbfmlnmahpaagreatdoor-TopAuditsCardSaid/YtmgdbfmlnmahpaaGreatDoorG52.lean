/- Part of TopAudits. -/
import Derived.Test.YtmgdbfmlnmahpaaGreatDoorG49
import Derived.Maps.AppendAt
namespace Go.Proofs.YtmgdbfmlnmahpaaGreatDoor
set_option linter.unusedSimpArgs false
set_option linter.unusedVariables false
set_option maxRecDepth 100000
set_option maxHeartbeats 4000000
open Go.Proofs.Tryz
open Go.RowKit Go.Shelf
section
variable {bl:List cH} {wl:List ByteArray} {bs ids:List Nat} {cs:List fE} {xs:List bR} {k:Nat} {wv:Value} {W W' Wb w:World}
def aAp (s:ByteArray):List Value:=[.string s]
theorem oY (x:ByteArray):(aAp x).length=1:=rfl
theorem aMf (x:ByteArray):∀v∈aAp x,v.oneCell'=true:=by
 intro v hv;simp[aAp] at hv;subst hv;rfl
theorem aTi :eM prog 49 9 1 16:=eM.mk (z:=.string ⟨#[]⟩) underlying49 (by kernel_rfl) rfl (by decide)
def xV (L:List bT):Prop:=∀(i:Nat) (e:bT),L[i]? =some e->e.seq=(i:Int)+1
theorem xV.last {L:List bT}(h:xV L):bC L=(L.length:Int):=by
 unfold bC;cases hx:L[L.length-1]? with
 |none=>
  have:=List.getElem?_eq_none_iff.1 hx;show(0:Int)=_;omega
 |some x=>
  have h1:=h _ x hx;have h2:=(gJ.1 hx).1;show x.seq=_;omega
theorem xV.aXy {L:List bT}(h:xV L)(a b:BitVec 64)(t:Int)(tx:ByteArray):xV (L++[cK a b 0 L t tx]):=by
 intro i e he
 by_cases hi:i<L.length
 .rw[List.getElem?_append_left hi] at he;exact h i e he
 .rw[List.getElem?_append_right (by omega)] at he;have h0:i-L.length=0:=by
   have:=(gJ.1 he).1;simp at this;omega
  rw[h0] at he;simp at he;subst he;show bC L+1=_;rw[h.last];omega
def jI (ids:List Nat)(id:Nat)(xs:List bR)(wl:List ByteArray)(k:Nat):Prop:=
 (∀x∈xs,x.L.length<=k)/\(id∉ids->wl=[])/\∀(n:Nat) (x:bR),ids[n]? =some id->xs[n]? =some x->wl=x.L.map bT.text/\xV x.L
theorem jI.zero {α:Type}(ids:List Nat)(id:Nat)(L:List α):jI ids id (L.map λ_=>tnZ) [] 0:=by
 refine⟨λx hx=> ?_,λ_=>rfl,λn x _ hx=> ?_⟩
 .obtain⟨_,_,rfl⟩:=List.mem_map.1 hx;exact aH
 .obtain⟨_,_,rfl⟩:=List.mem_map.1 (bK hx);exact⟨rfl,λi e he=>by simp[tnZ] at he⟩
theorem jI.step (hnd:ids.Nodup){id:Nat}{xs:List bR}{wl:List ByteArray}{k:Nat}(h:jI ids id xs wl k){id':Nat}{role op:Int}{now:Nat}{lab sc:ByteArray}{kd:Int}{its:List (Nat×Nat)}{rid:Nat}{E N:Int}{LL:List bT}{xs':List bR}(hR:aFh ids cs xs id' role op now lab sc kd its rid E N LL xs')(wl':List ByteArray)
  (hw:E=0->id'=id->1<=op->op<=5->wl'=wl++[opT op]) (hw':¬(E=0/\id'=id/\1<=op/\op<=5)->wl'=wl):jI ids id xs' wl' (k+1):=by
 rcases hR with⟨hid,rfl,rfl⟩|⟨n,c,x,z,hin,hc,hx,rfl,hno,hok,hF⟩
 .have e:wl'=wl:=hw' (λq=>absurd q.1 (by decide));subst e;exact⟨λx hx=>Nat.le_succ_of_le (h.1 x hx),h.2⟩
 .have hz:(E=0/\1<=op/\op<=5/\z.L=x.L++[cK c.ka c.kb 0 x.L now (opT op)])\/(z=x/\¬(E=0/\1<=op/\op<=5)):=by
   by_cases hE:E=0
   .have ok:=hok hE
    by_cases h5:op<=5
    .exact .inl ⟨hE,ok.1,h5,((hF ok).yes hE h5).1⟩
    .exact .inr ⟨(hF ok).no (by omega),λq=>h5 q.2.2⟩
   .exact .inr ⟨hno hE,λq=>hE q.1⟩
  have hxl:=h.1 x (bK hx);refine⟨λy hy=> ?_,λhid=> ?_,λm y hm hy=> ?_⟩
  .rcases List.mem_or_eq_of_mem_set hy with hy|rfl
   .exact Nat.le_succ_of_le (h.1 y hy)
   .rcases hz with⟨-,-,-,hL⟩|⟨rfl,-⟩
    .rw[hL,List.length_append,List.length_singleton];omega
    .omega
  .have hne:id'≠id:=by
    rintro rfl;exact hid (bK hin)
   rw[hw' (λq=>hne q.2.1)];exact h.2.1 hid
  .rw[List.getElem?_set] at hy;split at hy
   .rename_i e;subst e;rw[hin] at hm;cases hm;have hn:=(gJ.1 hx).1;simp[hn] at hy;subst hy;obtain⟨q1,q2⟩:=h.2.2 n x hin hx;rcases hz with⟨hE,h1,h5,hL⟩|⟨rfl,hnz⟩
    .rw[hw hE rfl h1 h5,hL,List.map_append,q1];exact⟨rfl,q2.aXy _ _ _ _⟩
    .rw[hw' (λq=>hnz ⟨q.1,q.2.2⟩)];exact⟨q1,q2⟩
   .rename_i e;have hne:id'≠id:=tE hnd hin hm e;rw[hw' (λq=>hne q.2.1)];exact h.2.2 m y hm hy
theorem jI.last {id:Nat}(h:jI ids id xs wl k){now:Nat}{lab sc:ByteArray}{kd:Int}{its:List (Nat×Nat)}{E N:Int}{LL:List bT}{xs':List bR}(hR:aFh ids cs xs id 3 6 now lab sc kd its 0 E N LL xs'):(E=170/\wl=[])\/(E=0/\LL.map bT.text=wl/\xV LL/\LL.length<=k):=by
 rcases hR with⟨hid,rfl,rfl⟩|⟨n,c,x,z,hin,hc,hx,rfl,hno,hok,hF⟩
 .exact .inl ⟨rfl,h.2.1 hid⟩
 .obtain⟨hE,hL⟩:=(hF ⟨by decide,by decide,by decide⟩).au rfl;obtain⟨q1,q2⟩:=h.2.2 n x hin hx;have hfl:eW ((0:Nat):Int) x.L=x.L:=by
   unfold eW;rw[List.filter_eq_self];intro a ha;obtain⟨i,hi⟩:=List.mem_iff_getElem?.1 ha;have:=q2 i a hi;simp only[decide_eq_true_eq];omega
  rw[hfl] at hL;subst hL;exact .inr ⟨hE,q1.symm,q2,h.1 x (bK hx)⟩
theorem aB4 {α:Type}{enc:α->List Value}{P:Program}{t e:TypeId}{bytes:Nat}(el:eM P t e k bytes)(hk:∀x,(enc x).length=k)(h1:∀x,∀v∈enc x,v.oneCell'=true){ops:Array Oper}{rest:List Oper}{o:Oper}{a:Act}{Q:Exit->Act->World->Prop}{W:World}(hgd:o.guard=none)(s x:Operand)
  (ho:o.op=.call {callee:=.builtin .append,args:= #[s,x],argTypes:= #[t,t]}) (B:Nat) (v:Value) (L:List α) (hs:a.eval s=v) (hown:aL k enc e W B v L) (M:List α) (mm:Nat) (hm:mm=M.length) (g o' cx:Nat) (hx:a.eval x=.slice (some ⟨g,o',none⟩) mm cx) (hM:Rd k enc W (some ⟨g,o',none⟩) M)
  (hn:L.length+M.length<=1000000) (hby:bytes<=10000) (hB:B<=W.heap.size) (h:∀v' W',aL k enc e W' B v' (L++M)->W.grownBy W' v.ownBlock->(v'.ownBlock=v.ownBlock\/v'.ownBlock=some W.heap.size)->wpList P ops Q rest (a.put o.dst v') W'):
  wpList P ops Q (o::rest) a W:=by
 subst hm;obtain⟨h2,h0,i,z,h3,h4,h5,h6,h7⟩:=el;have hmul:(L.length+M.length)*bytes<=1000000*10000:=Nat.mul_le_mul hn hby
 refine wpList_append_own_at W hgd s x t ho B e i z k bytes h2 h3 h4 h5 h6 h7 h0 v L.length (L.flatMap enc) hs hown ⟨g,o',none⟩ M.length cx (M.flatMap enc) hx (eD hk M) (λj u hj=>kW hk h0 hM j u hj) (qU h1 M) (by unfold maxLen;omega) (by omega) hB ?_;intro v' w' hown' hgr _ hrow;exact h v' w' (by unfold aL;rw[List.length_append,List.flatMap_append];exact hown') hgr hrow
theorem aSn {α:Type}{enc:α->List Value}{s:Option Addr}{L:List α}(r:Rd k enc W s L)(hn:L≠[]):∀g o,s=some ⟨g,o,none⟩->g<W.heap.size:=by
 intro g o e;obtain⟨x,hx⟩:∃x,L[0]? =some x:=by
  cases L with
  |nil=>exact(hn rfl).elim
  |cons x _=>exact⟨x,rfl⟩
 obtain⟨g',o',e',hg,_⟩:=r 0 x hx;rw[e] at e';cases e';exact hg
theorem aMp {row:Option Nat}(h:W.grownBy W' row):bX row.toList W W':=⟨h.os,h.tape,h.output,h.size,λk hk hn=>h.block k hk (λe=>hn (by simp[e]))⟩
theorem aL.frB {α:Type}{enc:α->List Value}{e:TypeId}{B:Nat}{v:Value}{L:List α}{S:List Nat}(h:aL k enc e W B v L)(hf:bX S W W')(hS:∀g cs,g∈S->B<=g->W.heap[g]? ≠some (.cells cs e (0,0))):aL k enc e W' B v L:=by
 refine⟨h.1,?_⟩;rcases h.2 with h2|⟨g',cap',cur,hv,hB,hbk,rest⟩
 .exact .inl h2
 .exact .inr ⟨g',cap',cur,hv,hB,cB hf hbk (λhm=>hS _ _ hm hB hbk),rest⟩
theorem iU.move {P Q:Nat->Prop}{C:Nat}{ka kb:BitVec 64}(h:iU P W C ka kb ids bs cs xs){S:List Nat}(hf:bX S W W')(hS:∀A∈S,∃ca T,W.heap[A]? =some (.cells ca T (0,0))/\22≠T/\60≠T/\57≠T/\83≠T)(hP:∀A∈S,¬P A)
  (hq:∀g,P g/\g<W.heap.size->Q g) (hl:∀g,W'.heap.size<=g->Q g) (hb:∀b∈bs,¬Q b):iU Q W' C ka kb ids bs cs xs:=by
 obtain⟨vI,vT,g1,g2,g3⟩:=h.col.ex;refine⟨⟨⟨vI,vT,cB hf g1 ?_,g2.frB hf ?_,g3.frB hf ?_⟩⟩,h.lb,h.lc,h.lx,h.len,h.ind,h.nd,λb hm=>⟨(h.blk b hm).1,hb b hm⟩,hl,λi b c x q1 q2 q3=> ?_⟩
 .intro hm;obtain⟨ca,T,hA,h1,h2,h3,h4⟩:=hS _ hm;rw[g1] at hA;cases hA;exact h3 rfl
 .intro g cs' hm _ he;obtain⟨ca,T,hA,h1,h2,h3,h4⟩:=hS _ hm;rw[he] at hA;cases hA;exact h1 rfl
 .intro g cs' hm _ he;obtain⟨ca,T,hA,h1,h2,h3,h4⟩:=hS _ hm;rw[he] at hA;cases hA;exact h2 rfl
 .obtain⟨a1,a2,a3⟩:=h.at' i b c x q1 q2 q3;refine⟨cB hf a1 ?_,(a2.lt.fr hf (by intro g hg hp;exact hP g hg hp.1)).mono hq,a3⟩;intro hm;obtain⟨ca,T,hA,h1,h2,h3,h4⟩:=hS _ hm;have a1':W.heap[b]? =_:=a1;rw[a1'] at hA;cases hA;exact h4 rfl
theorem nN.move {P Q:Nat->Prop}{B C:Nat}{ka kb:BitVec 64}(h:nN P B C ka kb ids bs cs xs W){S:List Nat}(hf:bX S W W')(hS:∀A∈S,∃ca T,W.heap[A]? =some (.cells ca T (0,0))/\22≠T/\60≠T/\57≠T/\83≠T)(hP:∀A∈S,¬P A)(h4:∀A∈S,4<=A)
  (hq:∀g,P g/\g<W.heap.size->Q g) (hl:∀g,W'.heap.size<=g->Q g) (hb:∀b∈bs,¬Q b):nN Q B C ka kb ids bs cs xs W':=⟨h.s.move hf hS hP hq hl hb,h.u.fr hf h4,h.B⟩
def Pw (bs:List Nat)(wv:Value):Nat->Prop:=λg=>g∉bs/\wv.ownBlock≠some g
structure pO (w Wb:World)(bs:List Nat)(bl:List cH)(wv:Value)(wl:List ByteArray)(W:World):Prop where
 f:Fr w [] bl W
 b:bX bs Wb W
 o:aL 1 aAp 9 W Wb.heap.size wv wl
theorem pO.aWu (h:pO w Wb bs bl wv wl W)(hb:Below W.heap.size W W'):pO w Wb bs bl wv wl W':=
 ⟨h.f.to hb,h.b.trans (bX.of (S:=[]) hb) (by simp),aL.keep _ _ h.o hb⟩
theorem pO.fr (h:pO w Wb bs bl wv wl W){S:List Nat}(hf:bX S W W')(h1:∀k∈S,w.heap.size<=k)(h2:∀k∈S,k∈bs\/Wb.heap.size<=k)(h3:∀x∈bl,x.1∉S)(h4:∀g cs,g∈S->Wb.heap.size<=g->W.heap[g]? ≠some (.cells cs 9 (0,0))):pO w Wb bs bl wv wl W':=
 ⟨h.f.aWz hf (λk hk=>.inr (h1 k hk)) h3,h.b.trans hf h2,h.o.frB hf h4⟩
theorem pO.row (h:pO w Wb bs bl wv wl W):∀g,wv.ownBlock=some g->Wb.heap.size<=g/\g<W.heap.size/\∃cur,W.heap[g]? =some (.cells cur 9 (0,0)):=λg hg=>by
 obtain⟨h1,cur,h2⟩:=h.o.row g hg;exact⟨h1,aC h2,cur,h2⟩
def DoG (w Wb:World)(bs:List Nat)(bl:List cH)(wv:Value)(wl:List ByteArray)(B C:Nat)(ka kb:BitVec 64)(ids:List Nat)(cs:List fE)(xs:List bR)(x:kB)(gA gB:Option Value)(W:World):Prop:=
 pO w Wb bs bl wv wl W/\∃(P:Nat->Prop) (xs1:List bR),nN P B C ka kb ids bs cs xs1 W/\(gA=none->xs1=xs)/\
  (∀v,gA=some v->∃(E N:Int) (s1:Option Addr) (n1 c1:Nat) (es:Hd) (LL:List bT),v=.agg #[.int .i64 E,.int .u64 N,.slice s1 n1 c1,.slice es.s LL.length es.cap]/\aFh ids cs xs x.id x.role x.r.op x.r.now x.r.lab x.r.sc x.r.kd x.r.its x.r.rid E N LL xs1)/\
  (gB=none->P=Pw bs wv)/\(∀p,gB=some p->∃R,p=pv R 0/\Wb.heap.size<=R/\W.heap[R]? =some (.cells #[.int .i64 0,.int .u64 0,.slice none 0 0,.slice none 0 0] 36 (0,0))/\P=λg=>Pw bs wv g/\g≠R)
section
variable {w Wb:World} {bs:List Nat} {bl:List cH} {wv:Value} {wl:List ByteArray} {B C:Nat} {ka kb:BitVec 64} {ids:List Nat} {cs:List fE} {xs:List bR} {x:kB} {gA gB:Option Value} {W W':World}
theorem DoG.aWu (h:DoG w Wb bs bl wv wl B C ka kb ids cs xs x gA gB W)(hb:Below W.heap.size W W'):DoG w Wb bs bl wv wl B C ka kb ids cs xs x gA gB W':=by
 obtain⟨h1,P,xs1,h2,h3,h4,h5,h6⟩:=h;refine⟨h1.aWu hb,P,xs1,h2.aWu hb,h3,h4,h5,λp hp=> ?_⟩;obtain⟨R,q1,q2,q3,q4⟩:=h6 p hp;exact⟨R,q1,q2,(hb.block R (aC q3)).trans q3,q4⟩
theorem DoG.alloc (h:DoG w Wb bs bl wv wl B C ka kb ids cs xs x gA none W):DoG w Wb bs bl wv wl B C ka kb ids cs xs x gA (some (pv W.heap.size 0)) (W.alloc (.cells #[.int .i64 0,.int .u64 0,.slice none 0 0,.slice none 0 0] 36)):=by
 obtain⟨h1,P,xs1,h2,h3,h4,h5,-⟩:=h;obtain rfl:=h5 rfl;have hb:=(Below.refl W.heap.size W).alloc aH (.cells #[.int .i64 0,.int .u64 0,.slice none 0 0,.slice none 0 0] 36);refine⟨h1.aWu hb,_,xs1,h2.move (S:=[]) (Q:=λg=>Pw bs wv g/\g≠W.heap.size) (bX.of hb) (by simp) (by simp) (by simp) (λg hg=>⟨hg.1,Nat.ne_of_lt hg.2⟩) (λg hg=> ?_) (λb hm hq=>hq.1.1 hm),h3,h4,(λe=>by cases e),λp hp=> ?_⟩
 .simp only[World.size_alloc] at hg;exact⟨h2.s.le g (by omega),by omega⟩
 .cases hp;exact⟨W.heap.size,rfl,h1.b.size,kH _ _,rfl⟩
theorem DoG.call (hx:pN w x.r)(h1:x.r.lab.size<=300)(h2:x.r.sc.size<=300)(h3:x.r.its.length<=52)(h4:x.r.tl.length<=10)(hl29:∀y∈xs,y.L.length<29)(hbs:∀b∈bs,w.heap.size<=b/\b<Wb.heap.size)(hbl:∀y∈bl,y.1∉bs)(h:DoG w Wb bs bl wv wl B C ka kb ids cs xs x none gB W):
  Calls prog 8 #[pv C 0,.agg #[.int .u64 x.id,.int .i64 x.role,.int .u64 x.ex],.agg #[.int .i64 x.r.op,.int .u64 x.r.now,.string x.r.lab,.string x.r.sc,.int .i64 x.r.kd,.slice x.r.it.s x.r.its.length x.r.it.cap,.int .u64 x.r.hq,.int .u64 x.r.to,.int .u64 x.r.rid,.slice x.r.tn.s x.r.tl.length x.r.tn.cap]] W
   λe w'=>∃v,e=.returned v/\True/\DoG w Wb bs bl wv wl B C ka kb ids cs xs x (some v) gB w':=by
 obtain⟨hB,P,xs1,hS,a1,-,b1,b2⟩:=h;obtain rfl:=a1 rfl;have hbw:=hB.f.fr.below;have hri:=hx.ri.aWu aH hbw;have hrt:=hx.rt.aWu aH hbw;refine Calls.mono (aEh P B C ka kb ids bs cs xs1 x.id x.role x.ex x.r.op ⟨hx.o0,hx.o1⟩ x.r.now x.r.lab x.r.sc (by omega) (by omega) x.r.kd x.r.its hx.si (by omega) x.r.it.s x.r.it.cap x.r.hq x.r.to x.r.rid hx.hq hx.rid x.r.tn.s x.r.tl (by omega) x.r.tn.cap hx.now W hS hl29 hri (λhn g o e hm=>by have:=aSn hx.ri hn g o e;have:=(hbs g hm).1;omega) hrt (λhn g o e hm=>by have:=aSn hx.rt hn g o e;have:=(hbs g hm).1;omega)) ?_;rintro e w' ⟨E,N,s1,n1,c1,es,LL,xs',rfl,-,hf,hS',hR⟩;refine⟨_,rfl,trivial,hB.fr hf (λk hk=>(hbs k hk).1) (λk hk=>.inl hk) hbl (λg _ hg hle=>by have:=(hbs g hg).2;omega),P,xs',hS',(λe=>by cases e),λv hv=> ?_,b1,λp hp=> ?_⟩
 .cases hv;exact⟨E,N,s1,n1,c1,es,LL,rfl,hR⟩
 .obtain⟨R,q1,q2,q3,q4⟩:=b2 p hp;exact⟨R,q1,q2,cB hf q3 (λhm=>by have:=(hbs R hm).2;omega),q4⟩
end
def aTp :Value->World->Prop:=λ_ _=>True
theorem aE9 :bO aTp:=λ_ _ _ h _=>h
theorem aP7 (l:List (Value->World->Prop))(h:∀f∈l,∀v W W',f v W->f v W'):∀i v W W',Fs l i v W->Fs l i v W':=by
 intro i v W W' hf;unfold Fs at hf⊢;rw[List.getD_eq_getElem?_getD] at hf⊢;cases hx:l[i]? with
 |none=>
  rw[hx] at hf;exact hf
 |some f=>
  rw[hx] at hf;exact h f (bK hx) v W W' hf
theorem aQ1 {n:Nat}{L:List kB}(h:∀x∈L,pN w x.r):∀y∈pT n L,pN w y.r/\y.r.lab.size<=300/\y.r.sc.size<=300/\y.r.its.length<=52/\y.r.tl.length<=10:=by
 intro y hy;obtain⟨x,hx,rfl⟩:=List.mem_map.1 hy;exact⟨(h x (List.mem_of_mem_take hx)).cut,kL _,kL _,by show(x.r.its.take 52).length<=52;rw[List.length_take];omega,by show(x.r.tl.take 10).length<=10;rw[List.length_take];omega⟩
end
section
theorem aF0 (w:World):(Instr.buildSlice 49 8 #[(0,.string ⟨#[]⟩),(1,.string ⟨#[105,110,103,101,115,116]⟩),(2,.string ⟨#[113,117,101,114,121]⟩),(3,.string ⟨#[114,111,108,108,117,112]⟩),(4,.string ⟨#[103,114,97,110,116]⟩),(5,.string ⟨#[114,101,118,111,107,101]⟩),(6,.string ⟨#[]⟩),(7,.string ⟨#[]⟩)]).run prog w=.ok (.slice (some ⟨w.heap.size,0,none⟩) 8 8) (w.alloc (.cells #[.string ⟨#[]⟩,.string ⟨#[105,110,103,101,115,116]⟩,.string ⟨#[113,117,101,114,121]⟩,.string ⟨#[114,111,108,108,117,112]⟩,.string ⟨#[103,114,97,110,116]⟩,.string ⟨#[114,101,118,111,107,101]⟩,.string ⟨#[]⟩,.string ⟨#[]⟩] 9)):=by kernel_rfl
theorem aOm {W:World}{g:Nat}(h:W.heap[g]? =some (.cells #[.string ⟨#[]⟩,.string ⟨#[105,110,103,101,115,116]⟩,.string ⟨#[113,117,101,114,121]⟩,.string ⟨#[114,111,108,108,117,112]⟩,.string ⟨#[103,114,97,110,116]⟩,.string ⟨#[114,101,118,111,107,101]⟩,.string ⟨#[]⟩,.string ⟨#[]⟩] 9 (0,0))){q:Nat}(h1:1<=q)(h5:q<=5):W.cell? ⟨g,q,none⟩=some (.string (opT (q:Int))):=by
 rcases(show q=1\/q=2\/q=3\/q=4\/q=5 by omega) with rfl|rfl|rfl|rfl|rfl
 .exact aE h 1
 .exact aE h 2
 .exact aE h 3
 .exact aE h 4
 .exact aE h 5
section
variable {w Wb:World} {bs:List Nat} {bl:List cH} {wv:Value} {wl:List ByteArray} {B C:Nat} {ka kb:BitVec 64} {ids:List Nat} {cs:List fE} {xs:List bR} {x:kB} {W:World}
theorem DoG.fin {v p:Value}(h:DoG w Wb bs bl wv wl B C ka kb ids cs xs x (some v) (some p) W)(hwb:w.heap.size<=Wb.heap.size)(h4:4<=w.heap.size)(hbl:∀y∈bl,y.1<Wb.heap.size):
  ∃(E N:Int) (s1:Option Addr) (n1 c1:Nat) (es:Hd) (LL:List bT) (xs':List bR) (R:Nat),v=.agg #[.int .i64 E,.int .u64 N,.slice s1 n1 c1,.slice es.s LL.length es.cap]/\p=pv R 0/\aFh ids cs xs x.id x.role x.r.op x.r.now x.r.lab x.r.sc x.r.kd x.r.its x.r.rid E N LL xs'/\Wb.heap.size<=R/\W.heap[R]? =some (.cells #[.int .i64 0,.int .u64 0,.slice none 0 0,.slice none 0 0] 36 (0,0))/\
   ∀W',bX [R] W W'->pO w Wb bs bl wv wl W'/\nN (Pw bs wv) B C ka kb ids bs cs xs' W':=by
 obtain⟨hB,P,xs',hS,-,a2,-,b2⟩:=h;obtain⟨E,N,s1,n1,c1,es,LL,rfl,hR⟩:=a2 v rfl;obtain⟨R,rfl,hRb,hRc,rfl⟩:=b2 p rfl;refine⟨E,N,s1,n1,c1,es,LL,xs',R,rfl,rfl,hR,hRb,hRc,λW' hf=>⟨hB.fr hf (by simp;omega) (by simp;omega) (λy hy=>by have:=hbl y hy;simp;omega) (λg _ hg _ he=>by simp at hg;subst hg;rw[hRc] at he;cases he),hS.move hf (λA hA=> ?_) (λA hA hp=> ?_) (by simp;omega) (λg hg=>hg.1.1) (λg hg=> ?_) (λb hb hq=>hq.1 hb)⟩⟩
 .simp at hA;subst hA;exact⟨_,_,hRc,by decide,by decide,by decide,by decide⟩
 .simp at hA;exact hp.2 hA
 .exact(hS.s.le g (dR hf.size hg)).1
theorem pO.word {W':World}{v':Value}{s:ByteArray}(h:pO w Wb bs bl wv wl W)(hS:nN (Pw bs wv) B C ka kb ids bs cs xs W)(ho:aL 1 aAp 9 W' Wb.heap.size v' (wl++[s]))(hg:W.grownBy W' wv.ownBlock)(hr:v'.ownBlock=wv.ownBlock\/v'.ownBlock=some W.heap.size)(hwb:w.heap.size<=Wb.heap.size)(h4:4<=w.heap.size)(hbl:∀y∈bl,y.1<Wb.heap.size)(hbs:∀b∈bs,b<Wb.heap.size):
  pO w Wb bs bl v' (wl++[s]) W'/\nN (Pw bs v') B C ka kb ids bs cs xs W':=by
 have hf:=aMp hg;have hrow:∀k∈wv.ownBlock.toList,wv.ownBlock=some k/\Wb.heap.size<=k/\∃cur,W.heap[k]? =some (.cells cur 9 (0,0)):=λk hk=>by
  have e:wv.ownBlock=some k:=by simpa using hk
  exact⟨e,(h.row k e).1,(h.row k e).2.2⟩
 have hz:=hf.size;have hwz:=h.b.size;refine⟨⟨h.f.aWz hf (λk hk=>.inr (by have:=(hrow k hk).2.1;omega)) (λy hy hm=>by have:=hbl y hy;have:=(hrow _ hm).2.1;omega),h.b.trans hf (λk hk=>.inr (hrow k hk).2.1),ho⟩,hS.move hf (λA hA=> ?_) (λA hA hp=>hp.2 (hrow A hA).1) (λA hA=>by have:=(hrow A hA).2.1;omega) (λg hgp=>⟨hgp.1.1,λe=> ?_⟩) (λg hgp=>⟨λhm=>by have:=hbs g hm;omega,λe=> ?_⟩) (λb hb hq=>hq.1 hb)⟩
 .obtain⟨_,_,cur,hc⟩:=hrow A hA;exact⟨_,_,hc,by decide,by decide,by decide,by decide⟩
 .rcases hr with hr|hr
  .exact hgp.1.2 (hr.symm.trans e)
  .rw[hr] at e;cases e;exact absurd hgp.2 (Nat.lt_irrefl _)
 .obtain⟨_,cur,hc⟩:=ho.row g e;have:=aC hc;omega
end
theorem yV (ka kb:BitVec 64)(sL:Option Addr)(CL:List mH)(cL:Nat)(hC1:CL.length<=cL)(hC2:cL<=9223372036854775807)(hC3:sL=none->cL=0)(hC4:∀c∈CL,c.id<=aJ)(sA:Option Addr)(AL:List kB)(cA:Nat)(hA1:AL.length<=cA)(hA2:cA<=9223372036854775807)(id:Nat)(w:World)(hG:aQ w)(hRC:Rd 3 yR w sL CL)(hRA:Rd 13 sJ w sA AL)(hQA:∀x∈AL,pN w x.r):
  Calls prog 4 #[kv ka kb,.slice sL CL.length cL,.slice sA AL.length cA,.int .u64 id] w λe w'=>e=.returned (.bool true)/\Below w.heap.size w w':=by
 have h4:=hG.four;have f0:=(Fr.start w []).alloc (cs:= #[.int .u64 (un ka),.int .u64 (un kb)]) (T:=24);have hz0:w.heap.size+1<=(w.alloc (.cells #[.int .u64 (un ka),.int .u64 (un kb)] 24)).heap.size:=by simp
 have HSH:=aA (aKl _ (hG.aWu f0.fr.below));obtain⟨ls,hls⟩:∃ls,CL.take 10=ls:=⟨_,rfl⟩;have hmin:(min (CL.length:Int) 10).toNat=ls.length:=by rw[<-hls,List.length_take];omega
 have hll:ls.length<=10:=by rw[<-hls,List.length_take];omega
 have hlc:ls.length<=CL.length:=by rw[<-hls,List.length_take];omega
 have HC:=aA (aB (show Rd 3 yR w sL ls by rw[<-hls];exact hRC.take 10) (show∀c∈ls,c.id<=aJ by rw[<-hls];exact λc hc=>hC4 c (List.mem_of_mem_take hc)));have HA:=aA (aB hRA (aB hQA hG));clear hRC hRA hQA hG hC4 hls;go_enter func4,ntmps4;go_wp2_with fail;refine HSH.out.mono ?_;rintro e w1 ⟨rfl,hb1⟩;have f1:=f0.to hb1;have hz1:w.heap.size+1<=w1.heap.size:=dR hz0 hb1.size;have rl:=f1.rl;have HN:=aA (xO ka kb ls HC.out.2 (by omega) sL cL w1 (HC.out.1.aWu aH f1.fr.below));clear f0 hz0 hb1 HSH HC;go_wp2_with fail;refine HN.out.mono ?_;clear HN hmin;rintro e w2 (⟨rfl,hno,hb2⟩|⟨C,bs,rfl,hok,-,hC,hT,hb2⟩)
 .have hb:=(f1.to hb2).fr.below;clear rl;go_wp2_with fail;go_ret;exact⟨rfl,hb⟩
 have f2:=f1.to hb2;have hz2:=hb2.size;have hG2:=HA.out.2.2.aWu f2.fr.below;have HOK:=aA hok;have HB:=aA (show∀b∈bs,w.heap.size+1<=b/\b<w2.heap.size from λb hb=>⟨dR hz1 (hT.new b hb).1,(hT.new b hb).2⟩);have HT2:=aA (nN.made hC hT hok hG2 (by omega));have hFW:=aRj 25 (by decide) AL (by omega) sA cA w2 (HA.out.1.aWu aH f2.fr.below) (λx hx=>(HA.out.2.1 x hx).aWu f2.fr.below);have HFW:=aA hFW;have HQ:=aA (aQ1 (n:=25) HA.out.2.1);have hA25:(pT 25 AL).length<=25:=by unfold pT;simp;omega
 generalize pT 25 AL=A at*;clear f1 hC hT hok hG2 hb2 hFW rl HA;go_wp2_with fail;refine HFW.out.mono ?_;clear HFW;rintro e w3 ⟨d,rfl,hd,hdf,hb3⟩;have f3:=f2.to hb3;have hz3:=hb3.size;have hbw:=aF0;have f4:=f3.alloc (cs:= #[.string ⟨#[]⟩,.string ⟨#[105,110,103,101,115,116]⟩,.string ⟨#[113,117,101,114,121]⟩,.string ⟨#[114,111,108,108,117,112]⟩,.string ⟨#[103,114,97,110,116]⟩,.string ⟨#[114,101,118,111,107,101]⟩,.string ⟨#[]⟩,.string ⟨#[]⟩]) (T:=9);have al:=(Below.refl w3.heap.size w3).alloc aH (.cells #[.string ⟨#[]⟩,.string ⟨#[105,110,103,101,115,116]⟩,.string ⟨#[113,117,101,114,121]⟩,.string ⟨#[114,111,108,108,117,112]⟩,.string ⟨#[103,114,97,110,116]⟩,.string ⟨#[114,101,118,111,107,101]⟩,.string ⟨#[]⟩,.string ⟨#[]⟩] 9);have HT4:=aA ((HT2.out.aWu hb3).aWu al);have hwb:(w3.alloc (.cells #[.string ⟨#[]⟩,.string ⟨#[105,110,103,101,115,116]⟩,.string ⟨#[113,117,101,114,121]⟩,.string ⟨#[114,111,108,108,117,112]⟩,.string ⟨#[103,114,97,110,116]⟩,.string ⟨#[114,101,118,111,107,101]⟩,.string ⟨#[]⟩,.string ⟨#[]⟩] 9)).heap.size=w3.heap.size+1:=by simp
 have HD:=aA (aB (hd.aWu al) hdf);have hdc:=hd.cap;have hdm:=hd.max;clear f2 f3 hd hdf hb3 HT2 al;go_wp2_with fail;obtain⟨ds,dc⟩:=d;simp only at HD hdc hdm;have hids:(ls.map mH.id).Nodup:=HOK.out.2.2.2;have HND:=aA hids;generalize ls.map (aOj ka kb)=cs at*;obtain⟨xs0,hxs0⟩:∃xs0,(ls.map λ_=>tnZ)=xs0:=⟨_,rfl⟩;have hau0:jI (ls.map mH.id) id xs0 [] 0:=by rw[<-hxs0];exact jI.zero _ _ _
 rw[hxs0] at HT4;generalize ls.map mH.id=ids at*;generalize w3.alloc (.cells #[.string ⟨#[]⟩,.string ⟨#[105,110,103,101,115,116]⟩,.string ⟨#[113,117,101,114,121]⟩,.string ⟨#[114,111,108,108,117,112]⟩,.string ⟨#[103,114,97,110,116]⟩,.string ⟨#[114,101,118,111,107,101]⟩,.string ⟨#[]⟩,.string ⟨#[]⟩] 9)=Wb at*;have hz3b:w3.heap.size<Wb.heap.size:=by omega
 have hzw:w.heap.size+1<Wb.heap.size:=by omega
 have HBL:=aA (show∀y∈([(w3.heap.size,#[.string ⟨#[]⟩,.string ⟨#[105,110,103,101,115,116]⟩,.string ⟨#[113,117,101,114,121]⟩,.string ⟨#[114,111,108,108,117,112]⟩,.string ⟨#[103,114,97,110,116]⟩,.string ⟨#[114,101,118,111,107,101]⟩,.string ⟨#[]⟩,.string ⟨#[]⟩],9),(w.heap.size,#[.int .u64 (un ka),.int .u64 (un kb)],24)]:List cH),y.1<Wb.heap.size/\y.1∉bs from λy hy=>by
  simp at hy;rcases hy with rfl|rfl
  .exact⟨hz3b,λhm=>by have:=(HB.out _ hm).2;simp at this;omega⟩
  .exact⟨by simp;omega,λhm=>by have:=(HB.out _ hm).1;simp at this;omega⟩)
 have HBS:=aA (show∀b∈bs,w.heap.size<=b/\b<Wb.heap.size from λb hb=>⟨by have:=(HB.out b hb).1;omega,by have:=(HB.out b hb).2;omega⟩);have HFR:=aA (show∀b∈bs,b<w2.heap.size from λb hb=>(HB.out b hb).2);have HI0:=aA (show pO w Wb bs [(w3.heap.size,#[.string ⟨#[]⟩,.string ⟨#[105,110,103,101,115,116]⟩,.string ⟨#[113,117,101,114,121]⟩,.string ⟨#[114,111,108,108,117,112]⟩,.string ⟨#[103,114,97,110,116]⟩,.string ⟨#[114,101,118,111,107,101]⟩,.string ⟨#[]⟩,.string ⟨#[]⟩],9),(w.heap.size,#[.int .u64 (un ka),.int .u64 (un kb)],24)] (.slice none 0 0) [] Wb/\nN (Pw bs (.slice none 0 0)) w1.heap.size C ka kb ids bs cs xs0 Wb/\jI ids id xs0 [] 0 from
  ⟨⟨f4,bX.refl _ _,aL.nil _ _⟩,HT4.out.move (S:=[]) (bX.refl _ _) (by simp) (by simp) (by simp) (λg hg=>⟨hg.1,λe=>by cases e⟩) (λg hg=>⟨λhm=>by have:=(HBS.out g hm).2;omega,λe=>by cases e⟩) (λb hb hq=>hq.1 hb),hau0⟩)
 clear f4 HT4 hau0 hxs0 hids HOK HB hwb hz3 hz2 hz1 hll hlc
 go_loopw [13,14] (λv i wr=>∃(k:Nat) (xs:List bR) (wv:Value) (wl:List ByteArray),v=wv/\k<=A.length/\i=.int .i64 k/\pO w Wb bs [(w3.heap.size,#[.string ⟨#[]⟩,.string ⟨#[105,110,103,101,115,116]⟩,.string ⟨#[113,117,101,114,121]⟩,.string ⟨#[114,111,108,108,117,112]⟩,.string ⟨#[103,114,97,110,116]⟩,.string ⟨#[114,101,118,111,107,101]⟩,.string ⟨#[]⟩,.string ⟨#[]⟩],9),(w.heap.size,#[.int .u64 (un ka),.int .u64 (un kb)],24)] wv wl wr/\nN (Pw bs wv) w1.heap.size C ka kb ids bs cs xs wr/\jI ids id xs wl k/\wl.length<=k) (λ_ i _=>A.length-(intOf i).toNat)
 case atStart=>exact⟨0,xs0,_,[],rfl,cJ _,rfl,HI0.out.1,HI0.out.2.1,HI0.out.2.2,aH⟩
 case round=>
  obtain⟨k,xs,wv,wl,rfl,hk,rfl,hBs,hTs,hAu,hwk⟩:=hrel;obtain⟨sW,cW,rfl,-⟩:=hBs.o.form oY
  by_cases hlt:k<A.length
  .obtain⟨⟨xid,role,ex,⟨op,now,lab,sc,kd,its,⟨is,ic⟩,hq,to,rid,tl,⟨ts,tc⟩⟩⟩,hx⟩:∃x,A[k]? =some x:=⟨_,cZ hlt⟩;have HQX:=aA (HQ.out _ (bK hx));obtain⟨g,o,hds,-,-⟩:=HD.out.1.rd k _ hx;simp only at hds;subst hds;have HAC:=aA (show∀W,bX bs Wb W->_ from λW hW=>aAt (aI5 HD.out.1.rd (λ_ g o e hm=>by have:=HD.out.2 g o e;have:=HFR.out g hm;omega) hW) hx);have HL29:=aA (show∀y∈xs,y.L.length<29 from λy hy=>by have:=hAu.1 y hy;omega);have HG0:=aA (show DoG w Wb bs [(w3.heap.size,#[.string ⟨#[]⟩,.string ⟨#[105,110,103,101,115,116]⟩,.string ⟨#[113,117,101,114,121]⟩,.string ⟨#[114,111,108,108,117,112]⟩,.string ⟨#[103,114,97,110,116]⟩,.string ⟨#[114,101,118,111,107,101]⟩,.string ⟨#[]⟩,.string ⟨#[]⟩],9),(w.heap.size,#[.int .u64 (un ka),.int .u64 (un kb)],24)] (.slice sW wl.length cW) wl w1.heap.size C ka kb ids cs xs ⟨xid,role,ex,⟨op,now,lab,sc,kd,its,⟨is,ic⟩,hq,to,rid,tl,⟨ts,tc⟩⟩⟩ none none wr from⟨hBs,_,xs,hTs,λ_=>rfl,(λv e=>by cases e),λ_=>rfl,(λp e=>by cases e)⟩);have HAU:=aA hAu;clear hx hBs hTs hAu;go_wp2_with fail;refine aHv 13 11 12 53 15 (Fs [dC (pv C 0),dC (.slice (some ⟨g,o,none⟩) A.length dc),dC (.int .i64 k),dC (pv g (o+k*13)),dC (pv g (o+k*13)),dC (.agg #[.int .u64 xid,.int .i64 role,.int .u64 ex]),dC (.slice (some ⟨g,o,none⟩) A.length dc),dC (.int .i64 k),dC (pv g (o+k*13)),dC (pv g (o+k*13+3)),dC (.agg #[.int .i64 op,.int .u64 now,.string lab,.string sc,.int .i64 kd,.slice is its.length ic,.int .u64 hq,.int .u64 to,.int .u64 rid,.slice ts tl.length tc]),aTp,aTp]) (DoG w Wb bs [(w3.heap.size,#[.string ⟨#[]⟩,.string ⟨#[105,110,103,101,115,116]⟩,.string ⟨#[113,117,101,114,121]⟩,.string ⟨#[114,111,108,108,117,112]⟩,.string ⟨#[103,114,97,110,116]⟩,.string ⟨#[114,101,118,111,107,101]⟩,.string ⟨#[]⟩,.string ⟨#[]⟩],9),(w.heap.size,#[.int .u64 (un ka),.int .u64 (un kb)],24)] (.slice sW wl.length cW) wl w1.heap.size C ka kb ids cs xs ⟨xid,role,ex,⟨op,now,lab,sc,kd,its,⟨is,ic⟩,hq,to,rid,tl,⟨ts,tc⟩⟩⟩) (λ_ _=>True) (by kernel_rfl) (by kernel_rfl) (by kernel_rfl) (by decide) (by decide) (by decide) rfl rfl ?h0 (λ_ _=>trivial) (λ_ _=>trivial) (tG _ ?stab) (λi v W W' h _=>aP7 _ ?still i v W W' h) (λgA gB W W' h hb=>h.aWu hb) ?spec ?endd
   case h0=>exact HG0.out.aWu aW.drew
   case stab=>
    simp only[List.forall_mem_cons];exact⟨aS _,aS _,aS _,aS _,aS _,aS _,aS _,aS _,aS _,aS _,aS _,aE9,aE9,by simp⟩
   case still=>
    simp only[List.forall_mem_cons];exact⟨(λ_ _ _ h=>h),(λ_ _ _ h=>h),(λ_ _ _ h=>h),(λ_ _ _ h=>h),(λ_ _ _ h=>h),(λ_ _ _ h=>h),(λ_ _ _ h=>h),(λ_ _ _ h=>h),(λ_ _ _ h=>h),(λ_ _ _ h=>h),(λ_ _ _ h=>h),(λ_ _ _ h=>h),(λ_ _ _ h=>h),by simp⟩
   case spec=>
    refine⟨?_,?_,?_,?_,?_,?_,?_,?_,?_,?_,?_,?_,?_,trivial⟩;rotate_left 11
    .intro a W gA gB hG qA qB hu hd;have kc:∀c,a.eval (Operand.const c)=c:=λ_=>rfl;have kf:∀f,a.eval (Operand.func f)=.func (.func f) #[] #[]:=λ_=>rfl;have sW:=hG.1.f.st;have rl:=sW.rules;simp only[aI,World.size_alloc] at rl;have u42:a.eval (Operand.tmp 42)=pv C 0:=hd 0 42 (by kernel_rfl) rfl;have u47:a.eval (Operand.tmp 47)=.agg #[.int .u64 xid,.int .i64 role,.int .u64 ex]:=hd 5 47 (by kernel_rfl) rfl;have u52:a.eval (Operand.tmp 52)=.agg #[.int .i64 op,.int .u64 now,.string lab,.string sc,.int .i64 kd,.slice is its.length ic,.int .u64 hq,.int .u64 to,.int .u64 rid,.slice ts tl.length tc]:=hd 10 52 (by kernel_rfl) rfl;obtain rfl:=qA rfl;change cond true _ _;rw[cond_true];refine⟨by rfl,?_⟩;have HGH:=aA hG;clear hu hd hG qA qB;generalize a.eval=ρ at*;go_simp;exact(DoG.call (x:=⟨xid,role,ex,⟨op,now,lab,sc,kd,its,⟨is,ic⟩,hq,to,rid,tl,⟨ts,tc⟩⟩⟩) HQX.out.1 HQX.out.2.1 HQX.out.2.2.1 HQX.out.2.2.2.1 HQX.out.2.2.2.2 HL29.out HBS.out (λy hy=>(HBL.out y hy).2) HGH.out).mono λe w9 ⟨v9,h91,_,h92⟩=>⟨v9,h91,h92⟩
    .intro a W gA gB hG qA qB hu hd;have kc:∀c,a.eval (Operand.const c)=c:=λ_=>rfl;have kf:∀f,a.eval (Operand.func f)=.func (.func f) #[] #[]:=λ_=>rfl;have sW:=hG.1.f.st;have rl:=sW.rules;simp only[aI,World.size_alloc] at rl;obtain rfl:=qB rfl;change cond false _ (cond true _ _);rw[cond_false,cond_true];refine⟨by rfl,?_⟩;have HGH:=aA hG;clear hu hd hG qA qB;generalize a.eval=ρ at*;go_simp;exact HGH.out.alloc
    rotate_right 11
    all_goals(intro a W gA gB hG qA qB hu hd;have kc:∀c,a.eval (Operand.const c)=c:=λ_=>rfl;have kf:∀f,a.eval (Operand.func f)=.func (.func f) #[] #[]:=λ_=>rfl;have sW:=hG.1.f.st;have rl:=sW.rules;simp only[aI,World.size_alloc] at rl)
    have u10:a.eval (Operand.tmp 10)=pv C 0:=hu 10 (by decide);rotate_left;have u2:a.eval (Operand.tmp 2)=.slice (some ⟨g,o,none⟩) A.length dc:=hu 2 (by decide);rotate_left;have u14:a.eval (Operand.tmp 14)=.int .i64 k:=hu 14 (by decide);rotate_left;have u43:a.eval (Operand.tmp 43)=.slice (some ⟨g,o,none⟩) A.length dc:=hd 1 43 (by kernel_rfl) rfl;have u44:a.eval (Operand.tmp 44)=.int .i64 k:=hd 2 44 (by kernel_rfl) rfl;rotate_left;have u45:a.eval (Operand.tmp 45)=pv g (o+k*13):=hd 3 45 (by kernel_rfl) rfl;rotate_left;have u46:a.eval (Operand.tmp 46)=pv g (o+k*13):=hd 4 46 (by kernel_rfl) rfl;have tcl:=HAC.out W hG.1.b;rotate_left;have u2:a.eval (Operand.tmp 2)=.slice (some ⟨g,o,none⟩) A.length dc:=hu 2 (by decide);rotate_left;have u14:a.eval (Operand.tmp 14)=.int .i64 k:=hu 14 (by decide);rotate_left;have u48:a.eval (Operand.tmp 48)=.slice (some ⟨g,o,none⟩) A.length dc:=hd 6 48 (by kernel_rfl) rfl;have u49:a.eval (Operand.tmp 49)=.int .i64 k:=hd 7 49 (by kernel_rfl) rfl;rotate_left;have u50:a.eval (Operand.tmp 50)=pv g (o+k*13):=hd 8 50 (by kernel_rfl) rfl;rotate_left;have u51:a.eval (Operand.tmp 51)=pv g (o+k*13+3):=hd 9 51 (by kernel_rfl) rfl;have tcl:=HAC.out W hG.1.b;rotate_left
    all_goals(change cond false _ (cond false _ _);rw[cond_false,cond_false];unfold eH;rw[if_pos (by rfl)];clear hu hd hG qA qB;generalize a.eval=ρ at*;go_simp;exact aG rfl)
   case endd=>
    intro v W hW hv;have v0:v 0=(pv C 0):=hv 0 (by omega);have v1:v 1=(.slice (some ⟨g,o,none⟩) A.length dc):=hv 1 (by omega);have v2:v 2=(.int .i64 k):=hv 2 (by omega);have v3:v 3=(pv g (o+k*13)):=hv 3 (by omega);have v4:v 4=(pv g (o+k*13)):=hv 4 (by omega);have v5:v 5=(.agg #[.int .u64 xid,.int .i64 role,.int .u64 ex]):=hv 5 (by omega);have v6:v 6=(.slice (some ⟨g,o,none⟩) A.length dc):=hv 6 (by omega);have v7:v 7=(.int .i64 k):=hv 7 (by omega);have v8:v 8=(pv g (o+k*13)):=hv 8 (by omega);have v9:v 9=(pv g (o+k*13+3)):=hv 9 (by omega);have v10:v 10=(.agg #[.int .i64 op,.int .u64 now,.string lab,.string sc,.int .i64 kd,.slice is its.length ic,.int .u64 hq,.int .u64 to,.int .u64 rid,.slice ts tl.length tc]):=hv 10 (by omega);clear hv;simp only[List.take_succ_cons,List.take_zero,List.drop_succ_cons,List.drop_zero,fS,Nat.zero_add,Nat.reduceAdd];rw[v0,v1,v2,v3,v4,v5,v6,v7,v8,v9,v10];clear v0 v1 v2 v3 v4 v5 v6 v7 v8 v9 v10;obtain⟨E,N,s1,n1,c1,es,LL,xs',R,v11,v12,hR,hRb,hRc,hfin⟩:=DoG.fin hW (by omega) h4 (λy hy=>(HBL.out y hy).1);rw[v11,v12];have f9:=hW.1.f.add hRc (λy hy e=>by have:=(HBL.out y hy).1;omega);have hfr:bX [R] W ((((W.setCell ⟨R,0,none⟩ (.int .i64 E)).setCell ⟨R,1,none⟩ (.int .u64 N)).setCell ⟨R,2,none⟩ (.slice s1 n1 c1)).setCell ⟨R,3,none⟩ (.slice es.s LL.length es.cap)):=((((bX.refl [R] W).set (.inl (by simp))).set (.inl (by simp))).set (.inl (by simp))).set (.inl (by simp));have HF:=aA (hfin _ hfr);have rl:=f9.rl;have f10:=f9.sx 0 (A:=R) rfl (.inr (by omega)) (o:=0) (v:=.int .i64 E);have f11:=f10.sx 0 (A:=R) rfl (.inr (by omega)) (o:=1) (v:=.int .u64 N);have f12:=f11.sx 0 (A:=R) rfl (.inr (by omega)) (o:=2) (v:=.slice s1 n1 c1);have f13:=f12.sx 0 (A:=R) rfl (.inr (by omega)) (o:=3) (v:=.slice es.s LL.length es.cap);have rl9:=f13.rl;have HR:=aA hR;have tcl:=HAC.out _ HF.out.1.b
    clear v11 v12 hW hR hRc hfin hfr f9 f10 f11 f12 HAC HG0
    by_cases hE:E=0
    rotate_left
    .have hE':(E==0)=false:=by simpa using hE
     have HE:=aA hE;clear hE;go_wp2_with fail;go_roundw
     case rel=>exact⟨k+1,xs',_,wl,rfl,by omega,by go_num,HF.out.1,HF.out.2,jI.step HND.out HAU.out HR.out wl (λh=>(HE.out h).elim) (λ_=>rfl),by omega⟩
     case measure=>simp[intOf];omega
    subst hE
    by_cases hI:xid=id
    rotate_left
    .have hI':((xid:Int)==(id:Int))=false:=by simp;omega
     have HE:=aA hI;clear hI;go_wp2_with fail;go_roundw
     case rel=>exact⟨k+1,xs',_,wl,rfl,by omega,by go_num,HF.out.1,HF.out.2,jI.step HND.out HAU.out HR.out wl (λ_ h=>(HE.out h).elim) (λ_=>rfl),by omega⟩
     case measure=>simp[intOf];omega
    subst hI
    by_cases h1:1<=op
    rotate_left
    .have hd1:decide (1<=op)=false:=by simp;omega
     have HE:=aA h1;clear h1;go_wp2_with fail;go_roundw
     case rel=>exact⟨k+1,xs',_,wl,rfl,by omega,by go_num,HF.out.1,HF.out.2,jI.step HND.out HAU.out HR.out wl (λ_ _ h=>(HE.out h).elim) (λ_=>rfl),by omega⟩
     case measure=>simp[intOf];omega
    by_cases h5:op<=5
    rotate_left
    .have hd1:decide (1<=op)=true:=by simp;omega
     have hd5:decide (op<=5)=false:=by simp;omega
     have HE:=aA h5;clear h1 h5;go_wp2_with fail;go_roundw
     case rel=>exact⟨k+1,xs',_,wl,rfl,by omega,by go_num,HF.out.1,HF.out.2,jI.step HND.out HAU.out HR.out wl (λ_ _ _ h=>(HE.out h).elim) (λ_=>rfl),by omega⟩
     case measure=>simp[intOf];omega
    obtain⟨q,rfl⟩:=Int.eq_ofNat_of_zero_le (show 0<=op by omega);have hd1:decide (1<=(q:Int))=true:=by simp;omega
    have hd5:decide ((q:Int)<=5)=true:=by simp;omega
    have hwd:=aOm (HF.out.1.f.blk 0 rfl) (q:=q) (by omega) (by omega);obtain⟨sq,hsq⟩:∃sq,opT (q:Int)=sq:=⟨_,rfl⟩;rw[hsq] at hwd;have HSQ:=aA hsq;clear hsq;obtain⟨rR,rF,rlt,-⟩:=rl9;obtain⟨rW,rWF,rWl,-⟩:=rl;have HQ5:=aA (aB h1 h5);have hq8:q<8:=by omega
    clear h1 h5;have al:=(Below.refl ((((W.setCell ⟨R,0,none⟩ (.int .i64 0)).setCell ⟨R,1,none⟩ (.int .u64 N)).setCell ⟨R,2,none⟩ (.slice s1 n1 c1)).setCell ⟨R,3,none⟩ (.slice es.s LL.length es.cap)).heap.size ((((W.setCell ⟨R,0,none⟩ (.int .i64 0)).setCell ⟨R,1,none⟩ (.int .u64 N)).setCell ⟨R,2,none⟩ (.slice s1 n1 c1)).setCell ⟨R,3,none⟩ (.slice es.s LL.length es.cap))).alloc aH (.cells #[.string sq] 9);have HFA:=aA (aB (HF.out.1.aWu al) (HF.out.2.aWu al));have hRA:=Rd.aW2 (enc:=aAp) (L:=[sq]) oY (kH ((((W.setCell ⟨R,0,none⟩ (.int .i64 0)).setCell ⟨R,1,none⟩ (.int .u64 N)).setCell ⟨R,2,none⟩ (.slice s1 n1 c1)).setCell ⟨R,3,none⟩ (.slice es.s LL.length es.cap)) (.cells #[.string sq] 9)) rfl;rw[show((((W.setCell ⟨R,0,none⟩ (.int .i64 0)).setCell ⟨R,1,none⟩ (.int .u64 N)).setCell ⟨R,2,none⟩ (.slice s1 n1 c1)).setCell ⟨R,3,none⟩ (.slice es.s LL.length es.cap)).heap.size=W.heap.size by simp] at hRA;have HRA:=aA hRA;clear hRA;have hWz:Wb.heap.size<=(((((W.setCell ⟨R,0,none⟩ (.int .i64 0)).setCell ⟨R,1,none⟩ (.int .u64 N)).setCell ⟨R,2,none⟩ (.slice s1 n1 c1)).setCell ⟨R,3,none⟩ (.slice es.s LL.length es.cap)).alloc (.cells #[.string sq] 9)).heap.size:=HFA.out.1.b.size;clear al;go_wp2_with(at_builtin;refine aB4 aTi oY aMf rfl (.tmp 85) (.tmp 95) rfl Wb.heap.size (.slice sW wl.length cW) wl rfl HFA.out.1.o [sq] 1 rfl _ 0 1 rfl HRA.out (by simp;omega) (by decide) hWz ?_);intro v' W' ho' hg' hr';have hwd:=pO.word HFA.out.1 HFA.out.2 ho' hg' (hr'.imp id λh=>h.trans (by simp)) (by omega) h4 (λy hy=>(HBL.out y hy).1) (λb hb=>(HBS.out b hb).2);have HWD:=aA hwd;clear hwd ho' hg' hr' HRA HFA;go_wp2_with fail;go_roundw
    case rel=>exact⟨k+1,xs',v',wl++[sq],rfl,by omega,by go_num,HWD.out.1,HWD.out.2,jI.step HND.out HAU.out HR.out _ (λ_ _ _ _=>by rw[HSQ.out]) (λh=>(h ⟨rfl,rfl,HQ5.out.1,HQ5.out.2⟩).elim),by simp;omega⟩
    case measure=>simp[intOf];omega
  .have HAU:=aA hAu;have HBT:=aA (aB hBs hTs);have hkl:k=A.length:=by omega
   clear hBs hTs hAu;go_wp2_with fail;refine(pC id _).mono ?_;rintro e w5 ⟨rfl,hb5⟩;have HD9:=aA (aEh (Pw bs (.slice sW wl.length cW)) w1.heap.size C ka kb ids bs cs xs id 3 0 6 (by decide) 0 ⟨#[]⟩ ⟨#[]⟩ (by decide) (by decide) 0 [] (by intro x hx;simp at hx) (by decide) none 0 0 0 0 (by decide) (by decide) none [] (by decide) 0 (by decide) _ (HBT.out.2.aWu hb5) (λy hy=>by have:=HAU.out.1 y hy;omega) (by intro i x hx;simp at hx) (λh=>(h rfl).elim) (by intro i x hx;simp at hx) (λh=>(h rfl).elim));have HB5:=aA (HBT.out.1.aWu hb5);clear hb5 HBT;go_wp2_with fail;refine HD9.out.mono ?_;clear HD9;rintro e w6 ⟨E,N,s1,n1,c1,⟨es,ec⟩,LL,xs',rfl,hes,hf6,-,hR⟩;have hB6:=HB5.out.fr hf6 (λq hq=>(HBS.out q hq).1) (λq hq=>.inl hq) (λy hy=>(HBL.out y hy).2) (λg _ hg hle=>by have:=(HBS.out g hg).2;omega);obtain⟨⟨sW',cW'⟩,hd1,hd2,-⟩:=bS.aXa oY hB6.o;cases hd1;have HB6:=aA (aB hB6.f.fr.below (aB hes.rd hd2.rd));have hec:=hes.cap;have hecm:=hes.max;have st:=(St.start w6).alloc (cs:= #[.int .i64 E,.int .u64 N,.slice s1 n1 c1,.slice es LL.length ec]) (T:=36);have rl:=st.rl;have hla:=HAU.out.last hR;clear hes hf6 hB6 HB5 hd2 hR;rcases hla with⟨rfl,hw0⟩|⟨rfl,hLL,hok,-⟩
   .have hb0:((wl.length:Int)==0)=true:=by rw[hw0];rfl
    clear hw0;go_wp2_with fail;go_ret;exact⟨rfl,HB6.out.1.trans (st.below.mono HB6.out.1.size)⟩
   .have hb0:((LL.length:Int) !=(wl.length:Int))=false:=by rw[<-hLL,List.length_map];simp
    have HL:=aA (aB hLL hok);clear hLL hok;go_wp2_with fail
    go_loopw [17] (λi wr=>∃k:Nat,k<=wl.length/\i=.int .i64 k/\St w6 [(w6.heap.size,#[.int .i64 0,.int .u64 N,.slice s1 n1 c1,.slice es LL.length ec],36)] (λ_=>True) wr) (λi _=>wl.length-(intOf i).toNat)
    case atStart=>exact⟨0,cJ _,rfl,st⟩
    case round=>
     clear st rl;obtain⟨k,hk,rfl,st⟩:=hrel;have rl:=st.rl
     by_cases hlt:k<wl.length
     .obtain⟨s,hs⟩:∃s,wl[k]? =some s:=⟨_,cZ hlt⟩;have hll:k<LL.length:=by have:=congrArg List.length HL.out.1;rw[List.length_map] at this;omega
      obtain⟨⟨eq,et,ex,em⟩,he⟩:∃e,LL[k]? =some e:=⟨_,cZ hll⟩;have hq:=HL.out.2 k _ he;have hx:some s=some ex:=by rw[<-hs,<-HL.out.1,List.getElem?_map,he];rfl
      obtain rfl:=oSi hx;simp only at hq;subst hq;obtain⟨g,o,rfl,hg,hc⟩:=(HB6.out.2.1.aWu aH st.below) k _ he;obtain⟨g',o',rfl,hg',hc'⟩:=(HB6.out.2.2.aWu aH st.below) k _ hs;have hc0:=hc 0 _ rfl;have hc2:=hc 2 _ rfl;have hc0':=hc' 0 _ rfl;simp only[Nat.add_zero,Nat.mul_one] at hc0 hc0';clear hc hc' hx hs he;go_wp2_with fail;go_quiet(fail);have st3:=st.drewN (n:=nq);clear hc0 hc2 hc0' rl;go_wp2_with fail;go_roundw
      case rel=>exact⟨k+1,hlt,by go_num,st3⟩
      case measure=>simp[intOf];omega
     .obtain rfl:k=wl.length:=by omega
      have HST:=aA st.below;clear st;go_wp2_with fail;go_ret;exact⟨rfl,HB6.out.1.trans (HST.out.mono HB6.out.1.size)⟩
end
end Go.Proofs.YtmgdbfmlnmahpaaGreatDoor
