/- Part of TopAudits. -/
import Derived.Test.YtmgdbfmlnmahpaaGreatDoorG43
import Derived.Defers
namespace Go.Proofs.YtmgdbfmlnmahpaaGreatDoor
set_option linter.unusedSimpArgs false
set_option linter.unusedVariables false
set_option maxRecDepth 100000
set_option maxHeartbeats 4000000
open Go.Proofs.Tryz
open Go.RowKit Go.Shelf
structure fE where
 id:Nat
 bu:Int
 ttl:Nat
 ka:BitVec 64
 kb:BitVec 64
structure bR where
 T:List aP
 t:Hd
 nx:Nat
 M:List Gr
 g:Hd
 L:List bT
 l:Hd
 tm:Nat
abbrev bR.cs (c:fE)(x:bR):Array Value:= #[.slice x.t.s x.T.length x.t.cap,.int .u64 x.nx,.slice x.g.s x.M.length x.g.cap,.int .u64 0,.slice x.l.s x.L.length x.l.cap,.int .u64 x.tm,.int .u64 c.id,.int .i64 c.bu,.int .u64 c.ttl,.int .u64 (un c.ka),.int .u64 (un c.kb)]
abbrev dW (W:World)(b:Nat)(c:fE)(x:bR):Prop:=W.heap[b]? =some (.cells (x.cs c) 83 (0,0))
def yN {α:Type}(P:Nat->Prop)(d:Hd)(L:List α):Prop:=L≠[]->∀g o,d.s=some ⟨g,o,none⟩->P g
theorem yN.mono {α:Type}{P Q:Nat->Prop}{d:Hd}{L:List α}(h:yN P d L)(hq:∀g,P g->Q g):yN Q d L:=λhn g o e=>hq g (h hn g o e)
theorem yN.of {α:Type}{P:Nat->Prop}{B:Nat}{d:Hd}{L:List α}(h:aT B d)(hq:∀g,B<=g->P g):yN P d L:=λ_ g o e=>hq g (h g o e)
theorem aT6 {α:Type}{k:Nat}{enc:α->List Value}{W:World}{d:Hd}{L:List α}(r:bS k enc W d L)(hn:L≠[]):∀g o,d.s=some ⟨g,o,none⟩->g<W.heap.size:=by
 intro g o e;obtain⟨x,hx⟩:∃x,L[0]? =some x:=by
  cases L with
  |nil=>exact(hn rfl).elim
  |cons x _=>exact⟨x,rfl⟩
 obtain⟨g',o',e',hg,_⟩:=r.rd 0 x hx;rw[e] at e';cases e';exact hg
theorem yN.and {α:Type}{P:Nat->Prop}{k:Nat}{enc:α->List Value}{W:World}{d:Hd}{L:List α}(h:yN P d L)(r:bS k enc W d L):yN (λg=>P g/\g<W.heap.size) d L:=λhn g o e=>⟨h hn g o e,aT6 r hn g o e⟩
theorem fX {α:Type}{k:Nat}{enc:α->List Value}{P:Nat->Prop}{S:List Nat}{W W':World}{d:Hd}{L:List α}(r:bS k enc W d L)(ha:yN P d L)(hk:bX S W W')(hS:∀g∈S,¬P g):bS k enc W' d L:=by
 refine⟨λi x hx=> ?_,r.cap,r.max,r.nil,r.plain⟩;obtain⟨g,o,e,hg,hc⟩:=r.rd i x hx;refine⟨g,o,e,kG hg hk.size,λj u hu=> ?_⟩;rw[<-hc j u hu];have hn:L≠[]:=by rintro rfl;simp at hx
 simp only[World.cell?,hk.block g hg (λhm=>hS g hm (ha hn g o e))]
structure AlS (P:Nat->Prop)(x:aP):Prop where
 l:yN P x.l x.lab
 e:yN P x.k.e x.sk.e
 c:yN P x.k.c x.sk.c
 g:yN P x.k.g x.sk.g
structure jC (P:Nat->Prop)(W:World)(t:Hd)(T:List aP):Prop where
 ok:pS T
 r:mN W t T
 t:yN P t T
 s:∀x∈T,AlS P x
theorem jC.of {P:Nat->Prop}{B:Nat}{t:Hd}{T:List aP}{W:World}(h:aEx B t T W)(hq:∀g,B<=g->P g):jC P W t T:=
 ⟨h.ok,h.r,.of h.t hq,λx hx=>⟨.of (h.s x hx).1 hq,.of (h.s x hx).2.1 hq,.of (h.s x hx).2.2.1 hq,.of (h.s x hx).2.2.2 hq⟩⟩
theorem jC.aWu {P:Nat->Prop}{t:Hd}{T:List aP}{W W':World}(h:jC P W t T)(hb:Below W.heap.size W W'):jC P W' t T:=⟨h.ok,h.r.aWu hb,h.t,h.s⟩
theorem jC.mono {P Q:Nat->Prop}{t:Hd}{T:List aP}{W:World}(h:jC P W t T)(hq:∀g,P g->Q g):jC Q W t T:=⟨h.ok,h.r,h.t.mono hq,λx hx=>⟨(h.s x hx).l.mono hq,(h.s x hx).e.mono hq,(h.s x hx).c.mono hq,(h.s x hx).g.mono hq⟩⟩
theorem jC.lt {P:Nat->Prop}{t:Hd}{T:List aP}{W:World}(h:jC P W t T):jC (λg=>P g/\g<W.heap.size) W t T:=⟨h.ok,h.r,h.t.and h.r.t,λx hx=>⟨(h.s x hx).l.and (h.r.s x hx).l,(h.s x hx).e.and (h.r.s x hx).k.e,(h.s x hx).c.and (h.r.s x hx).k.c,(h.s x hx).g.and (h.r.s x hx).k.g⟩⟩
theorem jC.fr {P:Nat->Prop}{S:List Nat}{t:Hd}{T:List aP}{W W':World}(h:jC P W t T)(hk:bX S W W')(hS:∀g∈S,¬P g):jC P W' t T:=
 ⟨h.ok,⟨fX h.r.t h.t hk hS,λx hx=>⟨fX (h.r.s x hx).l (h.s x hx).l hk hS,⟨fX (h.r.s x hx).k.e (h.s x hx).e hk hS,fX (h.r.s x hx).k.c (h.s x hx).c hk hS,fX (h.r.s x hx).k.g (h.s x hx).g hk hS⟩⟩⟩,h.t,h.s⟩
theorem jC.none (P:Nat->Prop)(W:World):jC P W ⟨.none,0⟩ []:=⟨⟨by simp,λx hx=>by cases hx⟩,⟨bS.none _,λx hx=>by cases hx⟩,λh=>(h rfl).elim,λx hx=>by cases hx⟩
structure cX (P:Nat->Prop)(W:World)(x:bR):Prop where
 t:jC P W x.t x.T
 g:bS 3 eL W x.g x.M
 gok:GOk x.M
 gf:yN P x.g x.M
 nx:x.nx<=aJ
 l:bS 4 bT.cells W x.l x.L
 lok:∀y∈x.L,y.Ok
 lf:yN P x.l x.L
 tm:x.tm<=aJ
theorem cX.aWu {P:Nat->Prop}{W W':World}{x:bR}(h:cX P W x)(hb:Below W.heap.size W W'):cX P W' x:=
 ⟨h.t.aWu hb,h.g.aWu hb,h.gok,h.gf,h.nx,h.l.aWu hb,h.lok,h.lf,h.tm⟩
theorem cX.mono {P Q:Nat->Prop}{W:World}{x:bR}(h:cX P W x)(hq:∀g,P g->Q g):cX Q W x:=⟨h.t.mono hq,h.g,h.gok,h.gf.mono hq,h.nx,h.l,h.lok,h.lf.mono hq,h.tm⟩
theorem cX.lt {P:Nat->Prop}{W:World}{x:bR}(h:cX P W x):cX (λg=>P g/\g<W.heap.size) W x:=⟨h.t.lt,h.g,h.gok,h.gf.and h.g,h.nx,h.l,h.lok,h.lf.and h.l,h.tm⟩
theorem cX.fr {P:Nat->Prop}{S:List Nat}{W W':World}{x:bR}(h:cX P W x)(hk:bX S W W')(hS:∀g∈S,¬P g):cX P W' x:=
 ⟨h.t.fr hk hS,fX h.g h.gf hk hS,h.gok,h.gf,h.nx,fX h.l h.lf hk hS,h.lok,h.lf,h.tm⟩
theorem aQ.fr {S:List Nat}{W W':World}(h:aQ W)(hk:bX S W W')(hS:∀k∈S,4<=k):aQ W':=by
 have hc:∀p:Addr,p.block<4->p.block<W.heap.size->W'.cell? p=W.cell? p:=λp h1 h2=>by
  simp only[World.cell?,hk.block p.block h2 (λhm=>by have:=hS _ hm;omega)]
 refine⟨?_,λc hc'=> ?_,λi hi=>⟨?_,?_⟩⟩
 .have h1:W.cell? ⟨1,0,none⟩=_:=h.e;exact(hc ⟨1,0,none⟩ (by show 1<4;omega) (World.block_lt_of_cell? _ _ h1)).trans h1
 .have h1:=h.u.1 c hc';exact(hc ⟨2,c,none⟩ (by show 2<4;omega) (World.block_lt_of_cell? _ _ h1)).trans h1
 .have h1:=(h.u.2 i hi).1;exact(hc ⟨3,2*i,none⟩ (by show 3<4;omega) (World.block_lt_of_cell? _ _ h1)).trans h1
 .have h1:=(h.u.2 i hi).2;exact(hc ⟨3,2*i+1,none⟩ (by show 3<4;omega) (World.block_lt_of_cell? _ _ h1)).trans h1
theorem aF7 {W:World}{d:Hd}{L:List bT}(h:bS 4 bT.cells W d L):lE W d.s L:=by
 intro i x hx;obtain⟨g,o,e,hg,hc⟩:=h.rd i x hx;exact⟨g,o,e,hg,hc 0 _ rfl,hc 1 _ rfl,hc 2 _ rfl,hc 3 _ rfl⟩
theorem aCh (x:bT):(bT.cells x).length=4:=rfl
theorem aJu {W:World}{B:Nat}{v:Value}{L:List bT}(h:pR W B v L):∃d:Hd,v=.slice d.s L.length d.cap/\bS 4 bT.cells W d L/\aT B d:=by
 obtain⟨d,h1,h2,h3⟩:=bS.aXa (enc:=bT.cells) (k:=4) (e:=53) aCh h;exact⟨d,h1,h2,h3⟩
theorem aC2 {T T':List aP}(h:T'.map aP.core=T.map aP.core)(o:lG T):lG T':=by
 rcases o with rfl|⟨x,rfl,hl⟩
 .exact .inl (by simpa using h)
 .obtain⟨y,rfl,hy⟩:∃y,T'=[y]/\y.core=x.core:=by
   match T',h with
   |[y],h=>exact⟨y,rfl,by simpa using h⟩
   |[],h=>simp at h
   |_::_::_,h=>simp at h
  refine .inr ⟨y,rfl,?_⟩;simp only[aP.core,Prod.mk.injEq] at hy;exact hy.1.trans hl
def IsX (A:Nat->Prop)(P:Prop)(T:List aP):Value->World->Prop:=λv W=>∃(t':Hd) (T':List aP) (n E:Int),v=.tuple #[t'.v T'.length,.int .i64 n,.int .i64 E]/\jC A W t' T'/\(P->E=0/\T'.map aP.core=T.map aP.core)
theorem aJ0 (A:Nat->Prop)(P:Prop)(T:List aP):bO (IsX A P T):=λ_ _ _ ⟨t',T',n,E,h1,h2,h3⟩ hb=>⟨t',T',n,E,h1,h2.aWu hb,h3⟩
def aSb (A:Nat->Prop)(P:Prop)(T:List aP):Value->World->Prop:=λv W=>∃(t':Hd) (T':List aP),v=t'.v T'.length/\jC A W t' T'/\(P->T'.map aP.core=T.map aP.core)
theorem aMa (A:Nat->Prop)(P:Prop)(T:List aP):bO (aSb A P T):=λ_ _ _ ⟨t',T',h1,h2,h3⟩ hb=>⟨t',T',h1,h2.aWu hb,h3⟩
def aA0 (P:Prop):Value->World->Prop:=λv _=>∃E:Int,v=.int .i64 E/\(P->E=0)
theorem oJ (P:Prop):bO (aA0 P):=λ_ _ _ h _=>h
def aU2 (A:Nat->Prop)(b:Nat)(c:fE)(x:bR)(now:Nat)(w:World)(e:Ending)(w':World):Prop:=∃(E:Int) (y:bR),e=.returned (.int .i64 E)/\y.nx=x.nx/\y.M=x.M/\y.g=x.g/\y.L=x.L/\y.l=x.l/\cX A w' y/\bX [b] w w'/\dW w' b c y/\(E=0->x.tm<=now/\y.tm=now)/\(lG x.T/\(∀z∈x.T,(now:Int)<=(z.seen:Int))/\x.tm<=now->E=0/\y.T.map aP.core=x.T.map aP.core)
theorem aE0 (A:Nat->Prop)(b:Nat)(hb:¬A b)(c:fE)(x:bR)(now:Nat)(hn:now<=aJ)(w:World)(hBw:∀g,w.heap.size<=g->A g)(hb4:4<=b)(hG:aQ w)(h0:dW w b c x)(hx:cX A w x):
  Calls prog 66 #[pv b 0,.int .u64 now] w (aU2 A b c x now w):=by
 obtain⟨T,⟨ts,tc⟩,nx,M,⟨gs,gc⟩,L,⟨ls,lc⟩,tm⟩:=x;obtain⟨id,bu,ttl,ka,kb⟩:=c;obtain⟨n,hn'⟩:∃n,T.length=n:=⟨_,rfl⟩;obtain⟨gn,hgn⟩:∃gn,M.length=gn:=⟨_,rfl⟩;obtain⟨ln,hln⟩:∃ln,L.length=ln:=⟨_,rfl⟩;simp only[dW,bR.cs,hn',hgn,hln] at h0;have st0:=Stb.start h0;have rl:=st0.rl;have HA:=aA (aFn tm now);have H0:=aA (aB h0 (aB hx (aB hG (aB hn (aB hBw (aB hb (aB hn' (aB hgn (aB hln hb4)))))))));clear h0 hx hG hn hBw hn' hgn hln hb hb4
 by_cases hlt:now<tm
 .replace HA:=aA (show∀W,Calls _ _ _ W _ from HA.out)
  simp only[if_pos hlt] at HA;go_enter func66,ntmps66;go_wp2_with fail;refine(HA.out _).mono ?_;rintro e w1 ⟨rfl,rfl⟩;have rl:=st0.rl;go_wp2_with fail;have st1:=Stb.set H0.out.1 st0 0 rfl (o:=5) (v:=.int .u64 0);simp only[jP,List.modify_succ_cons,List.modify_zero_cons,List.setIfInBounds_toArray,List.set_cons_zero,List.set_cons_succ] at st1;have hb1:=st1.below;rw[eO] at hb1;obtain⟨f1,f2⟩:=bX.ofRow H0.out.1 hb1;refine bodyPost_ret (v:=.int .i64 140) (by simp[results,results66,go_sem]) rfl ?_;refine⟨140,⟨T,⟨ts,tc⟩,nx,M,⟨gs,gc⟩,L,⟨ls,lc⟩,0⟩,rfl,rfl,rfl,rfl,rfl,rfl,?_,f1,?_,(λh=>by cases h),λh=>absurd h.2.2 (by show¬tm<=now;omega)⟩
  .have:=H0.out.2.1.fr f1 (by have:=H0.out.2.2.2.2.2.1;simpa using this);exact⟨this.t,this.g,this.gok,this.gf,this.nx,this.l,this.lok,this.lf,cJ _⟩
  .refine f2.trans ?_;simp only[bR.cs];rw[H0.out.2.2.2.2.2.2.1,H0.out.2.2.2.2.2.2.2.1,H0.out.2.2.2.2.2.2.2.2.1];rfl
 .replace HA:=aA (show∀W,Calls _ _ _ W _ from HA.out)
  simp only[if_neg hlt] at HA;have HLT:=aA hlt;clear hlt;go_enter func66,ntmps66;go_wp2_with fail;refine(HA.out _).mono ?_;rintro e w1 ⟨rfl,rfl⟩;have rl:=st0.rl;go_wp2_with fail;have st1:=Stb.set H0.out.1 st0 0 rfl (o:=5) (v:=.int .u64 now);simp only[jP,List.modify_succ_cons,List.modify_zero_cons,List.setIfInBounds_toArray,List.set_cons_zero,List.set_cons_succ] at st1;have hb1:=st1.below;rw[eO] at hb1;obtain⟨f1,f2⟩:=bX.ofRow H0.out.1 hb1;have hx1:=H0.out.2.1.fr f1 (by have:=H0.out.2.2.2.2.2.1;simpa using this);have hG1:=H0.out.2.2.1.fr f1 (by have:=H0.out.2.2.2.2.2.2.2.2.2;simp;omega);have hzr:(w1.setCell ⟨b,5,none⟩ (.int .u64 now)).heap.size=w1.heap.size:=by simp[World.setCell]
  generalize w1.setCell ⟨b,5,none⟩ (.int .u64 now)=wr at*;obtain⟨PG,hPG⟩:∃PG:Prop,PG=(lG T/\∀z∈T,(now:Int)<=(z.seen:Int)):=⟨_,rfl⟩;have HPG:=aA hPG;have HE:=aA (show∀W,Below wr.heap.size wr W->Calls prog 99 #[.slice ts n tc,.int .u64 now,.int .u64 ttl] W λe w'=>∃v,e=.returned v/\IsX A PG T v w'/\Below W.heap.size W w' from λW hW=>by
   subst hPG;have:=aCb T hx1.t.ok ⟨ts,tc⟩ (now:Int) (ttl:Int) W (hG1.aWu hW) (hx1.t.r.aWu hW);rw[H0.out.2.2.2.2.2.2.1] at this;refine this.mono ?_;rintro e w' ⟨⟨E,hE,rfl,hno⟩|⟨t',T',k,rfl,hT',-,hk⟩,hb'⟩
   .exact⟨_,rfl,⟨⟨.none,0⟩,[],0,E,rfl,jC.none _ _,λh=>(hno h.1).elim⟩,hb'⟩
   .exact⟨_,rfl,⟨t',T',k,0,rfl,jC.of hT' (λg hg=>H0.out.2.2.2.2.1 g (by have:=hW.size;omega)),λh=>⟨rfl,hk h.2⟩⟩,hb'⟩)
  have HZ:=aA (aB hx1 (aB f1 hzr));clear hPG rl st0 hx1 hG1 f1 f2 hb1 HA hzr;refine rE st1 24 [19,20] [.val (pv b 0),.val (pv b 0),.val (pv b 0),.val (pv b 0),.val (pv b 0),.val (.slice ts n tc),.val (pv b 0),.val (pv b 0),.val (pv b 0),.val (pv b 5),.val (.int .u64 now),.val (pv b 0),.val (pv b 0),.val (pv b 6),.val (pv b 8),.val (.int .u64 ttl),.fct (IsX A PG T) (aJ0 _ _ _),.fct (IsX A PG T) (aJ0 _ _ _),.fct (aSb A PG T) (aMa _ _ _),.fct (λv _=>∃n9:Int,v=.int .i64 n9) ((λ_ _ _ h _=>h)),.fct (aA0 PG) (oJ _),.val (pv b 0),.val (pv b 0),.val (pv b 0)] ?spec ?late ?endd
  case spec=>
   refine⟨?_,?_,?_,?_,?_,?_,?_,?_,?_,?_,?_,?_,?_,?_,?_,?_,?_,?_,?_,?_,?_,?_,?_,?_,trivial⟩
   all_goals(intro ρ W kc kf hW sW rl hu hd;simp only[aI] at rl)
   have u0:ρ (.tmp 0)=pv b 0:=cR hu 0;rotate_left;have u0:ρ (.tmp 0)=pv b 0:=cR hu 0;rotate_left;have u24:ρ (.tmp 24)=_:=aK hd 1 24;rotate_left;have u25:ρ (.tmp 25)=_:=aK hd 2 25;rotate_left;have u26:ρ (.tmp 26)=_:=aK hd 3 26;rotate_left;have u27:ρ (.tmp 27)=_:=aK hd 4 27;rotate_left;have u0:ρ (.tmp 0)=pv b 0:=cR hu 0;rotate_left;have u29:ρ (.tmp 29)=_:=aK hd 6 29;rotate_left;have u30:ρ (.tmp 30)=_:=aK hd 7 30;rotate_left;have u31:ρ (.tmp 31)=_:=aK hd 8 31;rotate_left;have u32:ρ (.tmp 32)=_:=aK hd 9 32;rotate_left;have u0:ρ (.tmp 0)=pv b 0:=cR hu 0;rotate_left;have u34:ρ (.tmp 34)=_:=aK hd 11 34;rotate_left;have u35:ρ (.tmp 35)=_:=aK hd 12 35;rotate_left;have u36:ρ (.tmp 36)=_:=aK hd 13 36;rotate_left;have u37:ρ (.tmp 37)=_:=aK hd 14 37;rotate_left
   .have u28:ρ (.tmp 28)=_:=aK hd 5 28;have u33:ρ (.tmp 33)=_:=aK hd 10 33;have u38:ρ (.tmp 38)=_:=aK hd 15 38;refine aF rfl ?_;go_simp;refine⟨aW,(HE.out W hW).mono ?_⟩;rintro e w' ⟨v9,rfl,t9,hb'⟩;exact⟨_,rfl,hb',t9⟩
   .have f39:IsX A PG T (ρ (.tmp 39)) W:=aK hd 16 39;obtain⟨t9,T9,n9,E9,u39,h9,g9⟩:=f39;refine aF rfl ?_;go_simp;exact aG ⟨t9,T9,n9,E9,rfl,h9,g9⟩
   .have f22:IsX A PG T (ρ (.tmp 22)) W:=aK hd 17 22;obtain⟨t9,T9,n9,E9,u22,h9,g9⟩:=f22;refine aF rfl ?_;go_simp;exact aG ⟨t9,T9,rfl,h9,λh=>(g9 h).2⟩
   .have f22:IsX A PG T (ρ (.tmp 22)) W:=aK hd 17 22;obtain⟨t9,T9,n9,E9,u22,h9,g9⟩:=f22;refine aF rfl ?_;go_simp;exact aG ⟨n9,rfl⟩
   .have f22:IsX A PG T (ρ (.tmp 22)) W:=aK hd 17 22;obtain⟨t9,T9,n9,E9,u22,h9,g9⟩:=f22;refine aF rfl ?_;go_simp;exact aG ⟨E9,rfl,λh=>(g9 h).1⟩
   have u23:ρ (.tmp 23)=_:=aK hd 0 23;rotate_left;have u43:ρ (.tmp 43)=_:=aK hd 21 43;rotate_left;have u44:ρ (.tmp 44)=_:=aK hd 22 44;rotate_left
   all_goals(refine aF rfl ?_;go_simp;exact aG rfl)
  case late=>
   intro q hqm oq hoq ρ W kc hu hd;simp only[List.mem_cons,List.not_mem_nil,or_false] at hqm;rcases hqm with rfl|rfl
   .cases hoq;obtain⟨t9,T9,n9,E9,u22,h9,g9⟩:IsX A PG T (ρ (.tmp 22)) W:=aK hd 17 22;refine⟨.int .i64 n9,λW'=> ?_,λW'=>(show∃n:Int,_=Value.int .i64 n from⟨n9,rfl⟩)⟩;go_simp
   .cases hoq;obtain⟨t9,T9,n9,E9,u22,h9,g9⟩:IsX A PG T (ρ (.tmp 22)) W:=aK hd 17 22;refine⟨.int .i64 E9,λW'=> ?_,λW'=>(show aA0 PG (.int .i64 E9) W' from⟨E9,rfl,λh=>(g9 h).1⟩)⟩;go_simp
  case endd=>
   rintro v W hW sW rl ⟨h16,h17,h18,h19,h20,-⟩;simp only[aI] at rl;obtain⟨⟨ts9,tc9⟩,T9,v18,hT9,hx9⟩:=h18;obtain⟨n9,v19⟩:=h19;obtain⟨E9,v20,hE9⟩:=h20;rw[v18,v20];simp only[Hd.v];have HT9:=aA (aB hT9 (aB hx9 (aB hE9 hW)));clear h16 h17 v18 v19 v20 hT9 hx9 hE9 hW;generalize v 16=v16 at*;generalize v 17=v17 at*;generalize v 19=v19' at*;go_wp2_with fail;have st2:=Stb.set H0.out.1 sW 0 rfl (o:=0) (v:=.slice ts9 T9.length tc9);simp only[jP,List.modify_succ_cons,List.modify_zero_cons,List.setIfInBounds_toArray,List.set_cons_zero,List.set_cons_succ] at st2;have hb2:=st2.below;rw[eO] at hb2;obtain⟨f1,f2⟩:=bX.ofRow H0.out.1 hb2;have fs:bX [b] W (W.setCell ⟨b,0,none⟩ (.slice ts9 T9.length tc9)):=(bX.refl _ _).set (.inl (by simp));have hbA:∀g∈[b],¬A g:=by have:=H0.out.2.2.2.2.2.1;simpa using this
   have ho:=(HZ.out.1.aWu HT9.out.2.2.2).fr fs hbA;refine bodyPost_ret (v:=.int .i64 E9) (by simp[results,results66,go_sem]) rfl ⟨E9,⟨T9,⟨ts9,tc9⟩,nx,M,⟨gs,gc⟩,L,⟨ls,lc⟩,now⟩,rfl,rfl,rfl,rfl,rfl,rfl,⟨HT9.out.1.fr fs hbA,ho.g,ho.gok,ho.gf,ho.nx,ho.l,ho.lok,ho.lf,H0.out.2.2.2.1⟩,f1,?_,(λ_=>⟨by have:=HLT.out;show tm<=now;omega,rfl⟩),λh=> ?_⟩
   .refine f2.trans ?_;simp only[bR.cs];rw[H0.out.2.2.2.2.2.2.2.1,H0.out.2.2.2.2.2.2.2.2.1]
   .have hp:PG:=by rw[HPG.out];exact⟨h.1,h.2.1⟩
    exact⟨HT9.out.2.2.1 hp,HT9.out.2.1 hp⟩
theorem leaves_put {P:Program}{fn:Func}{t t':Array Value}{R:Ending->World->Prop}(h:results fn t=results fn t'):∀(ds:List Deferred) (u:FrameMode) (w:World),Leaves P fn t R ds u w->Leaves P fn t' R ds u w
 |[],.returning,w,⟨v,h1,h2⟩=>⟨v,h▸h1,h2⟩
 |[],.panicking _,_,h1=>h1
 |[],.run,_,h1=>h1
 |d::ds,u,w,⟨hu,fv,cap,f,args,h1,h2,h3⟩=>⟨hu,fv,cap,f,args,h1,h2,h3.mono λe u' w' hR=>by
  cases e with
  |returned v=>exact leaves_put h ds _ _ hR
  |panicked c=>exact leaves_put h ds _ _ hR
  |outgrown=>exact hR⟩
theorem resDo {a:Act}{d:Nat}{v:Value}(hd:d≠8):results Tryz.f43 (a.put (some d) v).tmps=results Tryz.f43 a.tmps:=by
 have e:(a.tmps.setIfInBounds d v)[8]? =a.tmps[8]? :=Array.getElem?_setIfInBounds_ne hd;simp[results,results43,go_sem,Act.put,e]
theorem aO8 (g o:Nat)(p q:Value)(u:FrameMode)(w:World)(c:w.cell? ⟨g,o,none⟩=some (.int .i64 0)):CallsD prog 65 #[pv g o,p,q] u w λe u' w'=>u'=u/\(e=.returned (.tuple #[])/\w'=w):=by
 go_enter_d func65,ntmps65
 go_wp2_with fail;go_end0;exact⟨rfl,rfl⟩
theorem aJg (S:List Nat)(A O p b:Nat)(E:Int)(hE:E≠0)(c:fE)(x y:bR)(u:FrameMode)(w0 w:World)(f:Fr w0 (b::S) [(b,y.cs c,83),(O,#[.slice x.t.s x.T.length x.t.cap,.int .u64 x.nx,.slice x.g.s x.M.length x.g.cap,.int .u64 0,.slice x.l.s x.L.length x.l.cap,.int .u64 x.tm],81),(A,#[.int .i64 E],28),(p,#[pv b 0],60)] w):
  CallsD prog 65 #[pv A 0,pv O 0,pv p 0] u w λe u' w'=>u'=u/\e=.returned (.tuple #[])/\w'.cell? ⟨A,0,none⟩=some (.int .i64 E)/\bX (b::S) w0 w'/\dW w' b c x:=by
 have hEb:(E==0)=false:=by simpa using hE
 simp only[bR.cs] at f;have rl:=f.rl
 go_enter_d func65,ntmps65
 go_wp2_with fail;have f1:=f.sx 0 (A:=b) rfl (.inl (by simp)) (o:=0) (v:=.slice x.t.s x.T.length x.t.cap);have f2:=f1.sx 0 (A:=b) rfl (.inl (by simp)) (o:=1) (v:=.int .u64 x.nx);have f3:=f2.sx 0 (A:=b) rfl (.inl (by simp)) (o:=2) (v:=.slice x.g.s x.M.length x.g.cap);have f4:=f3.sx 0 (A:=b) rfl (.inl (by simp)) (o:=3) (v:=.int .u64 0);have f5:=f4.sx 0 (A:=b) rfl (.inl (by simp)) (o:=4) (v:=.slice x.l.s x.L.length x.l.cap);have f6:=f5.sx 0 (A:=b) rfl (.inl (by simp)) (o:=5) (v:=.int .u64 x.tm);go_end0;exact⟨rfl,aE (f6.blk 2 rfl) 0,f6.fr,f6.blk 0 rfl⟩
def sP (P:Nat->Prop)(L3:List bT)(E3:Int):Value->World->Prop:=λv W=>∃d:Hd,v=.tuple #[.agg #[.int .u64 0,.slice d.s L3.length d.cap],.int .i64 E3]/\bS 4 bT.cells W d L3/\yN P d L3
theorem rB (P:Nat->Prop)(L3:List bT)(E3:Int):bO (sP P L3 E3):=λ_ _ _ ⟨d,h1,h2,h3⟩ hb=>⟨d,h1,h2.aWu hb,h3⟩
def aTy (P:Nat->Prop)(L3:List bT):Value->World->Prop:=λv W=>∃d:Hd,v=.agg #[.int .u64 0,.slice d.s L3.length d.cap]/\bS 4 bT.cells W d L3/\yN P d L3
theorem aDi (P:Nat->Prop)(L3:List bT):bO (aTy P L3):=λ_ _ _ ⟨d,h1,h2,h3⟩ hb=>⟨d,h1,h2.aWu hb,h3⟩
def DoP (P0:Nat->Prop)(b:Nat)(S:List Nat)(c:fE)(x:bR)(now:Nat)(tx:ByteArray)(X:Prop)(Q:List aP->List aP->World->Prop)(w:World)(e:Ending)(w':World):Prop:=
 ∃(E:Int) (z:bR),e=.returned (.int .i64 E)/\bX (b::S) w w'/\dW w' b c z/\cX (λg=>P0 g\/w.heap.size+3<=g) w' z/\(E≠0->z=x)/\(E=0->z.L=x.L++[cK c.ka c.kb 0 x.L now tx]/\z.tm=now/\x.tm<=now/\∃T1:List aP,(X->T1.map aP.core=x.T.map aP.core)/\Q T1 z.T w')/\(X->E=0)
theorem aAy (c:fE)(L:List bT)(hL:∀y∈L,y.Ok)(hl:L.length<30)(now:Nat)(hn:now<=aJ)(tx:ByteArray)(htx:tx.size<=200):∃(L3:List bT) (E3:Int),(E3=0->L3=L++[cK c.ka c.kb 0 L now tx])/\(∀y∈L3,y.Ok)/\(jE c.ka c.kb 0 L now tx->E3=0)/\∀(P:Nat->Prop) (l:Hd) (W:World),bS 4 bT.cells W l L->(∀g,W.heap.size<=g->P g)->
  Calls prog 67 #[.agg #[.int .u64 (un c.ka),.int .u64 (un c.kb)],.agg #[.int .u64 0,.slice l.s L.length l.cap],.int .u64 now,.string tx] W λe w'=>∃v,e=.returned v/\sP P L3 E3 v w'/\Below W.heap.size W w':=by
 have hm:(now:Int)<18446744073709551616:=by unfold aJ at hn;omega
 by_cases hy:jE c.ka c.kb 0 L now tx
 .have hB:nG 0 L=0:=by unfold nG;rw[if_neg (by omega)]
  have hLL:iP c.ka c.kb 0 L now tx=L++[cK c.ka c.kb 0 L now tx]:=by unfold iP jM;rw[if_neg (by omega)]
  refine⟨L++[cK c.ka c.kb 0 L now tx],0,λ_=>rfl,?_,λ_=>rfl,λP l W hR hP=> ?_⟩
  .rw[<-hLL];exact aQw c.ka c.kb 0 L hL _ (by omega) hm tx hy
  .have:=aG2 c.ka c.kb 0 (Int.le_refl _) (by decide) L hL l.s l.cap hR.cap hR.nil (now:Int) (by omega) hm tx W (aF7 hR) hy;rw[hB,hLL] at this;refine this.mono ?_;rintro e w' ⟨v,rfl,hO,hb⟩;obtain⟨d,rfl,hd,hf⟩:=aJu hO;exact⟨_,rfl,⟨d,rfl,hd,.of hf hP⟩,hb⟩
 .refine⟨[],160,(λh=>by cases h),(λy hy=>by cases hy),λh=>(hy h).elim,λP l W hR hP=> ?_⟩;refine(aLv c.ka c.kb 0 (Int.le_refl _) (by decide) L hL (by omega) l.s l.cap (now:Int) tx (by omega) W (aF7 hR) hy).mono ?_;rintro e w' ⟨rfl,hb⟩;exact⟨_,rfl,⟨⟨none,0⟩,rfl,bS.none _,λh=>(h rfl).elim⟩,hb⟩
theorem aQ8 (P0:Nat->Prop)(w:World)(b:Nat)(S:List Nat)(hb4:∀k∈b::S,4<=k)(hP0:∀g,P0 g->g≠b/\g∉S/\g<w.heap.size)(hS:∀k∈S,k<w.heap.size)(c:fE)(x:bR)(now:Nat)(hn:now<=aJ)(tx:ByteArray)(htx:tx.size<=200)(hG:aQ w)(h0:dW w b c x)(hx:cX P0 w x)(hl30:x.L.length<30)
  (X:Prop) (hX:X->lG x.T/\(∀z∈x.T,(now:Int)<=(z.seen:Int))/\x.tm<=now/\jE c.ka c.kb 0 x.L now tx) (Q:List aP->List aP->World->Prop) (HQ:∀T T' W W',Q T T' W->bX [b,w.heap.size+1] W W'->Q T T' W') (fn:Nat) (caps:Array Value) (sb:Nat) (hsb:sb∉S) (hs:w.heap[sb]? =some (.cells #[.func (.func fn) #[] caps] 122 (0,0)))
  (hE:∀(args:Array Value) (w:World),(callFunc fn args).run prog w=.ok (.enter fn args) w)
  (HF:∀(y:bR) (W:World),bX [b] w W->w.heap.size+3<=W.heap.size->dW W b c y->cX (λg=>P0 g\/w.heap.size+3<=g) W y->aQ W->y.tm=now->(X->y.T.map aP.core=x.T.map aP.core)->Calls prog fn caps W λe w'=>∃(E:Int) (z:bR),e=.returned (.int .i64 E)/\bX (b::S) W w'/\dW w' b c z/\cX (λg=>P0 g\/w.heap.size+3<=g) w' z/\z.L=y.L/\z.l=y.l/\z.tm=y.tm/\(E=0->Q y.T z.T w')/\(X->E=0)):
  Calls prog 43 #[pv b 0,.int .u64 now,.string tx,.slice (some ⟨sb,0,none⟩) 1 1] w (DoP P0 b S c x now tx X Q w):=by
 have hne:b≠sb:=by rintro rfl;rw[h0] at hs;cases hs
 have f0:=(((((Fr.start w (b::S)).add hs (by simp)).add h0 (by intro x hx;simp at hx;subst hx;exact hne)).alloc (cs:= #[pv b 0]) (T:=60)).alloc (cs:= #[.int .i64 0]) (T:=28));have hbw:=aC h0;have hmf:∀(fn:Fn) (first cap:Array Value) (w:World),(Instr.makeFunc fn first cap).run prog w=.ok (.func fn first cap) w:=λ_ _ _ _=>rfl;have hwS:∀k,w.heap.size<=k->k∉b::S:=λk hk hm=>by
  rcases List.mem_cons.1 hm with rfl|hm
  .omega
  .have:=hS k hm;omega
 have hPb:¬(λg=>P0 g\/w.heap.size+3<=g) b:=λh=>by
  rcases h with h|h
  .exact(hP0 b h).1 rfl
  .omega
 have hPA:∀k,w.heap.size<=k->k<w.heap.size+3->¬(λg=>P0 g\/w.heap.size+3<=g) k:=λk h1 h2 h=>by
  rcases h with h|h
  .have:=(hP0 k h).2.2;omega
  .omega
 have FIN:Hid (∀W E,E≠0->(∃y:bR,Fr w (b::S) [(b,y.cs c,83),(w.heap.size+1+1,#[.slice x.t.s x.T.length x.t.cap,.int .u64 x.nx,.slice x.g.s x.M.length x.g.cap,.int .u64 0,.slice x.l.s x.L.length x.l.cap,.int .u64 x.tm],81),(w.heap.size+1,#[.int .i64 E],28),(w.heap.size,#[pv b 0],60)] W)->CallsD prog 65 #[pv (w.heap.size+1) 0,pv (w.heap.size+1+1) 0,pv w.heap.size 0] .returning W λe u' w'=>u'=.returning/\e=.returned (.tuple #[])/\w'.cell? ⟨w.heap.size+1,0,none⟩=some (.int .i64 E)/\bX (b::S) w w'/\dW w' b c x):=aA (by
  rintro W E hE ⟨y,f⟩;exact aJg S _ _ _ b E hE c x y .returning w W f)
 have HX:=aA hX;have HQ':=aA HQ;have HG:=aA (aB hG (aB hx (aB hwS (aB hPb (aB hPA (aB hb4 (aB hP0 hS)))))));have HF':=aA HF;have HNT:=aA (aB hn (aB htx hl30));clear hX HQ hG hx hwS hPb hPA hb4 hP0 hS HF hn htx hl30 h0 hs;simp only[World.size_alloc,bR.cs] at f0;have rl:=f0.rs
 go_enter_defers func43,ntmps43
 go_wp2_with fail;refine(gD _ _).mono ?_;rintro e w1 ⟨rfl,hw1⟩;subst hw1;go_wp2_with fail;have fa:=(f0.alloc (cs:= #[.slice x.t.s x.T.length x.t.cap,.int .u64 x.nx,.slice x.g.s x.M.length x.g.cap,.int .u64 0,.slice x.l.s x.L.length x.l.cap,.int .u64 x.tm]) (T:=81)).front (l1:=[_,_,_]);simp only[World.size_alloc,List.cons_append,List.nil_append] at fa;clear f0 rl;have hca:Below w.heap.size w (((w.alloc (.cells #[pv b 0] 60)).alloc (.cells #[.int .i64 0] 28)).alloc (.cells #[.slice x.t.s x.T.length x.t.cap,.int .u64 x.nx,.slice x.g.s x.M.length x.g.cap,.int .u64 0,.slice x.l.s x.L.length x.l.cap,.int .u64 x.tm] 81)):=(((Below.refl w.heap.size w).alloc aH _).alloc (by simp) _).alloc (by simp;omega) _;have hxa:=(HG.out.2.1.aWu hca).mono (Q:=(λg=>P0 g\/w.heap.size+3<=g)) (λg h=>.inl h);have hza:w.heap.size+3<=(((w.alloc (.cells #[pv b 0] 60)).alloc (.cells #[.int .i64 0] 28)).alloc (.cells #[.slice x.t.s x.T.length x.t.cap,.int .u64 x.nx,.slice x.g.s x.M.length x.g.cap,.int .u64 0,.slice x.l.s x.L.length x.l.cap,.int .u64 x.tm] 81)).heap.size:=by simp
 have hGa:=HG.out.1.aWu hca;generalize(((w.alloc (.cells #[pv b 0] 60)).alloc (.cells #[.int .i64 0] 28)).alloc (.cells #[.slice x.t.s x.T.length x.t.cap,.int .u64 x.nx,.slice x.g.s x.M.length x.g.cap,.int .u64 0,.slice x.l.s x.L.length x.l.cap,.int .u64 x.tm] 81))=wa at*;refine(aE0 (λg=>P0 g\/w.heap.size+3<=g) b HG.out.2.2.2.1 c x now HNT.out.1 wa (λg h=>.inr (by omega)) (HG.out.2.2.2.2.2.1 b (by simp)) hGa (fa.blk 0 rfl) hxa).mono ?_;rintro e w1 ⟨E1,y,rfl,m1,m2,m3,m4,m5,hy,hc1,hb1,ht1,hx1⟩;have f1:=fa.row (bl:=[_,_,_,_]) hc1 (by simp) hb1 (by intro z hz;simp at hz;rcases hz with rfl|rfl|rfl|rfl<;>simp<;>omega);simp only[bR.cs] at f1;have rl:=f1.rl;have f2:=f1.sx 2 (A:=w.heap.size+1) rfl (.inr (by omega)) (o:=0) (v:=.int .i64 E1);have HFB:=aA (((bX.of (S:=[b]) hca).trans hc1 (by simp)).set (A:=w.heap.size+1) (o:=0) (v:=.int .i64 E1) (.inr (by omega)));have hy2:=hy.fr ((bX.refl [w.heap.size+1] w1).set (A:=w.heap.size+1) (o:=0) (v:=.int .i64 E1) (.inl (by simp))) (by intro g hg;simp at hg;subst hg;exact HG.out.2.2.2.2.1 _ (by omega) (by omega));have hG2:aQ (w1.setCell ⟨w.heap.size+1,0,none⟩ (.int .i64 E1)):=(hGa.fr hc1 (by intro k hk;simp at hk;subst hk;exact HG.out.2.2.2.2.2.1 k (by simp))).fr ((bX.refl [w.heap.size+1] w1).set (A:=w.heap.size+1) (o:=0) (v:=.int .i64 E1) (.inl (by simp))) (by intro k hk;simp at hk;subst hk;have:=HG.out.2.2.2.2.2.1 b (by simp);omega);have HY:=aA (aB hy2 (aB hG2 (aB m4 (aB m5 (aB ht1 hx1)))));have HZ:=aA (show∀w',bX (b::S) w w'->cX (λg=>P0 g\/w.heap.size+3<=g) w' x from λw' h=>(HG.out.2.1.fr h (by intro g hg hp;have:=HG.out.2.2.2.2.2.2.1 g hp;rcases List.mem_cons.1 hg with e|e;exact this.1 e;exact this.2.1 e)).mono (λg h=>.inl h));clear m1 m2 m3 m4 m5 hy hc1 hb1 ht1 hx1 fa hca hxa hza hGa hy2 hG2
 by_cases hE1:E1=0
 rotate_left
 .have hEb:(E1 !=0)=true:=by simpa using hE1
  have HE1:=aA hE1;clear hE1;go_wp2_with fail;have f9:=f2.sx 2 (A:=w.heap.size+1) rfl (.inr (by omega)) (o:=0) (v:=.int .i64 E1);refine leaves_cons (f:=65) (args:= #[pv (w.heap.size+1) 0,pv (w.heap.size+1+1) 0,pv w.heap.size 0]) (by simp) (by simp[go_sem]) ?_;refine(FIN.out _ E1 HE1.out ⟨y,f9.less _ (.cons_cons _ (.cons_cons _ (.cons_cons _ (.cons_cons _ (List.nil_sublist _)))))⟩).mono ?_;rintro e u' w'' ⟨rfl,rfl,hc9,hfr9,hta9⟩;exact⟨.int .i64 E1,by simp[results,results43,go_sem,hc9],E1,x,rfl,hfr9,hta9,HZ.out _ hfr9,λ_=>rfl,λh=>(HE1.out h).elim,λhX'=>absurd (HY.out.2.2.2.2.2 ⟨(HX.out hX').1,(HX.out hX').2.1,(HX.out hX').2.2.1⟩).1 HE1.out⟩
 subst hE1;go_wp2_with fail;generalize w1.setCell ⟨w.heap.size+1,0,none⟩ (.int .i64 0)=w2 at*;have rl:=f2.rl;clear f1;refine wp_loop_rounds 2 ?_;rw[rounds_succ];go_wp2_with fail;refine(HF'.out y w2 HFB.out (by have:=HFB.out.size;have:=aC (f2.blk 1 rfl);omega) (f2.blk 0 rfl) HY.out.1 HY.out.2.1 (HY.out.2.2.2.2.1 (by simp)).2 (λhX'=>(HY.out.2.2.2.2.2 ⟨(HX.out hX').1,(HX.out hX').2.1,(HX.out hX').2.2.1⟩).2)).mono ?_;rintro e w3 ⟨E2,z,rfl,hc3,hb3,hz,hzL,hzl,hzt,hq,hx2⟩;have f3:=f2.row (bl:=[_,_,_,_]) hc3 (λk hk=>.inl hk) hb3 (by intro x hx;simp only[List.mem_cons,List.not_mem_nil,or_false] at hx;rcases hx with rfl|rfl|rfl|rfl;exact HG.out.2.2.1 _ (by simp<;>omega);exact HG.out.2.2.1 _ (by simp<;>omega);exact HG.out.2.2.1 _ (by simp<;>omega);exact λhm=>by rcases List.mem_cons.1 hm with e|e;exact hne e.symm;exact hsb e);simp only[bR.cs] at f3;have f4:=f3.sx 2 (A:=w.heap.size+1) rfl (.inr (by omega)) (o:=0) (v:=.int .i64 E2);have hz4:=hz.fr ((bX.refl [w.heap.size+1] w3).set (A:=w.heap.size+1) (o:=0) (v:=.int .i64 E2) (.inl (by simp))) (by intro g hg;simp at hg;subst hg;exact HG.out.2.2.2.2.1 _ (by omega) (by omega));have HQ3:=aA (aB hq hx2);have HZ4:=aA (aB hz4 (aB hzL (aB hzl hzt)));have HQ4:=aA (λT h=>HQ'.out T z.T _ _ h ((bX.refl [b,w.heap.size+1] w3).set (A:=w.heap.size+1) (o:=0) (v:=.int .i64 E2) (.inl (by simp))));have rl:=f3.rl;clear hc3 hb3 hz hzL hzl hzt hq hx2 HF' f2 HFB hz4
 by_cases hE2:E2=0
 rotate_left
 .have hEb:(E2 !=0)=true:=by simpa using hE2
  have HE2:=aA hE2;clear hE2;go_wp2_with fail;have f9:=f4.sx 2 (A:=w.heap.size+1) rfl (.inr (by omega)) (o:=0) (v:=.int .i64 E2);refine leaves_cons (f:=65) (args:= #[pv (w.heap.size+1) 0,pv (w.heap.size+1+1) 0,pv w.heap.size 0]) (by simp) (by simp[go_sem]) ?_;refine(FIN.out _ E2 HE2.out ⟨z,f9.less _ (.cons_cons _ (.cons_cons _ (.cons_cons _ (.cons_cons _ (List.nil_sublist _)))))⟩).mono ?_;rintro e u' w'' ⟨rfl,rfl,hc9,hfr9,hta9⟩;exact⟨.int .i64 E2,by simp[results,results43,go_sem,hc9],E2,x,rfl,hfr9,hta9,HZ.out _ hfr9,λ_=>rfl,λh=>(HE2.out h).elim,λhX'=>absurd (HQ3.out.2 hX') HE2.out⟩
 subst hE2;go_wp2_with fail;generalize w3.setCell ⟨w.heap.size+1,0,none⟩ (.int .i64 0)=wr at*;have rl:=f4.rl;clear f3;rw[rounds_succ];go_wp2_with fail;have HLK:=aA (aB HZ4.out.1 (aB (HZ4.out.2.1.trans HY.out.2.2.1) (aB (HZ4.out.2.2.2.trans (HY.out.2.2.2.2.1 (by simp)).2) (show w.heap.size+3<=wr.heap.size by have:=aC (f4.blk 1 rfl);omega))));obtain⟨L3,E3,hL3,hok3,hye3,hap⟩:=aAy c z.L HLK.out.1.lok (by rw[HLK.out.2.1];exact HNT.out.2.2) z.tm HLK.out.1.tm tx HNT.out.2.1;have HAP:=aA (λW (hW:Below wr.heap.size wr W)=>hap (λg=>P0 g\/w.heap.size+3<=g) z.l W (HLK.out.1.l.aWu hW) (λg hg=>.inr (by have:=hW.size;have:=HLK.out.2.2.2;omega)));have HA3:=aA (aB hL3 (aB hok3 hye3));clear hL3 hok3 hye3 hap;have rl:=f4.rl;go_wp2_with fail;refine rE (f4.st) 23 [19] [.val (pv b 0),.val (pv b 0),.val (pv b 0),.val (pv b 9),.val (.agg #[.int .u64 (un c.ka),.int .u64 (un c.kb)]),.val (pv b 0),.val (pv b 0),.val (pv b 0),.val (pv b 3),.val (.agg #[.int .u64 0,.slice z.l.s z.L.length z.l.cap]),.val (pv b 0),.val (pv b 0),.val (pv b 0),.val (pv b 5),.val (.int .u64 z.tm),.val (.string tx),.fct (sP (λg=>P0 g\/w.heap.size+3<=g) L3 E3) (rB _ _ _),.fct (sP (λg=>P0 g\/w.heap.size+3<=g) L3 E3) (rB _ _ _),.fct (aTy (λg=>P0 g\/w.heap.size+3<=g) L3) (aDi _ _),.val (.int .i64 E3),.val (pv b 0),.val (pv b 0),.val (pv b 3)] ?spec ?late ?endd (hQ:=λq oq d hq ho hd v c a w h=>leaves_put (resDo (by simp only[List.mem_singleton] at hq;subst hq;cases ho;cases hd;decide)) _ _ _ h)
 case spec=>
  refine⟨?_,?_,?_,?_,?_,?_,?_,?_,?_,?_,?_,?_,?_,?_,?_,?_,?_,?_,?_,?_,?_,?_,?_,trivial⟩
  all_goals(intro ρ W kc kf hW sW rl hu hd;simp only[aI] at rl)
  have u4:ρ (.tmp 4)=pv w.heap.size 0:=cR hu 4;rotate_left;have u4:ρ (.tmp 4)=pv w.heap.size 0:=cR hu 4;rotate_left;have u39:ρ (.tmp 39)=_:=aK hd 1 39;rotate_left;have u40:ρ (.tmp 40)=_:=aK hd 2 40;rotate_left;have u41:ρ (.tmp 41)=_:=aK hd 3 41;rotate_left;have u4:ρ (.tmp 4)=pv w.heap.size 0:=cR hu 4;rotate_left;have u43:ρ (.tmp 43)=_:=aK hd 5 43;rotate_left;have u44:ρ (.tmp 44)=_:=aK hd 6 44;rotate_left;have u45:ρ (.tmp 45)=_:=aK hd 7 45;rotate_left;have u46:ρ (.tmp 46)=_:=aK hd 8 46;rotate_left;have u4:ρ (.tmp 4)=pv w.heap.size 0:=cR hu 4;rotate_left;have u48:ρ (.tmp 48)=_:=aK hd 10 48;rotate_left;have u49:ρ (.tmp 49)=_:=aK hd 11 49;rotate_left;have u50:ρ (.tmp 50)=_:=aK hd 12 50;rotate_left;have u51:ρ (.tmp 51)=_:=aK hd 13 51;rotate_left;have u2:ρ (.tmp 2)=.string tx:=cR hu 2;rotate_left
  .have u42:ρ (.tmp 42)=_:=aK hd 4 42;have u47:ρ (.tmp 47)=_:=aK hd 9 47;have u52:ρ (.tmp 52)=_:=aK hd 14 52;have u53:ρ (.tmp 53)=_:=aK hd 15 53;refine aF rfl ?_;go_simp;refine⟨aW,(HAP.out W hW).mono ?_⟩;rintro e w' ⟨v9,rfl,t9,hb'⟩;exact⟨_,rfl,hb',t9⟩
  .have f54:sP (λg=>P0 g\/w.heap.size+3<=g) L3 E3 (ρ (.tmp 54)) W:=aK hd 16 54;obtain⟨d9,u54,h9,a9⟩:=f54;refine aF rfl ?_;go_simp;exact aG ⟨d9,rfl,h9,a9⟩
  .have f37:sP (λg=>P0 g\/w.heap.size+3<=g) L3 E3 (ρ (.tmp 37)) W:=aK hd 17 37;obtain⟨d9,u37,h9,a9⟩:=f37;refine aF rfl ?_;go_simp;exact aG ⟨d9,rfl,h9,a9⟩
  have f37:sP (λg=>P0 g\/w.heap.size+3<=g) L3 E3 (ρ (.tmp 37)) W:=aK hd 17 37;obtain⟨d9,u37,h9,a9⟩:=f37;rotate_left;have u38:ρ (.tmp 38)=_:=aK hd 0 38;rotate_left;have u57:ρ (.tmp 57)=_:=aK hd 20 57;rotate_left;have u58:ρ (.tmp 58)=_:=aK hd 21 58;rotate_left
  all_goals(refine aF rfl ?_;go_simp;exact aG rfl)
 case late=>
  intro q hqm oq hoq ρ W kc hu hd;simp only[List.mem_cons,List.not_mem_nil,or_false] at hqm;rcases hqm with rfl
  .cases hoq;obtain⟨d9,u37,h9,a9⟩:sP (λg=>P0 g\/w.heap.size+3<=g) L3 E3 (ρ (.tmp 37)) W:=aK hd 17 37;refine⟨.int .i64 E3,λW'=> ?_,λ_=>rfl⟩;go_simp
 case endd=>
  rintro v W hW sW rl ⟨h16,h17,h18,-⟩;simp only[aI] at rl;obtain⟨⟨ds9,dc9⟩,v18,hd9,ha9⟩:=h18;rw[v18];clear h16 h17 v18;generalize v 16=v16 at*;generalize v 17=v17 at*;simp only;have f5:=f4.to hW;have hWz:=hW.size;have HD9:=aA (aB hd9 (aB ha9 hW));have hA8:w.heap.size+1<W.heap.size:=aC (f5.blk 2 rfl);have hb8:b<W.heap.size:=aC (f5.blk 0 rfl);clear hd9 ha9 hW sW HAP f4;go_wp2_with fail;have f6a:=f5.sx 0 (A:=b) rfl (.inl (by simp)) (o:=3) (v:=.int .u64 0);have f6:=f6a.sx 0 (A:=b) rfl (.inl (by simp)) (o:=4) (v:=.slice ds9 L3.length dc9);have f7:=f6.sx 2 (A:=w.heap.size+1) rfl (.inr (by omega)) (o:=0) (v:=.int .i64 E3);have f8:=f7.sx 2 (A:=w.heap.size+1) rfl (.inr (by omega)) (o:=0) (v:=.int .i64 E3);have hfz:bX [b,w.heap.size+1] W _:=((((bX.refl [b,w.heap.size+1] W).set (A:=b) (o:=3) (v:=.int .u64 0) (.inl (by simp))).set (A:=b) (o:=4) (v:=.slice ds9 L3.length dc9) (.inl (by simp))).set (A:=w.heap.size+1) (o:=0) (v:=.int .i64 E3) (.inl (by simp))).set (A:=w.heap.size+1) (o:=0) (v:=.int .i64 E3) (.inl (by simp));generalize(((W.setCell ⟨b,3,none⟩ (.int .u64 0)).setCell ⟨b,4,none⟩ (.slice ds9 L3.length dc9)).setCell ⟨w.heap.size+1,0,none⟩ (.int .i64 E3)).setCell ⟨w.heap.size+1,0,none⟩ (.int .i64 E3)=wz at*;clear f5 f6a f6 f7
  by_cases hE3:E3=0
  rotate_left
  .refine leaves_cons (f:=65) (args:= #[pv (w.heap.size+1) 0,pv (w.heap.size+1+1) 0,pv w.heap.size 0]) (by simp) (by simp[go_sem]) ?_;refine(FIN.out _ E3 hE3 ⟨{z with L:=L3,l:=⟨ds9,dc9⟩},f8.less _ (.cons_cons _ (.cons_cons _ (.cons_cons _ (.cons_cons _ (List.nil_sublist _)))))⟩).mono ?_;rintro e u' w'' ⟨rfl,rfl,hc9,hfr9,hta9⟩;exact⟨.int .i64 E3,by simp[results,results43,go_sem,hc9],E3,x,rfl,hfr9,hta9,HZ.out _ hfr9,λ_=>rfl,λh=>(hE3 h).elim,λhX'=>HA3.out.2.2 (by rw[HLK.out.2.1,HLK.out.2.2.1];exact(HX.out hX').2.2.2)⟩
  subst hE3;have hce:wz.cell? ⟨w.heap.size+1,0,none⟩=some (.int .i64 0):=aE (f8.blk 2 rfl) 0;refine leaves_cons (f:=65) (args:= #[pv (w.heap.size+1) 0,pv (w.heap.size+1+1) 0,pv w.heap.size 0]) (by simp) (by simp[go_sem]) ?_;refine(aO8 _ _ _ _ .returning wz hce).mono ?_;rintro e u' w'' ⟨rfl,rfl,rfl⟩;have hno:∀g∈[b,w.heap.size+1],¬(λg=>P0 g\/w.heap.size+3<=g) g:=by
   intro g hg;simp at hg;rcases hg with rfl|rfl
   .exact HG.out.2.2.2.1
   .exact HG.out.2.2.2.2.1 _ (by omega) (by omega)
  have ho:=(HLK.out.1.aWu HD9.out.2.2).fr hfz hno;exact⟨.int .i64 0,by simp[results,results43,go_sem,hce],0,{z with L:=L3,l:=⟨ds9,dc9⟩},rfl,f8.fr,f8.blk 0 rfl,⟨ho.t,ho.g,ho.gok,ho.gf,ho.nx,fX HD9.out.1 HD9.out.2.1 hfz hno,HA3.out.2.1,HD9.out.2.1,ho.tm⟩,λh=>(h rfl).elim,λ_=>⟨by rw[<-HLK.out.2.1,<-HLK.out.2.2.1];exact HA3.out.1 rfl,HLK.out.2.2.1,(HY.out.2.2.2.2.1 (by simp)).1,y.T,λhX'=>(HY.out.2.2.2.2.2 ⟨(HX.out hX').1,(HX.out hX').2.1,(HX.out hX').2.2.1⟩).2,HQ'.out _ _ _ _ (HQ'.out _ _ _ _ (HQ4.out _ (HQ3.out.1 (by simp))) (bX.of HD9.out.2.2)) hfz⟩,λ_=>rfl⟩
theorem aRd (P0:Nat->Prop)(w:World)(b:Nat)(S:List Nat)(hb4:∀k∈b::S,4<=k)(hP0:∀g,P0 g->g≠b/\g∉S/\g<w.heap.size)(hS:∀k∈S,k<w.heap.size)(c:fE)(x:bR)(now:Nat)(hn:now<=aJ)(tx:ByteArray)(htx:tx.size<=200)(hG:aQ w)(h0:dW w b c x)(hx:cX P0 w x)(hl30:x.L.length<30)
  (X:Prop) (hX:X->lG x.T/\(∀z∈x.T,(now:Int)<=(z.seen:Int))/\x.tm<=now/\jE c.ka c.kb 0 x.L now tx) (Q:List aP->List aP->World->Prop) (HQ:∀T T' W W',Q T T' W->bX [b,w.heap.size+1] W W'->Q T T' W')
  (HF:∀(y:bR) (W:World),(X->y.T.map aP.core=x.T.map aP.core)->Q y.T y.T W):
  Calls prog 43 #[pv b 0,.int .u64 now,.string tx,.slice none 0 0] w (DoP P0 b S c x now tx X Q w):=by
 have f0:=((((Fr.start w (b::S)).add h0 (by simp)).alloc (cs:= #[pv b 0]) (T:=60)).alloc (cs:= #[.int .i64 0]) (T:=28));have hbw:=aC h0;have hmf:∀(fn:Fn) (first cap:Array Value) (w:World),(Instr.makeFunc fn first cap).run prog w=.ok (.func fn first cap) w:=λ_ _ _ _=>rfl;have hwS:∀k,w.heap.size<=k->k∉b::S:=λk hk hm=>by
  rcases List.mem_cons.1 hm with rfl|hm
  .omega
  .have:=hS k hm;omega
 have hPb:¬(λg=>P0 g\/w.heap.size+3<=g) b:=λh=>by
  rcases h with h|h
  .exact(hP0 b h).1 rfl
  .omega
 have hPA:∀k,w.heap.size<=k->k<w.heap.size+3->¬(λg=>P0 g\/w.heap.size+3<=g) k:=λk h1 h2 h=>by
  rcases h with h|h
  .have:=(hP0 k h).2.2;omega
  .omega
 have FIN:Hid (∀W E,E≠0->(∃y:bR,Fr w (b::S) [(b,y.cs c,83),(w.heap.size+1+1,#[.slice x.t.s x.T.length x.t.cap,.int .u64 x.nx,.slice x.g.s x.M.length x.g.cap,.int .u64 0,.slice x.l.s x.L.length x.l.cap,.int .u64 x.tm],81),(w.heap.size+1,#[.int .i64 E],28),(w.heap.size,#[pv b 0],60)] W)->CallsD prog 65 #[pv (w.heap.size+1) 0,pv (w.heap.size+1+1) 0,pv w.heap.size 0] .returning W λe u' w'=>u'=.returning/\e=.returned (.tuple #[])/\w'.cell? ⟨w.heap.size+1,0,none⟩=some (.int .i64 E)/\bX (b::S) w w'/\dW w' b c x):=aA (by
  rintro W E hE ⟨y,f⟩;exact aJg S _ _ _ b E hE c x y .returning w W f)
 have HX:=aA hX;have HQ':=aA HQ;have HG:=aA (aB hG (aB hx (aB hwS (aB hPb (aB hPA (aB hb4 (aB hP0 hS)))))));have HF':=aA HF;have HNT:=aA (aB hn (aB htx hl30));clear hX HQ hG hx hwS hPb hPA hb4 hP0 hS HF hn htx hl30 h0;simp only[World.size_alloc,bR.cs] at f0;have rl:=f0.rs
 go_enter_defers func43,ntmps43
 go_wp2_with fail;refine(gD _ _).mono ?_;rintro e w1 ⟨rfl,hw1⟩;subst hw1;go_wp2_with fail;have fa:=(f0.alloc (cs:= #[.slice x.t.s x.T.length x.t.cap,.int .u64 x.nx,.slice x.g.s x.M.length x.g.cap,.int .u64 0,.slice x.l.s x.L.length x.l.cap,.int .u64 x.tm]) (T:=81)).front (l1:=[_,_,_]);simp only[World.size_alloc,List.cons_append,List.nil_append] at fa;clear f0 rl;have hca:Below w.heap.size w (((w.alloc (.cells #[pv b 0] 60)).alloc (.cells #[.int .i64 0] 28)).alloc (.cells #[.slice x.t.s x.T.length x.t.cap,.int .u64 x.nx,.slice x.g.s x.M.length x.g.cap,.int .u64 0,.slice x.l.s x.L.length x.l.cap,.int .u64 x.tm] 81)):=(((Below.refl w.heap.size w).alloc aH _).alloc (by simp) _).alloc (by simp;omega) _;have hxa:=(HG.out.2.1.aWu hca).mono (Q:=(λg=>P0 g\/w.heap.size+3<=g)) (λg h=>.inl h);have hza:w.heap.size+3<=(((w.alloc (.cells #[pv b 0] 60)).alloc (.cells #[.int .i64 0] 28)).alloc (.cells #[.slice x.t.s x.T.length x.t.cap,.int .u64 x.nx,.slice x.g.s x.M.length x.g.cap,.int .u64 0,.slice x.l.s x.L.length x.l.cap,.int .u64 x.tm] 81)).heap.size:=by simp
 have hGa:=HG.out.1.aWu hca;generalize(((w.alloc (.cells #[pv b 0] 60)).alloc (.cells #[.int .i64 0] 28)).alloc (.cells #[.slice x.t.s x.T.length x.t.cap,.int .u64 x.nx,.slice x.g.s x.M.length x.g.cap,.int .u64 0,.slice x.l.s x.L.length x.l.cap,.int .u64 x.tm] 81))=wa at*;refine(aE0 (λg=>P0 g\/w.heap.size+3<=g) b HG.out.2.2.2.1 c x now HNT.out.1 wa (λg h=>.inr (by omega)) (HG.out.2.2.2.2.2.1 b (by simp)) hGa (fa.blk 0 rfl) hxa).mono ?_;rintro e w1 ⟨E1,y,rfl,m1,m2,m3,m4,m5,hy,hc1,hb1,ht1,hx1⟩;have f1:=fa.row (bl:=[_,_,_]) hc1 (by simp) hb1 (by intro z hz;simp at hz;rcases hz with rfl|rfl|rfl<;>simp<;>omega);simp only[bR.cs] at f1;have rl:=f1.rl;have f2:=f1.sx 2 (A:=w.heap.size+1) rfl (.inr (by omega)) (o:=0) (v:=.int .i64 E1);have HFB:=aA (((bX.of (S:=[b]) hca).trans hc1 (by simp)).set (A:=w.heap.size+1) (o:=0) (v:=.int .i64 E1) (.inr (by omega)));have hy2:=hy.fr ((bX.refl [w.heap.size+1] w1).set (A:=w.heap.size+1) (o:=0) (v:=.int .i64 E1) (.inl (by simp))) (by intro g hg;simp at hg;subst hg;exact HG.out.2.2.2.2.1 _ (by omega) (by omega));have hG2:aQ (w1.setCell ⟨w.heap.size+1,0,none⟩ (.int .i64 E1)):=(hGa.fr hc1 (by intro k hk;simp at hk;subst hk;exact HG.out.2.2.2.2.2.1 k (by simp))).fr ((bX.refl [w.heap.size+1] w1).set (A:=w.heap.size+1) (o:=0) (v:=.int .i64 E1) (.inl (by simp))) (by intro k hk;simp at hk;subst hk;have:=HG.out.2.2.2.2.2.1 b (by simp);omega);have HY:=aA (aB hy2 (aB hG2 (aB m4 (aB m5 (aB ht1 hx1)))));have HZ:=aA (show∀w',bX (b::S) w w'->cX (λg=>P0 g\/w.heap.size+3<=g) w' x from λw' h=>(HG.out.2.1.fr h (by intro g hg hp;have:=HG.out.2.2.2.2.2.2.1 g hp;rcases List.mem_cons.1 hg with e|e;exact this.1 e;exact this.2.1 e)).mono (λg h=>.inl h));clear m1 m2 m3 m4 m5 hy hc1 hb1 ht1 hx1 fa hca hxa hza hGa hy2 hG2
 by_cases hE1:E1=0
 rotate_left
 .have hEb:(E1 !=0)=true:=by simpa using hE1
  have HE1:=aA hE1;clear hE1;go_wp2_with fail;have f9:=f2.sx 2 (A:=w.heap.size+1) rfl (.inr (by omega)) (o:=0) (v:=.int .i64 E1);refine leaves_cons (f:=65) (args:= #[pv (w.heap.size+1) 0,pv (w.heap.size+1+1) 0,pv w.heap.size 0]) (by simp) (by simp[go_sem]) ?_;refine(FIN.out _ E1 HE1.out ⟨y,f9⟩).mono ?_;rintro e u' w'' ⟨rfl,rfl,hc9,hfr9,hta9⟩;exact⟨.int .i64 E1,by simp[results,results43,go_sem,hc9],E1,x,rfl,hfr9,hta9,HZ.out _ hfr9,λ_=>rfl,λh=>(HE1.out h).elim,λhX'=>absurd (HY.out.2.2.2.2.2 ⟨(HX.out hX').1,(HX.out hX').2.1,(HX.out hX').2.2.1⟩).1 HE1.out⟩
 subst hE1;go_wp2_with fail;generalize w1.setCell ⟨w.heap.size+1,0,none⟩ (.int .i64 0)=w2 at*;have rl:=f2.rl;clear f1;refine wp_loop_rounds 1 ?_;rw[rounds_succ];go_wp2_with fail;have HLK:=aA (aB HY.out.1 (aB HY.out.2.2.1 (aB (HY.out.2.2.2.2.1 (by simp)).2 (show w.heap.size+3<=w2.heap.size by have:=aC (f2.blk 1 rfl);omega))));have HQ4:=aA (HF'.out y w2);generalize w2=wr at*;obtain⟨L3,E3,hL3,hok3,hye3,hap⟩:=aAy c y.L HLK.out.1.lok (by rw[HLK.out.2.1];exact HNT.out.2.2) y.tm HLK.out.1.tm tx HNT.out.2.1;have HAP:=aA (λW (hW:Below wr.heap.size wr W)=>hap (λg=>P0 g\/w.heap.size+3<=g) y.l W (HLK.out.1.l.aWu hW) (λg hg=>.inr (by have:=hW.size;have:=HLK.out.2.2.2;omega)));have HA3:=aA (aB hL3 (aB hok3 hye3));clear hL3 hok3 hye3 hap;have rl:=f2.rl;go_wp2_with fail;refine rE (f2.st) 23 [19] [.val (pv b 0),.val (pv b 0),.val (pv b 0),.val (pv b 9),.val (.agg #[.int .u64 (un c.ka),.int .u64 (un c.kb)]),.val (pv b 0),.val (pv b 0),.val (pv b 0),.val (pv b 3),.val (.agg #[.int .u64 0,.slice y.l.s y.L.length y.l.cap]),.val (pv b 0),.val (pv b 0),.val (pv b 0),.val (pv b 5),.val (.int .u64 y.tm),.val (.string tx),.fct (sP (λg=>P0 g\/w.heap.size+3<=g) L3 E3) (rB _ _ _),.fct (sP (λg=>P0 g\/w.heap.size+3<=g) L3 E3) (rB _ _ _),.fct (aTy (λg=>P0 g\/w.heap.size+3<=g) L3) (aDi _ _),.val (.int .i64 E3),.val (pv b 0),.val (pv b 0),.val (pv b 3)] ?spec ?late ?endd (hQ:=λq oq d hq ho hd v c a w h=>leaves_put (resDo (by simp only[List.mem_singleton] at hq;subst hq;cases ho;cases hd;decide)) _ _ _ h)
 case spec=>
  refine⟨?_,?_,?_,?_,?_,?_,?_,?_,?_,?_,?_,?_,?_,?_,?_,?_,?_,?_,?_,?_,?_,?_,?_,trivial⟩
  all_goals(intro ρ W kc kf hW sW rl hu hd;simp only[aI] at rl)
  have u4:ρ (.tmp 4)=pv w.heap.size 0:=cR hu 4;rotate_left;have u4:ρ (.tmp 4)=pv w.heap.size 0:=cR hu 4;rotate_left;have u39:ρ (.tmp 39)=_:=aK hd 1 39;rotate_left;have u40:ρ (.tmp 40)=_:=aK hd 2 40;rotate_left;have u41:ρ (.tmp 41)=_:=aK hd 3 41;rotate_left;have u4:ρ (.tmp 4)=pv w.heap.size 0:=cR hu 4;rotate_left;have u43:ρ (.tmp 43)=_:=aK hd 5 43;rotate_left;have u44:ρ (.tmp 44)=_:=aK hd 6 44;rotate_left;have u45:ρ (.tmp 45)=_:=aK hd 7 45;rotate_left;have u46:ρ (.tmp 46)=_:=aK hd 8 46;rotate_left;have u4:ρ (.tmp 4)=pv w.heap.size 0:=cR hu 4;rotate_left;have u48:ρ (.tmp 48)=_:=aK hd 10 48;rotate_left;have u49:ρ (.tmp 49)=_:=aK hd 11 49;rotate_left;have u50:ρ (.tmp 50)=_:=aK hd 12 50;rotate_left;have u51:ρ (.tmp 51)=_:=aK hd 13 51;rotate_left;have u2:ρ (.tmp 2)=.string tx:=cR hu 2;rotate_left
  .have u42:ρ (.tmp 42)=_:=aK hd 4 42;have u47:ρ (.tmp 47)=_:=aK hd 9 47;have u52:ρ (.tmp 52)=_:=aK hd 14 52;have u53:ρ (.tmp 53)=_:=aK hd 15 53;refine aF rfl ?_;go_simp;refine⟨aW,(HAP.out W hW).mono ?_⟩;rintro e w' ⟨v9,rfl,t9,hb'⟩;exact⟨_,rfl,hb',t9⟩
  .have f54:sP (λg=>P0 g\/w.heap.size+3<=g) L3 E3 (ρ (.tmp 54)) W:=aK hd 16 54;obtain⟨d9,u54,h9,a9⟩:=f54;refine aF rfl ?_;go_simp;exact aG ⟨d9,rfl,h9,a9⟩
  .have f37:sP (λg=>P0 g\/w.heap.size+3<=g) L3 E3 (ρ (.tmp 37)) W:=aK hd 17 37;obtain⟨d9,u37,h9,a9⟩:=f37;refine aF rfl ?_;go_simp;exact aG ⟨d9,rfl,h9,a9⟩
  have f37:sP (λg=>P0 g\/w.heap.size+3<=g) L3 E3 (ρ (.tmp 37)) W:=aK hd 17 37;obtain⟨d9,u37,h9,a9⟩:=f37;rotate_left;have u38:ρ (.tmp 38)=_:=aK hd 0 38;rotate_left;have u57:ρ (.tmp 57)=_:=aK hd 20 57;rotate_left;have u58:ρ (.tmp 58)=_:=aK hd 21 58;rotate_left
  all_goals(refine aF rfl ?_;go_simp;exact aG rfl)
 case late=>
  intro q hqm oq hoq ρ W kc hu hd;simp only[List.mem_cons,List.not_mem_nil,or_false] at hqm;rcases hqm with rfl
  .cases hoq;obtain⟨d9,u37,h9,a9⟩:sP (λg=>P0 g\/w.heap.size+3<=g) L3 E3 (ρ (.tmp 37)) W:=aK hd 17 37;refine⟨.int .i64 E3,λW'=> ?_,λ_=>rfl⟩;go_simp
 case endd=>
  rintro v W hW sW rl ⟨h16,h17,h18,-⟩;simp only[aI] at rl;obtain⟨⟨ds9,dc9⟩,v18,hd9,ha9⟩:=h18;rw[v18];clear h16 h17 v18;generalize v 16=v16 at*;generalize v 17=v17 at*;simp only;have f5:=f2.to hW;have hWz:=hW.size;have HD9:=aA (aB hd9 (aB ha9 hW));have hA8:w.heap.size+1<W.heap.size:=aC (f5.blk 2 rfl);have hb8:b<W.heap.size:=aC (f5.blk 0 rfl);clear hd9 ha9 hW sW HAP f2;go_wp2_with fail;have f6a:=f5.sx 0 (A:=b) rfl (.inl (by simp)) (o:=3) (v:=.int .u64 0);have f6:=f6a.sx 0 (A:=b) rfl (.inl (by simp)) (o:=4) (v:=.slice ds9 L3.length dc9);have f7:=f6.sx 2 (A:=w.heap.size+1) rfl (.inr (by omega)) (o:=0) (v:=.int .i64 E3);have f8:=f7.sx 2 (A:=w.heap.size+1) rfl (.inr (by omega)) (o:=0) (v:=.int .i64 E3);have hfz:bX [b,w.heap.size+1] W _:=((((bX.refl [b,w.heap.size+1] W).set (A:=b) (o:=3) (v:=.int .u64 0) (.inl (by simp))).set (A:=b) (o:=4) (v:=.slice ds9 L3.length dc9) (.inl (by simp))).set (A:=w.heap.size+1) (o:=0) (v:=.int .i64 E3) (.inl (by simp))).set (A:=w.heap.size+1) (o:=0) (v:=.int .i64 E3) (.inl (by simp));generalize(((W.setCell ⟨b,3,none⟩ (.int .u64 0)).setCell ⟨b,4,none⟩ (.slice ds9 L3.length dc9)).setCell ⟨w.heap.size+1,0,none⟩ (.int .i64 E3)).setCell ⟨w.heap.size+1,0,none⟩ (.int .i64 E3)=wz at*;clear f5 f6a f6 f7
  by_cases hE3:E3=0
  rotate_left
  .refine leaves_cons (f:=65) (args:= #[pv (w.heap.size+1) 0,pv (w.heap.size+1+1) 0,pv w.heap.size 0]) (by simp) (by simp[go_sem]) ?_;refine(FIN.out _ E3 hE3 ⟨{y with L:=L3,l:=⟨ds9,dc9⟩},f8⟩).mono ?_;rintro e u' w'' ⟨rfl,rfl,hc9,hfr9,hta9⟩;exact⟨.int .i64 E3,by simp[results,results43,go_sem,hc9],E3,x,rfl,hfr9,hta9,HZ.out _ hfr9,λ_=>rfl,λh=>(hE3 h).elim,λhX'=>HA3.out.2.2 (by rw[HLK.out.2.1,HLK.out.2.2.1];exact(HX.out hX').2.2.2)⟩
  subst hE3;have hce:wz.cell? ⟨w.heap.size+1,0,none⟩=some (.int .i64 0):=aE (f8.blk 2 rfl) 0;refine leaves_cons (f:=65) (args:= #[pv (w.heap.size+1) 0,pv (w.heap.size+1+1) 0,pv w.heap.size 0]) (by simp) (by simp[go_sem]) ?_;refine(aO8 _ _ _ _ .returning wz hce).mono ?_;rintro e u' w'' ⟨rfl,rfl,rfl⟩;have hno:∀g∈[b,w.heap.size+1],¬(λg=>P0 g\/w.heap.size+3<=g) g:=by
   intro g hg;simp at hg;rcases hg with rfl|rfl
   .exact HG.out.2.2.2.1
   .exact HG.out.2.2.2.2.1 _ (by omega) (by omega)
  have ho:=(HLK.out.1.aWu HD9.out.2.2).fr hfz hno;exact⟨.int .i64 0,by simp[results,results43,go_sem,hce],0,{y with L:=L3,l:=⟨ds9,dc9⟩},rfl,f8.fr,f8.blk 0 rfl,⟨ho.t,ho.g,ho.gok,ho.gf,ho.nx,fX HD9.out.1 HD9.out.2.1 hfz hno,HA3.out.2.1,HD9.out.2.1,ho.tm⟩,λh=>(h rfl).elim,λ_=>⟨by rw[<-HLK.out.2.1,<-HLK.out.2.2.1];exact HA3.out.1 rfl,HLK.out.2.2.1,(HY.out.2.2.2.2.1 (by simp)).1,y.T,λhX'=>(HY.out.2.2.2.2.2 ⟨(HX.out hX').1,(HX.out hX').2.1,(HX.out hX').2.2.1⟩).2,HF'.out y _ (λhX'=>(HY.out.2.2.2.2.2 ⟨(HX.out hX').1,(HX.out hX').2.1,(HX.out hX').2.2.1⟩).2)⟩,λ_=>rfl⟩
def jH (x:Nat×Nat):List Value:=[.int .u64 x.1,.int .u64 x.2]
theorem zQ (x:Nat×Nat):(jH x).length=2:=rfl
theorem aJn {w:World}{s:Option Addr}{L:List (Nat×Nat)}(h:Rd 2 jH w s L){i:Nat}{x:Nat×Nat}(hx:L[i]? =some x):∃g o,s=some ⟨g,o,none⟩/\g<w.heap.size/\w.cell? ⟨g,o+i*2,none⟩=some (.int .u64 x.1)/\w.cell? ⟨g,o+i*2+1,none⟩=some (.int .u64 x.2):=by
 obtain⟨g,o,e,hg,hc⟩:=h i x hx;exact⟨g,o,e,hg,hc 0 _ rfl,hc 1 _ rfl⟩
def SmI (L:List (Nat×Nat)):Prop:=∀x∈L,x.1<=aJ/\x.2<=aJ
def dS (L:List (Nat×Nat)):List Nat:=L.foldl (λl x=>gT x.1 l) []
theorem zN (L:List (Nat×Nat))(x:Nat×Nat):dS (L++[x])=gT x.1 (dS L):=by simp[dS]
theorem aRi (a:Nat)(L:List Nat):(gT a L).length<=L.length+1:=by
 induction L with
 |nil=>simp[gT]
 |cons x L ih=>
  unfold gT;split
  .simp
  .split
   .simp
   .simp only[List.length_cons];omega
theorem aJd (L:List (Nat×Nat)):(dS L).length<=L.length:=by
 have key:∀(L:List (Nat×Nat)) (M:List Nat),(L.foldl (λl x=>gT x.1 l) M).length<=M.length+L.length:=by
  intro L
  induction L with
  |nil=>intro M;simp
  |cons x L ih=>
   intro M;have h1:=ih (gT x.1 M);have h2:=aRi x.1 M;simp only[List.foldl_cons,List.length_cons];omega
 have:=key L []
 simpa[dS] using this
theorem Fr.aWy {w0:World}{S:List Nat}{A:Nat}{T:TypeId}{bl:List cH}{W:World}{c0 c1 c2 c3 c4 c5 c6 c7 c8 c9:Value}(h:Fr w0 S ((A,#[c0,c1,c2,c3,c4,c5,c6,c7,c8,c9],T)::bl) W)(hA:A∈S\/w0.heap.size<=A)(v0 v1 v2 v3 v4 v5 v6 v7 v8 v9:Value):Fr w0 S ((A,#[v0,v1,v2,v3,v4,v5,v6,v7,v8,v9],T)::bl) ((((((((((W.setCell ⟨A,0,none⟩ v0).setCell ⟨A,1,none⟩ v1).setCell ⟨A,2,none⟩ v2).setCell ⟨A,3,none⟩ v3).setCell ⟨A,4,none⟩ v4).setCell ⟨A,5,none⟩ v5).setCell ⟨A,6,none⟩ v6).setCell ⟨A,7,none⟩ v7).setCell ⟨A,8,none⟩ v8).setCell ⟨A,9,none⟩ v9):=by
 have h0:=h.sx 0 (A:=A) rfl hA (o:=0) (v:=v0);have h1:=h0.sx 0 (A:=A) rfl hA (o:=1) (v:=v1);have h2:=h1.sx 0 (A:=A) rfl hA (o:=2) (v:=v2);have h3:=h2.sx 0 (A:=A) rfl hA (o:=3) (v:=v3);have h4:=h3.sx 0 (A:=A) rfl hA (o:=4) (v:=v4);have h5:=h4.sx 0 (A:=A) rfl hA (o:=5) (v:=v5);have h6:=h5.sx 0 (A:=A) rfl hA (o:=6) (v:=v6);have h7:=h6.sx 0 (A:=A) rfl hA (o:=7) (v:=v7);have h8:=h7.sx 0 (A:=A) rfl hA (o:=8) (v:=v8);have h9:=h8.sx 0 (A:=A) rfl hA (o:=9) (v:=v9);exact h9
def aAv (x:bR)(c:fE)(lb:ByteArray)(kd:Int)(its:List (Nat×Nat)):Prop:=x.T=[]/\lb=⟨#[97,61,120]⟩/\kd=1/\its.length<=50/\((8*(dS its).length+19:Nat):Int)<=c.bu/\c.bu<=1000000
def aSk (P:Nat->Prop)(b:Nat)(c:fE)(x:bR)(XX:Prop)(its:List (Nat×Nat))(w:World)(e:Ending)(w':World):Prop:=
 ∃(d:Hd) (n:Nat) (E:Int) (t':Hd) (T':List aP),e=.returned (.tuple #[.slice d.s n d.cap,.int .i64 E])/\bX [b] w w'/\dW w' b c {x with T:=T',t:=t'}/\jC P w' t' T'/\(XX->E=0/\T'.map aP.core=[([bA],.dist (dS its),x.tm)])
def tY (B:Nat)(P:Prop)(C:List (List dQ×Sk×Nat)):Value->World->Prop:=λv W=>∃(t':Hd) (T':List aP) (E:Int),v=.tuple #[t'.v T'.length,.int .i64 E]/\aEx B t' T' W/\(P->E=0/\T'.map aP.core=C)
theorem rT (B:Nat)(P:Prop)(C:List (List dQ×Sk×Nat)):bO (tY B P C):=λ_ _ _ ⟨t',T',E,h1,h2,h3⟩ hb=>⟨t',T',E,h1,⟨h2.r.aWu hb,h2.ok,h2.t,h2.s⟩,h3⟩
def wI (B:Nat)(P:Prop)(C:List (List dQ×Sk×Nat)):Value->World->Prop:=λv W=>∃(t':Hd) (T':List aP),v=t'.v T'.length/\aEx B t' T' W/\(P->T'.map aP.core=C)
theorem pJ (B:Nat)(P:Prop)(C:List (List dQ×Sk×Nat)):bO (wI B P C):=λ_ _ _ ⟨t',T',h1,h2,h3⟩ hb=>⟨t',T',h1,⟨h2.r.aWu hb,h2.ok,h2.t,h2.s⟩,h3⟩
theorem aIk (P:Nat->Prop)(b:Nat)(hb:¬P b)(hb4:4<=b)(c:fE)(x:bR)(lb:ByteArray)(hlb:lb.size<=2000)(kd:Int)(its:List (Nat×Nat))(hits:SmI its)(hil:its.length<=1000)(s:Option Addr)(cap:Nat)(w:World)(hP:∀g,w.heap.size<=g->P g)(hG:aQ w)(h0:dW w b c x)(hx:cX P w x)(hI:Rd 2 jH w s its):
  Calls prog 45 #[pv b 0,.string lb,.int .i64 kd,.slice s its.length cap] w (aSk P b c x (aAv x c lb kd its) its w):=by
 have HXT:Hid (aAv x c lb kd its->x.T=[]/\lb=⟨#[97,61,120]⟩/\kd=1/\its.length<=50/\((8*(dS its).length+19:Nat):Int)<=c.bu/\c.bu<=1000000):=aA id;generalize aAv x c lb kd its=XX at*;have HRET:Hid (∀(W:World) (E:Int),bX [] w W->¬XX->aSk P b c x XX its w (.returned (.tuple #[.slice none 0 0,.int .i64 E])) W):=aA (λW E hW hn=>
  ⟨⟨none,0⟩,0,E,x.t,x.T,rfl,hW.mono (by simp),(hW.block b (aC h0) (by simp)).trans h0,hx.t.aWu hW.below,λh=>(hn h).elim⟩)
 have HX:=aA (λW (hW:Below w.heap.size w W)=>(hx.t.aWu hW));have HG:=aA (aB hG (aB hits (aB hI (aB hP (aB hb (aB hb4 hx.tm))))));have HPA:=aA (aM2 lb hlb w hG);have HNEW:=aA (λW=>rC kd W);have hbw:=aC h0;obtain⟨T,⟨ts,tc⟩,nx,M,⟨gs,gc⟩,L,⟨ls,lc⟩,tm⟩:=x;obtain⟨id,bu,ttl,ka,kb⟩:=c;obtain⟨n,hn'⟩:∃n,T.length=n:=⟨_,rfl⟩;obtain⟨gn,hgn⟩:∃gn,M.length=gn:=⟨_,rfl⟩;obtain⟨ln,hln⟩:∃ln,L.length=ln:=⟨_,rfl⟩;have HN:=aA (aB hn' (aB hgn hln));simp only[dW,bR.cs,hn',hgn,hln] at h0;simp only at HX HXT;have f0:=(Fr.start w []).add h0 (by simp);have rl:=f0.rl;clear h0 hx hG hits hI hP hb hb4 hlb hn' hgn hln
 by_cases h50:(its.length:Int)>50
 .have HW5:=aA (show¬XX from λh=>by have:=(HXT.out h).2.2.2.1;omega);go_enter func45,ntmps45;go_wp2_with fail;refine bodyPost_ret (v:=.tuple #[.slice none 0 0,.int .i64 181]) (by simp[results,results45,go_sem]) rfl (HRET.out _ 181 ?_ HW5.out);have hf9:=f0.fr
  repeat(with_reducible refine bX.set ?_ (.inr (by simp;try omega)))
  exact hf9
 go_enter func45,ntmps45;go_wp2_with fail;refine HPA.out.mono ?_;rintro e w1 ⟨⟨⟨ds,dc⟩,Lb,rfl,hd,-,hlo,hone⟩|⟨rfl,hno⟩,hb1⟩;rotate_left
 .have f1:=f0.to hb1;have HW5:=aA (show¬XX from λh=>hno (HXT.out h).2.1);clear rl f0 hb1 hno;have rl:=f1.rl;go_wp2_with fail;refine bodyPost_ret (v:=.tuple #[.slice none 0 0,.int .i64 40]) (by simp[results,results45,go_sem]) rfl (HRET.out _ 40 ?_ HW5.out);have hf9:=f1.fr
  repeat(with_reducible refine bX.set ?_ (.inr (by simp;try omega)))
  exact hf9
 have f1:=f0.to hb1;have HLB:=aA (aB hd (aB hlo hone));clear rl f0 hd hlo hone HPA;have rl:=f1.rl;simp only[Hd.v];go_wp2_with fail;refine(HNEW.out w1).mono ?_;rintro e w2 (⟨y,⟨⟨es,ec⟩,⟨cs,cc⟩,⟨gs',gc'⟩⟩,⟨⟨hyk,hy1⟩,hyo⟩,rfl,hd2,-,hb2⟩|⟨rfl,hne,hb2⟩);rotate_left
 .have f2:=(f1.to hb2).alloc (cs:= #[.int .i64 0,.int .i64 0,.slice none 0 0,.int .i64 0,.string ⟨#[]⟩,.int .i64 0,.int .i64 0,.slice none 0 0,.int .i64 0,.slice none 0 0]) (T:=103);have HW5:=aA (show¬XX from λh=>hne (HXT.out h).2.2.1);have hz1:=hb1.size;have hz2:=hb2.size;clear rl f1 hb1 hb2 hne;have rl:=f2.rs;go_wp2_with fail;refine bodyPost_ret (v:=.tuple #[.slice none 0 0,.int .i64 101]) (by simp[results,results45,go_sem]) rfl (HRET.out _ 101 ?_ HW5.out);have hf9:=f2.fr
  repeat(with_reducible refine bX.set ?_ (.inr (by simp;try omega)))
  exact hf9
 have hz1:=hb1.size;have hz2:=hb2.size;have hal:=(Below.refl w2.heap.size w2).alloc aH (.cells #[.int .i64 y.kind,.int .i64 y.lev,.slice es y.e.length ec,.int .i64 y.bits,.string y.aWx,.int .i64 y.rows,.int .i64 y.aWv,.slice cs y.c.length cc,.int .i64 y.aWw,.slice gs' y.g.length gc'] 103);have f2:=(f1.to hb2).alloc (cs:= #[.int .i64 y.kind,.int .i64 y.lev,.slice es y.e.length ec,.int .i64 y.bits,.string y.aWx,.int .i64 y.rows,.int .i64 y.aWv,.slice cs y.c.length cc,.int .i64 y.aWw,.slice gs' y.g.length gc']) (T:=103);have HS0:=aA (aB (hd2.aWu hal) (aB (kJ.old (x:=y) hd2 aH) (aB hyo (aB hyk (show XX->y=.dist [] from λh=>hy1 (HXT.out h).2.2.1)))));have HL0:=aA (show∀W,dI w2.heap.size w2 W->bS 2 cO W ⟨ds,dc⟩ Lb from λW hW=>bS.but (HLB.out.1.aWu hb2) (λh=>gU.old (HLB.out.1.aWu hb2) h aH) hW);have hA2:w.heap.size<=w2.heap.size:=by omega
 have hb02:=hb1.trans (hb2.mono hz1);have HFD:=aA (show∀W,Below w2.heap.size w2 W->Calls prog 69 #[.slice ts n tc,.slice ds Lb.length dc] W λe w'=>aSo T e/\Below W.heap.size W w' from λW hW=>by
  have h1:=HX.out W (hb02.trans (hW.mono hA2));have h2:=yG T h1.ok ⟨ts,tc⟩ Lb HLB.out.2.1 ds dc W (HG.out.1.aWu (hb02.trans (hW.mono hA2))) h1.r ((HLB.out.1.aWu hb2).rd.aWu aH hW);rw[HN.out.1] at h2;exact h2)
 have HBA:=aA (show dI w2.heap.size w2 (w2.alloc (.cells #[.int .i64 y.kind,.int .i64 y.lev,.slice es y.e.length ec,.int .i64 y.bits,.string y.aWx,.int .i64 y.rows,.int .i64 y.aWv,.slice cs y.c.length cc,.int .i64 y.aWw,.slice gs' y.g.length gc'] 103)) from dI.of hal);have HBW:=aA hb02;have rl:=f2.rs;simp only[aR.v,Hd.v];clear f1 hb1 hb2 hd2 hyo hyk hy1 hal hb02;go_wp2_with fail;generalize hw3:w2.alloc (.cells #[.int .i64 y.kind,.int .i64 y.lev,.slice es y.e.length ec,.int .i64 y.bits,.string y.aWx,.int .i64 y.rows,.int .i64 y.aWv,.slice cs y.c.length cc,.int .i64 y.aWw,.slice gs' y.g.length gc'] 103)=w3 at*;have hb23:Below w2.heap.size w2 w3:=by rw[<-hw3];exact(Below.refl w2.heap.size w2).alloc aH _
 clear hw3;refine(HFD.out _ hb23).mono ?_;rintro e w4 ⟨⟨at_,fd,rfl,hle,hfd⟩,hb4⟩;have HB4:=aA (HBA.out.aXk hb4);have HS4:=aA (aB (HS0.out.1.aWu hb4) HS0.out.2);have HTH:=aA (aB hle hfd);obtain⟨A,hAA⟩:∃A,w2.heap.size=A:=⟨_,rfl⟩;rw[hAA] at f2 HS4 HB4 HL0 hA2;rw[hAA];have f4:=f2.to hb4;have hA4:A<w4.heap.size:=aC (f4.blk 0 rfl);have HB04:=aA (show Below w.heap.size w w4 from(HBW.out.trans (hb23.mono (by omega))).trans (hb4.mono (by have:=hb23.size;omega)));have rl:=f4.rl;clear f2 hb4 hb23 HFD HS0 HBA hle hfd hAA hz1 hz2;cases fd with
 |false=>
  go_wp2_with fail;have fB:=f4;have HSB:=HS4;have HBB:=HB4;clear f4
  go_loopw [64] (λi wr=>∃(j:Nat) (z:Sk) (es2:Option Addr) (ec2:Nat) (cs2:Option Addr) (cc2:Nat) (gs2:Option Addr) (gc2:Nat),j<=its.length/\i=.int .i64 j/\Fr w [] [(A,#[.int .i64 z.kind,.int .i64 z.lev,.slice es2 z.e.length ec2,.int .i64 z.bits,.string z.aWx,.int .i64 z.rows,.int .i64 z.aWv,.slice cs2 z.c.length cc2,.int .i64 z.aWw,.slice gs2 z.g.length gc2],103),(b,#[.slice ts n tc,.int .u64 nx,.slice gs gn gc,.int .u64 0,.slice ls ln lc,.int .u64 tm,.int .u64 id,.int .i64 bu,.int .u64 ttl,.int .u64 (un ka),.int .u64 (un kb)],83)] wr/\Hid (dI A w2 wr)/\Hid (bW wr z ⟨⟨es2,ec2⟩,⟨cs2,cc2⟩,⟨gs2,gc2⟩⟩/\kJ A z ⟨⟨es2,ec2⟩,⟨cs2,cc2⟩,⟨gs2,gc2⟩⟩/\z.Ok/\z.kind=kd/\(XX->z=.dist (dS (its.take j))))) (λi _=>its.length-(intOf i).toNat)
  case atStart=>exact⟨0,y,_,_,_,_,_,_,cJ _,rfl,fB,HBB,HSB⟩
  case round=>
   clear fB HSB HBB;obtain⟨j,z,es2,ec2,cs2,cc2,gs2,gc2,hj,rfl,f6,HB6,HZ⟩:=hrel;have rl:=f6.rl;have hAr:A<wr.heap.size:=aC (f6.blk 0 rfl)
   by_cases hlt:j<its.length
   .obtain⟨it,hx⟩:∃it,its[j]? =some it:=⟨_,cZ hlt⟩;obtain⟨gi,oi,hsi,hgi,hc1,hc2⟩:=aJn (HG.out.2.2.1.aWu aH f6.fr.below) hx;subst hsi;have hsm:=HG.out.2.1 it (bK hx);have HT:=aA (show dS (its.take (j+1))=gT it.1 (dS (its.take j)) by rw[List.take_add_one,hx];exact zN _ it);have HTL:=aA (show(dS (its.take (j+1))).length<=j+1 from dR (aJd _) (by simp;omega));obtain⟨a,m⟩:=it;simp only at hc1 hc2 hsm HT;have f7:=f6.alloc (cs:= #[.int .u64 a,.int .u64 m]) (T:=45);have hal:=(Below.refl wr.heap.size wr).alloc aH (.cells #[.int .u64 a,.int .u64 m] 45);have HADD:=aA (show Calls prog 70 #[.agg #[.int .i64 z.kind,.int .i64 z.lev,.slice es2 z.e.length ec2,.int .i64 z.bits,.string z.aWx,.int .i64 z.rows,.int .i64 z.aWv,.slice cs2 z.c.length cc2,.int .i64 z.aWw,.slice gs2 z.g.length gc2],.agg #[.int .u64 a,.int .u64 m]] (wr.alloc (.cells #[.int .u64 a,.int .u64 m] 45)) _ from xA z HZ.out.2.2.1 a m hsm.1 hsm.2 ⟨⟨es2,ec2⟩,⟨cs2,cc2⟩,⟨gs2,gc2⟩⟩ _ (HG.out.1.aWu f7.fr.below).e (HZ.out.1.aWu hal));have HB7:=aA (HB6.out.aXk hal);clear hx hsm hal rl f6 HB6;have rl:=f7.rs;go_wp2_with fail;refine HADD.out.mono ?_;rintro e w7 ⟨z2,⟨⟨es3,ec3⟩,⟨cs3,cc3⟩,⟨gs3,gc3⟩⟩,⟨hadd,hz2o⟩,rfl,hd7,hf7,hb7⟩;have f8:=(f7.to hb7).less _ (List.sublist_cons_self _ _);have rl8:=f8.rl;have f9:=f8.aWy (.inr hA2) (.int .i64 z2.kind) (.int .i64 z2.lev) (.slice es3 z2.e.length ec3) (.int .i64 z2.bits) (.string z2.aWx) (.int .i64 z2.rows) (.int .i64 z2.aWv) (.slice cs3 z2.c.length cc3) (.int .i64 z2.aWw) (.slice gs3 z2.g.length gc3);have HB8:=aA ((HB7.out.aXk hb7).aWy (.int .i64 z2.kind) (.int .i64 z2.lev) (.slice es3 z2.e.length ec3) (.int .i64 z2.bits) (.string z2.aWx) (.int .i64 z2.rows) (.int .i64 z2.aWv) (.slice cs3 z2.c.length cc3) (.int .i64 z2.aWw) (.slice gs3 z2.g.length gc3));have hfA:cQ (A+1) ⟨⟨es3,ec3⟩,⟨cs3,cc3⟩,⟨gs3,gc3⟩⟩:=hf7.mono (by simp;omega)
    have HZ8:=aA (show bW _ z2 ⟨⟨es3,ec3⟩,⟨cs3,cc3⟩,⟨gs3,gc3⟩⟩ from hd7.up hfA ((aM.refl (A+1) w7).aWy (A:=A) (by omega) (.int .i64 z2.kind) (.int .i64 z2.lev) (.slice es3 z2.e.length ec3) (.int .i64 z2.bits) (.string z2.aWx) (.int .i64 z2.rows) (.int .i64 z2.aWv) (.slice cs3 z2.c.length cc3) (.int .i64 z2.aWw) (.slice gs3 z2.g.length gc3)));have HZ9:=aA (aB (kJ.of (x:=z2) hfA (Nat.lt_succ_self A)) (aB hz2o (aB (hadd.1.trans HZ.out.2.2.2.1) (show XX->z2=.dist (dS (its.take (j+1))) from λh=>by
     rw[HT.out];exact hadd.2 _ (HZ.out.2.2.2.2 h) (by have:=HTL.out;rw[HT.out] at this;have:=(HXT.out h).2.2.2.1;omega)))))
    clear hd7 hf7 hb7 hfA f8 f7 HADD hc1 hc2 rl HB7 hadd hz2o;simp only[aR.v,Hd.v];go_wp2_with fail;go_roundw
    case rel=>exact⟨j+1,z2,es3,ec3,cs3,cc3,gs3,gc3,hlt,by go_num,f9,HB8,aA ⟨HZ8.out,HZ9.out.1,HZ9.out.2.1,HZ9.out.2.2.1,HZ9.out.2.2.2⟩⟩
    case measure=>simp[intOf];omega
   .obtain rfl:j=its.length:=by omega
    rw[List.take_length] at HZ;have hG6:=HG.out.1.aWu f6.fr.below;have h1:=HX.out wr f6.fr.below;have hlab:=HL0.out wr HB6.out;have HPUT:=aA (show∀W,Below wr.heap.size wr W->Calls prog 71 #[.slice ts n tc,.agg #[.slice ds Lb.length dc,.int .i64 z.kind,.int .i64 z.lev,.slice es2 z.e.length ec2,.int .i64 z.bits,.string z.aWx,.int .i64 z.rows,.int .i64 z.aWv,.slice cs2 z.c.length cc2,.int .i64 z.aWw,.slice gs2 z.g.length gc2,.int .u64 tm]] W λe w'=>∃v,e=.returned v/\tY wr.heap.size XX [([bA],.dist (dS its),tm)] v w'/\Below W.heap.size W w' from λW hW=>by
     have h2:=aAo T h1.ok ⟨ts,tc⟩ Lb z tm ds dc es2 ec2 cs2 cc2 gs2 gc2 HZ.out.2.2.1 HLB.out.2.1 W (hG6.aWu hW) (h1.r.aWu hW) ⟨hlab.aWu hW,HZ.out.1.aWu hW⟩;rw[HN.out.1] at h2;refine h2.mono ?_;rintro e w' ⟨⟨E,hE,rfl,hno⟩|⟨t',T',rfl,hT',-,hk⟩,hb'⟩
     .exact⟨_,rfl,⟨⟨none,0⟩,[],E,rfl,⟨⟨bS.none _,λx hx=>by cases hx⟩,⟨by simp,λx hx=>by cases hx⟩,aT.none _,λx hx=>by cases hx⟩,λh=>(hno ⟨(HXT.out h).1,HLB.out.2.2 (HXT.out h).2.1⟩).elim⟩,hb'⟩
     .refine⟨_,rfl,⟨t',T',0,rfl,⟨hT'.r,hT'.ok,hT'.t.mono hW.size,λx hx=>(hT'.s x hx).mono hW.size⟩,λh=>⟨rfl,?_⟩⟩,hb'⟩;rw[hk (HXT.out h).1];simp only[aP.core];rw[HLB.out.2.2 (HXT.out h).2.1,HZ.out.2.2.2.2 h])
    have HG6:=aA hG6;clear hG6 h1 hlab;go_wp2_with fail;refine rA (f6.st) 19 [.val (pv b 0),.val (pv b 0),.val (pv b 0),.val (pv b 0),.val (.slice ts n tc),.val (.slice ds Lb.length dc),.val (.agg #[.int .i64 z.kind,.int .i64 z.lev,.slice es2 z.e.length ec2,.int .i64 z.bits,.string z.aWx,.int .i64 z.rows,.int .i64 z.aWv,.slice cs2 z.c.length cc2,.int .i64 z.aWw,.slice gs2 z.g.length gc2]),.val (pv b 0),.val (pv b 0),.val (pv b 0),.val (pv b 5),.val (.int .u64 tm),.val (.agg #[.slice ds Lb.length dc,.int .i64 z.kind,.int .i64 z.lev,.slice es2 z.e.length ec2,.int .i64 z.bits,.string z.aWx,.int .i64 z.rows,.int .i64 z.aWv,.slice cs2 z.c.length cc2,.int .i64 z.aWw,.slice gs2 z.g.length gc2,.int .u64 tm]),.fct (tY wr.heap.size XX [([bA],.dist (dS its),tm)]) (rT _ _ _),.fct (tY wr.heap.size XX [([bA],.dist (dS its),tm)]) (rT _ _ _),.fct (wI wr.heap.size XX [([bA],.dist (dS its),tm)]) (pJ _ _ _),.fct (aA0 XX) (oJ _),.fct (wI wr.heap.size XX [([bA],.dist (dS its),tm)]) (pJ _ _ _),.fct (aA0 XX) (oJ _)] ?spec ?endd
    case spec=>
     refine⟨?_,?_,?_,?_,?_,?_,?_,?_,?_,?_,?_,?_,?_,?_,?_,?_,?_,?_,?_,trivial⟩
     all_goals(intro ρ W kc kf hW sW rl hu hd;simp only[aI] at rl)
     have u0:ρ (.tmp 0)=pv b 0:=cR hu 0;rotate_left;have u79:ρ (.tmp 79)=_:=aK hd 0 79;rotate_left;have u80:ρ (.tmp 80)=_:=aK hd 1 80;rotate_left;have u81:ρ (.tmp 81)=_:=aK hd 2 81;rotate_left;have u82:ρ (.tmp 82)=_:=aK hd 3 82;rotate_left;have u10:ρ (.tmp 10)=.slice ds Lb.length dc:=cR hu 10;rotate_left;have u12:ρ (.tmp 12)=pv A 0:=cR hu 12;rotate_left;have u0:ρ (.tmp 0)=pv b 0:=cR hu 0;rotate_left;have u86:ρ (.tmp 86)=_:=aK hd 7 86;rotate_left;have u87:ρ (.tmp 87)=_:=aK hd 8 87;rotate_left;have u88:ρ (.tmp 88)=_:=aK hd 9 88;rotate_left;have u89:ρ (.tmp 89)=_:=aK hd 10 89;rotate_left;have u84:ρ (.tmp 84)=_:=aK hd 5 84;have u85:ρ (.tmp 85)=_:=aK hd 6 85;have u90:ρ (.tmp 90)=_:=aK hd 11 90;rotate_left
     .have u83:ρ (.tmp 83)=_:=aK hd 4 83;have u91:ρ (.tmp 91)=_:=aK hd 12 91;refine aF rfl ?_;go_simp;refine⟨aW,(HPUT.out W hW).mono ?_⟩;rintro e w' ⟨v9,rfl,t9,hb'⟩;exact⟨_,rfl,hb',t9⟩
     .have f92:tY wr.heap.size XX [([bA],.dist (dS its),tm)] (ρ (.tmp 92)) W:=aK hd 13 92;obtain⟨t9,T9,E9,u92,h9,g9⟩:=f92;refine aF rfl ?_;go_simp;exact aG ⟨t9,T9,E9,rfl,h9,g9⟩
     .have f78:tY wr.heap.size XX [([bA],.dist (dS its),tm)] (ρ (.tmp 78)) W:=aK hd 14 78;obtain⟨t9,T9,E9,u78,h9,g9⟩:=f78;refine aF rfl ?_;go_simp;exact aG ⟨t9,T9,rfl,h9,λh=>(g9 h).2⟩
     .have f78:tY wr.heap.size XX [([bA],.dist (dS its),tm)] (ρ (.tmp 78)) W:=aK hd 14 78;obtain⟨t9,T9,E9,u78,h9,g9⟩:=f78;refine aF rfl ?_;go_simp;exact aG ⟨E9,rfl,λh=>(g9 h).1⟩
     .have f93:wI wr.heap.size XX [([bA],.dist (dS its),tm)] (ρ (.tmp 93)) W:=aK hd 15 93;obtain⟨t9,T9,u93,h9,g9⟩:=f93;refine aF rfl ?_;go_simp;exact aG ⟨t9,T9,rfl,h9,g9⟩
     .have f94:aA0 XX (ρ (.tmp 94)) W:=aK hd 16 94;obtain⟨E9,u94,g9⟩:=f94;refine aF rfl ?_;go_simp;exact aG ⟨E9,rfl,g9⟩
     all_goals(refine aF rfl ?_;go_simp;exact aG rfl)
    case endd=>
     rintro v W hW sW rl ⟨h13,h14,h15,h16,h17,h18,-⟩;simp only[aI] at rl;obtain⟨⟨ts9,tc9⟩,T9,v17,hT9,hx9⟩:=h17;obtain⟨E9,v18,hE9⟩:=h18;have f7:=f6.to hW;rw[v17,v18];clear h13 h14 h15 h16 v17 v18 HPUT;generalize v 13=v13 at*;generalize v 14=v14 at*;generalize v 15=v15 at*;generalize v 16=v16 at*;simp only[Hd.v];have HFT:=aA (aAg T9 hT9.ok ⟨ts9,tc9⟩ bu W (HG6.out.aWu hW) hT9.r);have HT9:=aA (aB hx9 (aB hE9 hW));have rl:=f7.rl;clear hT9 hx9 hE9 sW;refine wpList_nil ?_;go_frame
     by_cases hEz:E9=0
     rotate_left
     .have hEb:(E9 !=0)=true:=by simpa using hEz
      have HW5:=aA (show¬XX from λh=>hEz (HT9.out.2.1 h));clear hEz hW f6;go_wp2_with fail;exact bodyPost_ret (v:=.tuple #[.slice none 0 0,.int .i64 E9]) (by simp[results,results45,go_sem]) rfl (HRET.out _ E9 f7.fr HW5.out)
     subst hEz;clear hW f6;go_wp2_with fail;refine HFT.out.mono ?_;rintro e w9 ⟨hP9,hb9⟩;obtain⟨⟨t2,c2⟩,T2,⟨d2,e2⟩,n2,E2,rfl,hT2,hx2⟩:∃(t2:Hd) (T2:List aP) (d2:Hd) (n2:Nat) (E2:Int),e=.returned (.tuple #[t2.v T2.length,d2.v n2,.int .i64 E2])/\aEx W.heap.size t2 T2 w9/\(Exq T9 bu->E2=0/\T2.map aP.core=T9.map aP.core):=by
      rcases hP9 with⟨E,hE,rfl,hno⟩|⟨t',T',d,m,rfl,hT',hk⟩
      .exact⟨⟨none,0⟩,[],⟨none,0⟩,0,E,rfl,⟨⟨bS.none _,λx hx=>by cases hx⟩,⟨by simp,λx hx=>by cases hx⟩,aT.none _,λx hx=>by cases hx⟩,λh=>(hno h).elim⟩
      .exact⟨t',T',d,m,0,rfl,hT',λh=>⟨rfl,hk h⟩⟩
     have f8:=f7.to hb9;have HT2:=aA (aB hT2 hx2);have hW9:=hb9.size;have rl9:=f8.rl;clear hP9 hT2 hx2 hb9 HFT rl f7;simp only[Hd.v];go_wp2_with fail;have hWw:=HT9.out.2.2.size;have hrw:w.heap.size<=wr.heap.size:=by omega
     have fs:bX [b] w9 (w9.setCell ⟨b,0,none⟩ (.slice t2 T2.length c2)):=(bX.refl _ _).set (.inl (by simp));refine bodyPost_ret (v:=.tuple #[.slice d2 n2 e2,.int .i64 E2]) (by simp[results,results45,go_sem]) rfl ⟨⟨d2,e2⟩,n2,E2,⟨t2,c2⟩,T2,rfl,?_,?_,?_,λh=> ?_⟩
     .exact(f8.fr.mono (by simp)).set (.inl (by simp))
     .refine(cU (f8.blk 1 rfl) 0 _).trans ?_;simp only[bR.cs];rw[HN.out.2.1,HN.out.2.2];rfl
     .exact(jC.of HT2.out.1 (λg hg=>HG.out.2.2.2.1 g (by omega))).fr fs (by have:=HG.out.2.2.2.2.1;simpa using this)
     .have hcore:=HT9.out.1 h;obtain⟨z9,hz9,hzc⟩:∃z9,T9=[z9]/\z9.core=([bA],.dist (dS its),tm):=by
       match T9,hcore with
       |[z],hc=>exact⟨z,rfl,by simpa using hc⟩
       |[],hc=>simp at hc
       |_::_::_,hc=>simp at hc
      simp only[aP.core,Prod.mk.injEq] at hzc;have hq:=(HXT.out h).2.2.2.2;have:=HT2.out.2 ⟨by have:=hq.1;omega,hq.2,z9,hz9,hzc.1,by rw[hzc.2.1];have:=hq.1;simp only[Sk.cost];omega⟩;exact⟨this.1,this.2.trans hcore⟩
 |true=>
  have hlt:=HTH.out.2 rfl;obtain⟨g0,o0,hts⟩:=(HX.out w4 HB04.out).r.addr (by intro h;rw[h] at hlt;simp at hlt);simp only at hts;subst hts;obtain⟨⟨lab,sk,sn,⟨l1,l2⟩,⟨⟨es1,ec1⟩,⟨cs1,cc1⟩,⟨gs1,gc1⟩⟩⟩,hx⟩:∃x,T[at_]? =some x:=⟨_,cZ hlt⟩;have hxm:=bK hx;have tce:=cG (HX.out w4 HB04.out).r hx;obtain⟨tg,t0,t1,t2,t3,t4,t5,t6,t7,t8,t9,t10,t11⟩:=tce;have hW0:=HX.out w aW;have hSk:=(HX.out w4 HB04.out).ok.ok _ hxm;have HS5:=aA (aB (((HX.out w4 HB04.out).r.s _ hxm).k.but (kJ.old (hW0.r.s _ hxm).k hA2) ((dI.refl A w4).aWy (.int .i64 sk.kind) (.int .i64 sk.lev) (.slice es1 sk.e.length ec1) (.int .i64 sk.bits) (.string sk.aWx) (.int .i64 sk.rows) (.int .i64 sk.aWv) (.slice cs1 sk.c.length cc1) (.int .i64 sk.aWw) (.slice gs1 sk.g.length gc1))) (aB (kJ.old (hW0.r.s _ hxm).k hA2) hSk.1));have hatn:at_<n:=by rw[<-HN.out.1];exact hlt
  have HB5:=aA (HB4.out.aWy (.int .i64 sk.kind) (.int .i64 sk.lev) (.slice es1 sk.e.length ec1) (.int .i64 sk.bits) (.string sk.aWx) (.int .i64 sk.rows) (.int .i64 sk.aWv) (.slice cs1 sk.c.length cc1) (.int .i64 sk.aWw) (.slice gs1 sk.g.length gc1));have HXF:=aA (show¬XX from λh=>by rw[(HXT.out h).1] at hlt;simp at hlt);have f5:=f4.aWy (.inr hA2) (.int .i64 sk.kind) (.int .i64 sk.lev) (.slice es1 sk.e.length ec1) (.int .i64 sk.bits) (.string sk.aWx) (.int .i64 sk.rows) (.int .i64 sk.aWv) (.slice cs1 sk.c.length cc1) (.int .i64 sk.aWw) (.slice gs1 sk.g.length gc1);clear hx hxm hW0 hSk hlt
  by_cases hkk:sk.kind=kd
  rotate_left
  .have hkb:(sk.kind !=kd)=true:=by simpa using hkk
   clear hkk;go_wp2_with fail;go_wp2_with fail;refine bodyPost_ret (v:=.tuple #[.slice none 0 0,.int .i64 101]) (by simp[results,results45,go_sem]) rfl (HRET.out _ 101 ?_ HXF.out);have hf9:=f5.fr
   repeat(with_reducible refine bX.set ?_ (.inr (by simp;try omega)))
   exact hf9
  have hkb:(sk.kind !=kd)=false:=by simpa using hkk
  have HKK:=aA hkk;clear hkk;go_wp2_with fail;have HSB:=aA (aB HS5.out.1 (aB HS5.out.2.1 (aB HS5.out.2.2 (aB HKK.out (show XX->sk=.dist [] from λh=>(HXF.out h).elim)))));have fB:=f5;have HBB:=aA HB5.out;clear t0 t1 t2 t3 t4 t5 t6 t7 t8 t9 t10 t11 f4 f5 hkb
  go_loopw [64] (λi wr=>∃(j:Nat) (z:Sk) (es2:Option Addr) (ec2:Nat) (cs2:Option Addr) (cc2:Nat) (gs2:Option Addr) (gc2:Nat),j<=its.length/\i=.int .i64 j/\Fr w [] [(A,#[.int .i64 z.kind,.int .i64 z.lev,.slice es2 z.e.length ec2,.int .i64 z.bits,.string z.aWx,.int .i64 z.rows,.int .i64 z.aWv,.slice cs2 z.c.length cc2,.int .i64 z.aWw,.slice gs2 z.g.length gc2],103),(b,#[.slice (some ⟨g0,o0,none⟩) n tc,.int .u64 nx,.slice gs gn gc,.int .u64 0,.slice ls ln lc,.int .u64 tm,.int .u64 id,.int .i64 bu,.int .u64 ttl,.int .u64 (un ka),.int .u64 (un kb)],83)] wr/\Hid (dI A w2 wr)/\Hid (bW wr z ⟨⟨es2,ec2⟩,⟨cs2,cc2⟩,⟨gs2,gc2⟩⟩/\kJ A z ⟨⟨es2,ec2⟩,⟨cs2,cc2⟩,⟨gs2,gc2⟩⟩/\z.Ok/\z.kind=kd/\(XX->z=.dist (dS (its.take j))))) (λi _=>its.length-(intOf i).toNat)
  case atStart=>exact⟨0,sk,_,_,_,_,_,_,cJ _,rfl,fB,HBB,HSB⟩
  case round=>
   clear fB HSB HBB;obtain⟨j,z,es2,ec2,cs2,cc2,gs2,gc2,hj,rfl,f6,HB6,HZ⟩:=hrel;have rl:=f6.rl;have hAr:A<wr.heap.size:=aC (f6.blk 0 rfl)
   by_cases hlt:j<its.length
   .obtain⟨it,hx⟩:∃it,its[j]? =some it:=⟨_,cZ hlt⟩;obtain⟨gi,oi,hsi,hgi,hc1,hc2⟩:=aJn (HG.out.2.2.1.aWu aH f6.fr.below) hx;subst hsi;have hsm:=HG.out.2.1 it (bK hx);have HT:=aA (show dS (its.take (j+1))=gT it.1 (dS (its.take j)) by rw[List.take_add_one,hx];exact zN _ it);have HTL:=aA (show(dS (its.take (j+1))).length<=j+1 from dR (aJd _) (by simp;omega));obtain⟨a,m⟩:=it;simp only at hc1 hc2 hsm HT;have f7:=f6.alloc (cs:= #[.int .u64 a,.int .u64 m]) (T:=45);have hal:=(Below.refl wr.heap.size wr).alloc aH (.cells #[.int .u64 a,.int .u64 m] 45);have HADD:=aA (show Calls prog 70 #[.agg #[.int .i64 z.kind,.int .i64 z.lev,.slice es2 z.e.length ec2,.int .i64 z.bits,.string z.aWx,.int .i64 z.rows,.int .i64 z.aWv,.slice cs2 z.c.length cc2,.int .i64 z.aWw,.slice gs2 z.g.length gc2],.agg #[.int .u64 a,.int .u64 m]] (wr.alloc (.cells #[.int .u64 a,.int .u64 m] 45)) _ from xA z HZ.out.2.2.1 a m hsm.1 hsm.2 ⟨⟨es2,ec2⟩,⟨cs2,cc2⟩,⟨gs2,gc2⟩⟩ _ (HG.out.1.aWu f7.fr.below).e (HZ.out.1.aWu hal));have HB7:=aA (HB6.out.aXk hal);clear hx hsm hal rl f6 HB6;have rl:=f7.rs;go_wp2_with fail;refine HADD.out.mono ?_;rintro e w7 ⟨z2,⟨⟨es3,ec3⟩,⟨cs3,cc3⟩,⟨gs3,gc3⟩⟩,⟨hadd,hz2o⟩,rfl,hd7,hf7,hb7⟩;have f8:=(f7.to hb7).less _ (List.sublist_cons_self _ _);have rl8:=f8.rl;have f9:=f8.aWy (.inr hA2) (.int .i64 z2.kind) (.int .i64 z2.lev) (.slice es3 z2.e.length ec3) (.int .i64 z2.bits) (.string z2.aWx) (.int .i64 z2.rows) (.int .i64 z2.aWv) (.slice cs3 z2.c.length cc3) (.int .i64 z2.aWw) (.slice gs3 z2.g.length gc3);have HB8:=aA ((HB7.out.aXk hb7).aWy (.int .i64 z2.kind) (.int .i64 z2.lev) (.slice es3 z2.e.length ec3) (.int .i64 z2.bits) (.string z2.aWx) (.int .i64 z2.rows) (.int .i64 z2.aWv) (.slice cs3 z2.c.length cc3) (.int .i64 z2.aWw) (.slice gs3 z2.g.length gc3));have hfA:cQ (A+1) ⟨⟨es3,ec3⟩,⟨cs3,cc3⟩,⟨gs3,gc3⟩⟩:=hf7.mono (by simp;omega)
    have HZ8:=aA (show bW _ z2 ⟨⟨es3,ec3⟩,⟨cs3,cc3⟩,⟨gs3,gc3⟩⟩ from hd7.up hfA ((aM.refl (A+1) w7).aWy (A:=A) (by omega) (.int .i64 z2.kind) (.int .i64 z2.lev) (.slice es3 z2.e.length ec3) (.int .i64 z2.bits) (.string z2.aWx) (.int .i64 z2.rows) (.int .i64 z2.aWv) (.slice cs3 z2.c.length cc3) (.int .i64 z2.aWw) (.slice gs3 z2.g.length gc3)));have HZ9:=aA (aB (kJ.of (x:=z2) hfA (Nat.lt_succ_self A)) (aB hz2o (aB (hadd.1.trans HZ.out.2.2.2.1) (show XX->z2=.dist (dS (its.take (j+1))) from λh=>by
     rw[HT.out];exact hadd.2 _ (HZ.out.2.2.2.2 h) (by have:=HTL.out;rw[HT.out] at this;have:=(HXT.out h).2.2.2.1;omega)))))
    clear hd7 hf7 hb7 hfA f8 f7 HADD hc1 hc2 rl HB7 hadd hz2o;simp only[aR.v,Hd.v];go_wp2_with fail;go_roundw
    case rel=>exact⟨j+1,z2,es3,ec3,cs3,cc3,gs3,gc3,hlt,by go_num,f9,HB8,aA ⟨HZ8.out,HZ9.out.1,HZ9.out.2.1,HZ9.out.2.2.1,HZ9.out.2.2.2⟩⟩
    case measure=>simp[intOf];omega
   .obtain rfl:j=its.length:=by omega
    rw[List.take_length] at HZ;have hG6:=HG.out.1.aWu f6.fr.below;have h1:=HX.out wr f6.fr.below;have hlab:=HL0.out wr HB6.out;have HPUT:=aA (show∀W,Below wr.heap.size wr W->Calls prog 71 #[.slice (some ⟨g0,o0,none⟩) n tc,.agg #[.slice ds Lb.length dc,.int .i64 z.kind,.int .i64 z.lev,.slice es2 z.e.length ec2,.int .i64 z.bits,.string z.aWx,.int .i64 z.rows,.int .i64 z.aWv,.slice cs2 z.c.length cc2,.int .i64 z.aWw,.slice gs2 z.g.length gc2,.int .u64 tm]] W λe w'=>∃v,e=.returned v/\tY wr.heap.size XX [([bA],.dist (dS its),tm)] v w'/\Below W.heap.size W w' from λW hW=>by
     have h2:=aAo T h1.ok ⟨(some ⟨g0,o0,none⟩),tc⟩ Lb z tm ds dc es2 ec2 cs2 cc2 gs2 gc2 HZ.out.2.2.1 HLB.out.2.1 W (hG6.aWu hW) (h1.r.aWu hW) ⟨hlab.aWu hW,HZ.out.1.aWu hW⟩;rw[HN.out.1] at h2;refine h2.mono ?_;rintro e w' ⟨⟨E,hE,rfl,hno⟩|⟨t',T',rfl,hT',-,hk⟩,hb'⟩
     .exact⟨_,rfl,⟨⟨none,0⟩,[],E,rfl,⟨⟨bS.none _,λx hx=>by cases hx⟩,⟨by simp,λx hx=>by cases hx⟩,aT.none _,λx hx=>by cases hx⟩,λh=>(hno ⟨(HXT.out h).1,HLB.out.2.2 (HXT.out h).2.1⟩).elim⟩,hb'⟩
     .refine⟨_,rfl,⟨t',T',0,rfl,⟨hT'.r,hT'.ok,hT'.t.mono hW.size,λx hx=>(hT'.s x hx).mono hW.size⟩,λh=>⟨rfl,?_⟩⟩,hb'⟩;rw[hk (HXT.out h).1];simp only[aP.core];rw[HLB.out.2.2 (HXT.out h).2.1,HZ.out.2.2.2.2 h])
    have HG6:=aA hG6;clear hG6 h1 hlab;go_wp2_with fail;refine rA (f6.st) 19 [.val (pv b 0),.val (pv b 0),.val (pv b 0),.val (pv b 0),.val (.slice (some ⟨g0,o0,none⟩) n tc),.val (.slice ds Lb.length dc),.val (.agg #[.int .i64 z.kind,.int .i64 z.lev,.slice es2 z.e.length ec2,.int .i64 z.bits,.string z.aWx,.int .i64 z.rows,.int .i64 z.aWv,.slice cs2 z.c.length cc2,.int .i64 z.aWw,.slice gs2 z.g.length gc2]),.val (pv b 0),.val (pv b 0),.val (pv b 0),.val (pv b 5),.val (.int .u64 tm),.val (.agg #[.slice ds Lb.length dc,.int .i64 z.kind,.int .i64 z.lev,.slice es2 z.e.length ec2,.int .i64 z.bits,.string z.aWx,.int .i64 z.rows,.int .i64 z.aWv,.slice cs2 z.c.length cc2,.int .i64 z.aWw,.slice gs2 z.g.length gc2,.int .u64 tm]),.fct (tY wr.heap.size XX [([bA],.dist (dS its),tm)]) (rT _ _ _),.fct (tY wr.heap.size XX [([bA],.dist (dS its),tm)]) (rT _ _ _),.fct (wI wr.heap.size XX [([bA],.dist (dS its),tm)]) (pJ _ _ _),.fct (aA0 XX) (oJ _),.fct (wI wr.heap.size XX [([bA],.dist (dS its),tm)]) (pJ _ _ _),.fct (aA0 XX) (oJ _)] ?spec ?endd
    case spec=>
     refine⟨?_,?_,?_,?_,?_,?_,?_,?_,?_,?_,?_,?_,?_,?_,?_,?_,?_,?_,?_,trivial⟩
     all_goals(intro ρ W kc kf hW sW rl hu hd;simp only[aI] at rl)
     have u0:ρ (.tmp 0)=pv b 0:=cR hu 0;rotate_left;have u79:ρ (.tmp 79)=_:=aK hd 0 79;rotate_left;have u80:ρ (.tmp 80)=_:=aK hd 1 80;rotate_left;have u81:ρ (.tmp 81)=_:=aK hd 2 81;rotate_left;have u82:ρ (.tmp 82)=_:=aK hd 3 82;rotate_left;have u10:ρ (.tmp 10)=.slice ds Lb.length dc:=cR hu 10;rotate_left;have u12:ρ (.tmp 12)=pv A 0:=cR hu 12;rotate_left;have u0:ρ (.tmp 0)=pv b 0:=cR hu 0;rotate_left;have u86:ρ (.tmp 86)=_:=aK hd 7 86;rotate_left;have u87:ρ (.tmp 87)=_:=aK hd 8 87;rotate_left;have u88:ρ (.tmp 88)=_:=aK hd 9 88;rotate_left;have u89:ρ (.tmp 89)=_:=aK hd 10 89;rotate_left;have u84:ρ (.tmp 84)=_:=aK hd 5 84;have u85:ρ (.tmp 85)=_:=aK hd 6 85;have u90:ρ (.tmp 90)=_:=aK hd 11 90;rotate_left
     .have u83:ρ (.tmp 83)=_:=aK hd 4 83;have u91:ρ (.tmp 91)=_:=aK hd 12 91;refine aF rfl ?_;go_simp;refine⟨aW,(HPUT.out W hW).mono ?_⟩;rintro e w' ⟨v9,rfl,t9,hb'⟩;exact⟨_,rfl,hb',t9⟩
     .have f92:tY wr.heap.size XX [([bA],.dist (dS its),tm)] (ρ (.tmp 92)) W:=aK hd 13 92;obtain⟨t9,T9,E9,u92,h9,g9⟩:=f92;refine aF rfl ?_;go_simp;exact aG ⟨t9,T9,E9,rfl,h9,g9⟩
     .have f78:tY wr.heap.size XX [([bA],.dist (dS its),tm)] (ρ (.tmp 78)) W:=aK hd 14 78;obtain⟨t9,T9,E9,u78,h9,g9⟩:=f78;refine aF rfl ?_;go_simp;exact aG ⟨t9,T9,rfl,h9,λh=>(g9 h).2⟩
     .have f78:tY wr.heap.size XX [([bA],.dist (dS its),tm)] (ρ (.tmp 78)) W:=aK hd 14 78;obtain⟨t9,T9,E9,u78,h9,g9⟩:=f78;refine aF rfl ?_;go_simp;exact aG ⟨E9,rfl,λh=>(g9 h).1⟩
     .have f93:wI wr.heap.size XX [([bA],.dist (dS its),tm)] (ρ (.tmp 93)) W:=aK hd 15 93;obtain⟨t9,T9,u93,h9,g9⟩:=f93;refine aF rfl ?_;go_simp;exact aG ⟨t9,T9,rfl,h9,g9⟩
     .have f94:aA0 XX (ρ (.tmp 94)) W:=aK hd 16 94;obtain⟨E9,u94,g9⟩:=f94;refine aF rfl ?_;go_simp;exact aG ⟨E9,rfl,g9⟩
     all_goals(refine aF rfl ?_;go_simp;exact aG rfl)
    case endd=>
     rintro v W hW sW rl ⟨h13,h14,h15,h16,h17,h18,-⟩;simp only[aI] at rl;obtain⟨⟨ts9,tc9⟩,T9,v17,hT9,hx9⟩:=h17;obtain⟨E9,v18,hE9⟩:=h18;have f7:=f6.to hW;rw[v17,v18];clear h13 h14 h15 h16 v17 v18 HPUT;generalize v 13=v13 at*;generalize v 14=v14 at*;generalize v 15=v15 at*;generalize v 16=v16 at*;simp only[Hd.v];have HFT:=aA (aAg T9 hT9.ok ⟨ts9,tc9⟩ bu W (HG6.out.aWu hW) hT9.r);have HT9:=aA (aB hx9 (aB hE9 hW));have rl:=f7.rl;clear hT9 hx9 hE9 sW;refine wpList_nil ?_;go_frame
     by_cases hEz:E9=0
     rotate_left
     .have hEb:(E9 !=0)=true:=by simpa using hEz
      have HW5:=aA (show¬XX from λh=>hEz (HT9.out.2.1 h));clear hEz hW f6;go_wp2_with fail;exact bodyPost_ret (v:=.tuple #[.slice none 0 0,.int .i64 E9]) (by simp[results,results45,go_sem]) rfl (HRET.out _ E9 f7.fr HW5.out)
     subst hEz;clear hW f6;go_wp2_with fail;refine HFT.out.mono ?_;rintro e w9 ⟨hP9,hb9⟩;obtain⟨⟨t2,c2⟩,T2,⟨d2,e2⟩,n2,E2,rfl,hT2,hx2⟩:∃(t2:Hd) (T2:List aP) (d2:Hd) (n2:Nat) (E2:Int),e=.returned (.tuple #[t2.v T2.length,d2.v n2,.int .i64 E2])/\aEx W.heap.size t2 T2 w9/\(Exq T9 bu->E2=0/\T2.map aP.core=T9.map aP.core):=by
      rcases hP9 with⟨E,hE,rfl,hno⟩|⟨t',T',d,m,rfl,hT',hk⟩
      .exact⟨⟨none,0⟩,[],⟨none,0⟩,0,E,rfl,⟨⟨bS.none _,λx hx=>by cases hx⟩,⟨by simp,λx hx=>by cases hx⟩,aT.none _,λx hx=>by cases hx⟩,λh=>(hno h).elim⟩
      .exact⟨t',T',d,m,0,rfl,hT',λh=>⟨rfl,hk h⟩⟩
     have f8:=f7.to hb9;have HT2:=aA (aB hT2 hx2);have hW9:=hb9.size;have rl9:=f8.rl;clear hP9 hT2 hx2 hb9 HFT rl f7;simp only[Hd.v];go_wp2_with fail;have hWw:=HT9.out.2.2.size;have hrw:w.heap.size<=wr.heap.size:=by omega
     have fs:bX [b] w9 (w9.setCell ⟨b,0,none⟩ (.slice t2 T2.length c2)):=(bX.refl _ _).set (.inl (by simp));refine bodyPost_ret (v:=.tuple #[.slice d2 n2 e2,.int .i64 E2]) (by simp[results,results45,go_sem]) rfl ⟨⟨d2,e2⟩,n2,E2,⟨t2,c2⟩,T2,rfl,?_,?_,?_,λh=> ?_⟩
     .exact(f8.fr.mono (by simp)).set (.inl (by simp))
     .refine(cU (f8.blk 1 rfl) 0 _).trans ?_;simp only[bR.cs];rw[HN.out.2.1,HN.out.2.2];rfl
     .exact(jC.of HT2.out.1 (λg hg=>HG.out.2.2.2.1 g (by omega))).fr fs (by have:=HG.out.2.2.2.2.1;simpa using this)
     .have hcore:=HT9.out.1 h;obtain⟨z9,hz9,hzc⟩:∃z9,T9=[z9]/\z9.core=([bA],.dist (dS its),tm):=by
       match T9,hcore with
       |[z],hc=>exact⟨z,rfl,by simpa using hc⟩
       |[],hc=>simp at hc
       |_::_::_,hc=>simp at hc
      simp only[aP.core,Prod.mk.injEq] at hzc;have hq:=(HXT.out h).2.2.2.2;have:=HT2.out.2 ⟨by have:=hq.1;omega,hq.2,z9,hz9,hzc.1,by rw[hzc.2.1];have:=hq.1;simp only[Sk.cost];omega⟩;exact⟨this.1,this.2.trans hcore⟩
end Go.Proofs.YtmgdbfmlnmahpaaGreatDoor
