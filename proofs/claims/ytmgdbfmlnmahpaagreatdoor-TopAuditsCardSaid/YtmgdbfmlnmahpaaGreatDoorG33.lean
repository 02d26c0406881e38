/- Part of TopAudits. -/
import Derived.Test.YtmgdbfmlnmahpaaGreatDoorG32
namespace Go.Proofs.YtmgdbfmlnmahpaaGreatDoor
set_option linter.unusedSimpArgs false
set_option linter.unusedVariables false
set_option maxRecDepth 100000
set_option maxHeartbeats 4000000
open Go.Proofs.Tryz
open Go.RowKit Go.Shelf
variable {d:Hd} {bud:Int} {P:List Nat} {M T:List aP} {F g n:Nat} {W W' w:World}
def Exq (T:List aP)(bud:Int):Prop:=0<=bud/\bud<=1000000/\∃x,T=[x]/\x.lab=[bA]/\(x.sk.cost:Int)+3<=bud
def QuP (w:World)(T:List aP)(bud:Int)(e:Ending)(w':World):Prop:=
 (∃E:Int,E≠0/\e=.returned (.tuple #[.slice none 0 0,.slice none 0 0,.int .i64 E])/\¬Exq T bud)\/∃(t':Hd) (T':List aP) (d:Hd) (n:Nat),e=.returned (.tuple #[t'.v T'.length,d.v n,.int .i64 0])/\aEx w.heap.size t' T' w'/\(Exq T bud->T'.map aP.core=T.map aP.core)
structure QuI (w:World)(T:List aP)(bud:Int)(g F n:Nat)(d:Hd)(P:List Nat)(M:List aP)(W:World):Prop where
 row:eN W g M
 len:M.length=n
 ok:pS M
 s:∀x∈M,yK W x/\gK w.heap.size x/\iW g x/\iW F x/\(∀j,(Value.slice d.s P.length d.cap).ownBlock=some j->iW j x)
 own:aL 1 rL 3 W (F+1) (.slice d.s P.length d.cap) P
 few:P.length+wt M<=800
 ex:Exq T bud->M.map aP.core=T.map aP.core
theorem QuI.aWu (h:QuI w T bud g F n d P M W)(hb:Below W.heap.size W W'):QuI w T bud g F n d P M W':=
 ⟨h.row.aWu hb,h.len,h.ok,λx hx=>⟨(h.s x hx).1.aWu hb,(h.s x hx).2⟩,aL.keep _ _ h.own hb,h.few,h.ex⟩
theorem aL.but {α:Type}{k:Nat}{enc:α->List Value}{e:TypeId}{B:Nat}{v:Value}{L:List α}(h:aL k enc e W B v L)(hg:g<B)(hb:dI g W W'):aL k enc e W' B v L:=by
 refine⟨h.1,?_⟩;rcases h.2 with h2|⟨g',cap',cur,hv,hB,hbk,rest⟩
 .exact .inl h2
 .exact .inr ⟨g',cap',cur,hv,hB,(hb.block g' (aC hbk) (by omega)).trans hbk,rest⟩
theorem QuI.low {W3:World}(h:QuI w T bud g F n d P M W)(hgF:g<F)(hF:F<W.heap.size)(hb:Below W.heap.size W W3)(hwW:w.heap.size<=W.heap.size){i:Nat}{x:aP}(hx:M[i]? =some x)(hl:x.sk.lev<x.sk.bot){y:Sk}{k:aR}(hy:uS x.sk y)(hok:y.Ok)(hk:bW W3 y k)(hf:cQ W.heap.size k)(hne:¬Exq T bud):
  QuI w T bud g F n d P (M.set i ⟨x.lab,y,x.seen,x.l,k⟩) (mB W3 g (i*12+1) (aCq y k))/\wt (M.set i ⟨x.lab,y,x.seen,x.l,k⟩)<wt M:=by
 have hw:=aTo M i x ⟨x.lab,y,x.seen,x.l,k⟩ hx (aK0 hy hl);have h3:=h.aWu hb;have hxm:=bK hx;have hbut:=jV g (aCq y k) (i*12+1) W3 W3 (dI.refl g W3);have hgW:g<W.heap.size:=by omega
 refine⟨⟨h3.row.aYj hx y k,by simpa using h.len,⟨by have:=h.ok.len;simpa using this,λz hz=> ?_⟩,λz hz=> ?_,h3.own.but (by omega) hbut,by have:=h.few;omega,λhe=>(hne he).elim⟩,hw⟩
 .rcases aJm hz with rfl|hz
  .exact⟨hok,(h.ok.ok x hxm).2⟩
  .exact h.ok.ok z hz
 .rcases aJm hz with rfl|hz
  .obtain⟨a1,a2,a3,a4,a5⟩:=h3.s x hxm;have o1:∀j,j<W.heap.size->iW j x->iW j ⟨x.lab,y,x.seen,x.l,k⟩:=λj hj ho=>⟨ho.1,λ_=>.of hf.1 hj,λ_=>.of hf.2.1 hj,λ_=>.of hf.2.2 hj⟩;have og:=o1 g hgW a3;exact⟨yK.but ⟨a1.l,hk⟩ og hbut,⟨a2.1,hf.mono hwW⟩,og,o1 F hF a4,λj hj=>o1 j (h.own.lt j hj).2 (a5 j hj)⟩
  .obtain⟨a1,a2,a3,a4,a5⟩:=h3.s z hz;exact⟨a1.but a3 hbut,a2,a3,a4,a5⟩
theorem QuI.tell {d':Hd}{p:Nat}(h:QuI w T bud g F n d P M W)(hq:P.length+1+wt M<=800)(hgF:g<F)(hF:F<W.heap.size)(hb:aQ2 F (Value.slice d.s P.length d.cap).ownBlock W W')(ho:aL 1 rL 3 W' (F+1) (.slice d'.s (P.length+1) d'.cap) (P++[p]))(hj:∀j,(Value.slice d'.s (P.length+1) d'.cap).ownBlock=some j->(Value.slice d.s P.length d.cap).ownBlock=some j\/W.heap.size<=j):
  QuI w T bud g F n d' (P++[p]) M W':=by
 have hl:(P++[p]).length=P.length+1:=by simp
 have hgo:(Value.slice d.s P.length d.cap).ownBlock≠some g:=λe=>by have:=(h.own.lt g e).1;omega
 refine⟨?_,h.len,h.ok,λx hx=> ?_,by rw[hl];exact ho,by rw[hl];exact hq,h.ex⟩
 .obtain⟨cur,c1,c2⟩:=h.row;exact⟨cur,(hb.block g (aC c1) (by omega) hgo).trans c1,c2⟩
 .obtain⟨a1,a2,a3,a4,a5⟩:=h.s x hx;have keep:∀{α:Type} {k:Nat} {enc:α->List Value} {D:Hd} {L:List α},bS k enc W D L->(L≠[]->gU F D)->(∀j,(Value.slice d.s P.length d.cap).ownBlock=some j->L≠[]->gU j D)->bS k enc W' D L:=by
   intro α k enc D L r n1 n2;refine⟨λi z hz=> ?_,r.cap,r.max,r.nil,r.plain⟩;have hne:L≠[]:=by intro e;rw[e] at hz;simp at hz
   obtain⟨g',o,e,hg,hc⟩:=r.rd i z hz;refine⟨g',o,e,kG hg hb.size,λj u hu=> ?_⟩;rw[<-hc j u hu];have:=hb.block g' hg (n1 hne g' o e) (λe'=>n2 g' e' hne g' o e rfl);simp only[World.cell?,this]
  refine⟨⟨keep a1.l a4.1 (λj e=>(a5 j e).1),⟨keep a1.k.e a4.2.1 (λj e=>(a5 j e).2.1),keep a1.k.c a4.2.2.1 (λj e=>(a5 j e).2.2.1),keep a1.k.g a4.2.2.2 (λj e=>(a5 j e).2.2.2)⟩⟩,a2,a3,a4,λj e=> ?_⟩;rw[hl] at e;rcases hj j e with e|e
  .exact a5 j e
  .exact .old a1 e
theorem aKk (W:World):W.drew.heap=W.heap:=rfl
theorem aUv (W:World):Below W.heap.size W W.drew:=aW.drew
theorem aIb (W:World)(g q:Nat)(v0 v1 v2 v3 v4 v5 v6 v7 v8 v9:Value):(((((((((W.setCell ⟨g,q,none⟩ v0).setCell ⟨g,q+1,none⟩ v1).setCell ⟨g,q+2,none⟩ v2).setCell ⟨g,q+3,none⟩ v3).setCell ⟨g,q+4,none⟩ v4).setCell ⟨g,q+5,none⟩ v5).setCell ⟨g,q+6,none⟩ v6).setCell ⟨g,q+7,none⟩ v7).setCell ⟨g,q+8,none⟩ v8).setCell ⟨g,q+9,none⟩ v9=mB W g q [v0,v1,v2,v3,v4,v5,v6,v7,v8,v9]:=rfl
theorem aF5 (hg:w.heap.size<=g){l:List Value}(q:Nat)(W:World)(h:Below w.heap.size w W):Below w.heap.size w (mB W g q l):=by
 have hb:=jV g l q W W (dI.refl g W);exact⟨hb.os.trans h.os,hb.tape.trans h.tape,hb.output.trans h.output,dR h.size hb.size,λk hk=>(hb.block k (kG hk h.size) (by omega)).trans (h.block k hk)⟩
theorem aQ2.below {ov:Option Nat}(h:aQ2 F ov W W')(hb:Below w.heap.size w W)(hF:w.heap.size<=F)(ho:∀j,ov=some j->w.heap.size<=j):Below w.heap.size w W':=
 ⟨h.os.trans hb.os,h.tape.trans hb.tape,h.output.trans hb.output,dR hb.size h.size,λk hk=>(h.block k (kG hk hb.size) (by omega) (λe=>by have:=ho k e;omega)).trans (hb.block k hk)⟩
theorem aS7 {cs:Array Value}{T:TypeId}(hb:Below w.heap.size w W)(hF:W.heap[F]? =some (.cells cs T (0,0))):St w [(F,cs,T)] (λ_=>True) W:=
 ⟨hb,λx hx=>by simp at hx;subst hx;exact hF,List.pairwise_singleton _ _,trivial,λ_ _ _ _=>trivial⟩
theorem aPj (k:Int)(l:Nat):sF k (l:Int)<=4:=by
 unfold sF;split<;>omega
theorem aPx :∀M:List aP,wt M<=M.length*4
 |[]=>aH
 |x::M=>by
  have:=aPx M;have:=aPj x.sk.kind x.sk.lev;simp only[wt,List.map_cons,List.sum_cons,List.length_cons] at*;omega
theorem eN.aYa (h:eN W g M){i:Nat}{lab:List dQ}{sk:Sk}{sn:Nat}{ls:Option Addr}{lc:Nat}{es:Option Addr}{ec:Nat}{cs:Option Addr}{cc:Nat}{gs:Option Addr}{gc:Nat}(hx:M[i]? =some ⟨lab,sk,sn,⟨ls,lc⟩,⟨⟨es,ec⟩,⟨cs,cc⟩,⟨gs,gc⟩⟩⟩):
  (∀o,W.frozen? ⟨g,o,none⟩=false)/\W.cell? ⟨g,i*12+1,none⟩=some (.int .i64 sk.kind)/\W.cell? ⟨g,i*12+2,none⟩=some (.int .i64 sk.lev)/\W.cell? ⟨g,i*12+3,none⟩=some (.slice es sk.e.length ec)/\W.cell? ⟨g,i*12+4,none⟩=some (.int .i64 sk.bits)/\W.cell? ⟨g,i*12+5,none⟩=some (.string sk.aWx)/\W.cell? ⟨g,i*12+6,none⟩=some (.int .i64 sk.rows)/\W.cell? ⟨g,i*12+7,none⟩=some (.int .i64 sk.aWv)/\W.cell? ⟨g,i*12+8,none⟩=some (.slice cs sk.c.length cc)/\W.cell? ⟨g,i*12+9,none⟩=some (.int .i64 sk.aWw)/\W.cell? ⟨g,i*12+10,none⟩=some (.slice gs sk.g.length gc):=by
 have hc:=h.cells hx;obtain⟨cur,h1,h2,h3⟩:=h;exact⟨λo=>bB h1 o,hc 1 _ rfl,hc 2 _ rfl,hc 3 _ rfl,hc 4 _ rfl,hc 5 _ rfl,hc 6 _ rfl,hc 7 _ rfl,hc 8 _ rfl,hc 9 _ rfl,hc 10 _ rfl⟩
theorem aPp (T:List aP)(hT:pS T)(hne:T≠[])(t:Hd)(bud:Int)(w:World)(hG:aQ w)(hR:mN w t T):Calls prog 72 #[.slice t.s T.length t.cap,.int .i64 bud] w λe w'=>QuP w T bud e w'/\Below w.heap.size w w':=by
 have HR:=aA (eP T hT t w hG hR);have HC:=aA (λW (hW:Below w.heap.size w W)=>aCg T hT hne t W (hR.aWu hW));have HT:=aA (aB hT (aB hG hne));obtain⟨ts,tc⟩:=t;clear hT hG hR hne;show Calls prog 72 #[.slice ts T.length tc,.int .i64 bud] w _;simp only at HR HC;go_enter func72,ntmps72;go_wp2_with fail;refine HR.out.mono ?_;rintro e w1 ⟨⟨b,rfl,hb⟩,hb1⟩;have HB:=aA hb;clear HR hb;cases b with
 |false=>
  go_wp2_with fail;exact bodyPost_ret (v:=.tuple #[.slice none 0 0,.slice none 0 0,.int .i64 120]) (by simp[results,results72,go_sem]) rfl ⟨.inl ⟨120,by decide,rfl,λ⟨_,_,x,h1,h2,_⟩=>by have:=HB.out (.inr ⟨x,h1,h2⟩);cases this⟩,hb1⟩
 |true=>
 clear HB;go_wp2_with fail;refine(aF3 bud _).mono ?_;rintro e w2 ⟨⟨b,rfl,hb⟩,rfl⟩;have HB:=aA hb;clear hb;cases b with
 |false=>
  go_wp2_with fail;exact bodyPost_ret (v:=.tuple #[.slice none 0 0,.slice none 0 0,.int .i64 130]) (by simp[results,results72,go_sem]) rfl ⟨.inl ⟨130,by decide,rfl,λ⟨h1,h2,_⟩=>by have:=HB.out ⟨h1,h2⟩;cases this⟩,hb1⟩
 |true=>
 clear HB;go_wp2_with fail;refine(HC.out _ hb1).mono ?_;rintro e w3 ⟨g,cap,M0,rfl,hcap,hmax,hg,hcore,hrow,hM0,hb3⟩;have hb13:=hb1.trans (hb3.mono hb1.size);obtain⟨n,hn⟩:∃n,T.length=n:=⟨_,rfl⟩;rw[hn] at hcap⊢;have hgw:g<w3.heap.size:=by obtain⟨cur,h⟩:=hrow.blk;exact aC h
 have hlen:M0.length=n:=by have:=congrArg List.length hcore;simp at this;omega
 have hI0:QuI w T bud g w3.heap.size n ⟨none,0⟩ [] M0 (w3.alloc (.cells #[.slice none 0 0,.slice (some ⟨g,0,none⟩) n cap] 242)):=by
  refine QuI.aWu ⟨hrow,hlen,pS.core HT.out.1 hcore,λx hx=>⟨(hM0 x hx).1,(hM0 x hx).2.mono (by have:=hb1.size;omega),.of (hM0 x hx).2 (Nat.lt_succ_self _),.old (hM0 x hx).1 aH,λj e=>by cases e⟩,aL.nil _ _,by have:=aPx M0;have:=HT.out.1.len;simp;omega,λ_=>hcore⟩ (aW.alloc aH _)
 have st0:=((St.start w).to hb13).alloc (cs:= #[.slice none 0 0,.slice (some ⟨g,0,none⟩) n cap]) (T:=242);have HI0:=aA hI0;have HGW:=aA (aB (dR hb1.size hg) hgw);have hFw:w.heap.size<=w3.heap.size:=hb13.size;clear hI0 hrow hM0 hcore hb3 hb13 hb1 HC hlen hg hgw;obtain⟨F,hF⟩:∃F,w3.heap.size=F:=⟨_,rfl⟩;rw[hF] at st0 HI0 HGW hFw;go_wp2_with fail
 try rw[hF]
 try clear hF
 generalize w3.alloc (.cells #[.slice none 0 0,.slice (some ⟨g,0,none⟩) n cap] 242)=w4 at*
 go_loopw [8,9,10,11] (λ_ _ _ _ wr=>∃(M:List aP) (P:List Nat) (ds:Option Addr) (dc pn:Nat),St w [(F,#[.slice ds pn dc,.slice (some ⟨g,0,none⟩) n cap],242)] (λ_=>True) wr/\Hid (P.length=pn)/\Hid (QuI w T bud g F n ⟨ds,dc⟩ P M wr)) (λ_ _ _ _ wr=>wtW wr g n)
 case atStart=>exact⟨M0,[],none,0,0,st0,aA rfl,HI0⟩
 case round=>
  clear st0 HI0;obtain⟨M,P,ds,dc,pn,st,HP,HI⟩:=hrel;have hn':=HI.out.len;have hRd:∀W,Below wr.heap.size wr W->mN W ⟨some ⟨g,0,none⟩,cap⟩ M:=λW hW=>⟨⟨(HI.out.row.aWu hW).rd,by show M.length<=cap;omega,hmax,(λh=>by cases h),dJ.some _ _⟩,λx hx=>(HI.out.s x hx).1.aWu hW⟩;have HCO:=aA (show Calls prog 47 #[.slice (some ⟨g,0,none⟩) n cap] wr _ by have:=lW M HI.out.ok ⟨some ⟨g,0,none⟩,cap⟩ wr (HT.out.2.1.aWu st.below) (hRd wr aW);rw[hn'] at this;exact this);have HV:=aA (show∀W,Below wr.heap.size wr W->Calls prog 117 #[.slice (some ⟨g,0,none⟩) n cap] W _ from λW hW=>by have:=aHp M HI.out.ok ⟨some ⟨g,0,none⟩,cap⟩ W (HT.out.2.1.aWu (st.to hW).below) (hRd W hW);rw[hn'] at this;exact this);have HN:=aA hn';have HW0:=aA (show wtW wr g n=wt M by rw[<-hn'];exact aOh HI.out.row);have rl:=st.rl;clear hRd hn';go_wp2_with fail;refine HCO.out.mono ?_;rintro e w5 ⟨⟨co,rfl,-,hco⟩,hb5⟩;have st5:=st.to hb5;have rl5:=st5.rl;have HNE:=aA (show bud<co->¬Exq T bud from λh ⟨_,_,x,hx,hxl,hxc⟩=>by
   have hm:=HI.out.ex ⟨by omega,by omega,x,hx,hxl,hxc⟩;rw[hx] at hm
   match M,hm,hco with
   |[y],hm,hco=>
    simp[aP.core] at hm;have:=hco y rfl (hm.1.trans hxl);rw[hm.2.1] at this;omega
   |[],hm,_=>simp at hm
   |_::_::_,hm,_=>simp at hm)
  clear hco HCO rl st
  by_cases hbu:bud<co
  .have hgb:decide (co>bud)=true:=by simpa using hbu
   have HNE':=aA (HNE.out hbu);clear hbu HNE;go_wp2_with fail;refine(HV.out _ hb5).mono ?_;rintro e w6 ⟨⟨at_,fd,rfl,hfd⟩,hb6⟩;have hb56:=hb5.trans (hb6.mono hb5.size);have st6:=st5.to hb6;have rl:=st6.rl;have HFD:=aA hfd;clear hfd hb5 hb6 st5 rl5 HV hgb;cases fd with
   |false=>
    go_wp2_with fail;exact bodyPost_ret (v:=.tuple #[.slice none 0 0,.slice none 0 0,.int .i64 130]) (by simp[results,results72,go_sem]) rfl ⟨.inl ⟨130,by decide,rfl,HNE'.out⟩,st6.below⟩
   |true=>
   obtain⟨x,hx,hlev⟩:=HFD.out rfl;obtain⟨lab,sk,sn,⟨ls,lc⟩,⟨⟨es,ec⟩,⟨cs,cc⟩,⟨gs,gc⟩⟩⟩:=x;have hI6:=HI.out.aWu hb56;have hati:at_<n:=by have:=(gJ.1 hx).1;have:=HN.out;omega
   obtain⟨fz,q0,q1,q2,q3,q4,q5,q6,q7,q8,q9⟩:=hI6.row.aYa hx;have hxm:=bK hx;have HLO:=aA (show Calls prog 118 #[.agg #[.int .i64 sk.kind,.int .i64 sk.lev,.slice es sk.e.length ec,.int .i64 sk.bits,.string sk.aWx,.int .i64 sk.rows,.int .i64 sk.aWv,.slice cs sk.c.length cc,.int .i64 sk.aWw,.slice gs sk.g.length gc]] w6 (fD w6 (uS sk)) from aBt sk (hI6.ok.ok _ hxm).1 hlev ⟨⟨es,ec⟩,⟨cs,cc⟩,⟨gs,gc⟩⟩ w6 (hI6.s _ hxm).1.k);have HX:=aA (aB hx (aB hlev hI6));have hF6:=aC (st6.blk _ (bK (i:=0) rfl));have hw6:=st6.below.size;clear hx hlev hI6 hxm hb56 HI HFD;go_wp2_with fail;refine HLO.out.mono ?_;rintro e w7 ⟨y,⟨⟨es2,ec2⟩,⟨cs2,cc2⟩,⟨gs2,gc2⟩⟩,⟨hlow,hyok⟩,rfl,hd7,hf7,hb7⟩;have hI7:=HX.out.2.2.aWu hb7;clear fz q0 q1 q2 q3 q4 q5 q6 q7 q8 q9;have hrow7:=hI7.row.aWu ((Below.refl w7.heap.size w7).alloc aH (.cells #[.int .i64 y.kind,.int .i64 y.lev,.slice es2 y.e.length ec2,.int .i64 y.bits,.string y.aWx,.int .i64 y.rows,.int .i64 y.aWv,.slice cs2 y.c.length cc2,.int .i64 y.aWw,.slice gs2 y.g.length gc2] 103));obtain⟨fz,q0,q1,q2,q3,q4,q5,q6,q7,q8,q9⟩:=hrow7.aYa HX.out.1;have st7:=(st6.to hb7).alloc (cs:= #[.int .i64 y.kind,.int .i64 y.lev,.slice es2 y.e.length ec2,.int .i64 y.bits,.string y.aWx,.int .i64 y.rows,.int .i64 y.aWv,.slice cs2 y.c.length cc2,.int .i64 y.aWw,.slice gs2 y.g.length gc2]) (T:=103);have rl:=st7.rs;have hz7:=hb7.size;have HL7:=aA (HX.out.2.2.low (W3:=w7.alloc (.cells #[.int .i64 y.kind,.int .i64 y.lev,.slice es2 y.e.length ec2,.int .i64 y.bits,.string y.aWx,.int .i64 y.rows,.int .i64 y.aWv,.slice cs2 y.c.length cc2,.int .i64 y.aWw,.slice gs2 y.g.length gc2] 103)) (by have:=HGW.out;omega) hF6 (hb7.alloc hb7.size _) hw6 HX.out.1 HX.out.2.1 hlow hyok (hd7.aWu ((Below.refl w7.heap.size w7).alloc aH (.cells #[.int .i64 y.kind,.int .i64 y.lev,.slice es2 y.e.length ec2,.int .i64 y.bits,.string y.aWx,.int .i64 y.rows,.int .i64 y.aWv,.slice cs2 y.c.length cc2,.int .i64 y.aWw,.slice gs2 y.g.length gc2] 103))) hf7 HNE'.out)
   clear hI7 hrow7 hd7 hf7 hb7 HLO st6;simp only[aR.v,Hd.v];go_wp2_with fail;generalize w7.alloc (.cells #[.int .i64 y.kind,.int .i64 y.lev,.slice es2 y.e.length ec2,.int .i64 y.bits,.string y.aWx,.int .i64 y.rows,.int .i64 y.aWv,.slice cs2 y.c.length cc2,.int .i64 y.aWw,.slice gs2 y.g.length gc2] 103)=w8 at*;generalize w7.heap.size=A at*
   go_region
   go_wp2_with fail;rw[aIb];obtain rfl:=HP.out;have hF8:=st7.blk (F,#[.slice ds P.length dc,.slice (some ⟨g,0,none⟩) n cap],242) (by simp);have hbN:=jV g [.int .i64 y.kind,.int .i64 y.lev,.slice es2 y.e.length ec2,.int .i64 y.bits,.string y.aWx,.int .i64 y.rows,.int .i64 y.aWv,.slice cs2 y.c.length cc2,.int .i64 y.aWw,.slice gs2 y.g.length gc2] (at_*12+1) w8 w8 (dI.refl g w8);have hNw:Below w.heap.size w (mB w8 g (at_*12+1) [.int .i64 y.kind,.int .i64 y.lev,.slice es2 y.e.length ec2,.int .i64 y.bits,.string y.aWx,.int .i64 y.rows,.int .i64 y.aWv,.slice cs2 y.c.length cc2,.int .i64 y.aWw,.slice gs2 y.g.length gc2]):=aF5 (by have:=HGW.out;omega) (at_*12+1) w8 st7.below;have hIN:QuI w T bud g F n ⟨ds,dc⟩ P (M.set at_ ⟨lab,y,sn,⟨ls,lc⟩,⟨⟨es2,ec2⟩,⟨cs2,cc2⟩,⟨gs2,gc2⟩⟩⟩) (mB w8 g (at_*12+1) [.int .i64 y.kind,.int .i64 y.lev,.slice es2 y.e.length ec2,.int .i64 y.bits,.string y.aWx,.int .i64 y.rows,.int .i64 y.aWv,.slice cs2 y.c.length cc2,.int .i64 y.aWw,.slice gs2 y.g.length gc2]):=HL7.out.1;have hwt:=HL7.out.2;generalize mB w8 g (at_*12+1) [.int .i64 y.kind,.int .i64 y.lev,.slice es2 y.e.length ec2,.int .i64 y.bits,.string y.aWx,.int .i64 y.rows,.int .i64 y.aWv,.slice cs2 y.c.length cc2,.int .i64 y.aWw,.slice gs2 y.g.length gc2]=wN at*;have hI9:=hIN.aWu (aUv wN);have hF9:wN.drew.heap[F]? =some (.cells #[.slice ds P.length dc,.slice (some ⟨g,0,none⟩) n cap] 242 (0,0)):=by
    rw[aKk,hbN.block F (aC hF8) (by have:=HGW.out;omega)];exact hF8
   have hb9:Below w.heap.size w wN.drew:=hNw.drew;clear HL7 hIN hbN hNw;generalize wN.drew=w9 at*;generalize M.set at_ ⟨lab,y,sn,⟨ls,lc⟩,⟨⟨es2,ec2⟩,⟨cs2,cc2⟩,⟨gs2,gc2⟩⟩⟩=M9 at*;have hfw:=HX.out.2.2.few;have HI9:=aA hI9;have hFw9:=aC hF9;have HW9:=aA (aB hwt (aB hb9 hfw));have HTL:=aA (aPy F (.slice (some ⟨g,0,none⟩) n cap) ⟨ds,dc⟩ P (by omega) at_ w9 hF9 hI9.own);clear st7 rl fz q0 q1 q2 q3 q4 q5 q6 q7 q8 q9 hF8 hF9 hb9 hI9 hwt hfw hlow hyok;refine HTL.out.mono ?_;rintro e w10 ⟨d',rfl,hF10,hO10,hbut,hj⟩;have hI10:=HI9.out.tell (by have:=HW9.out;omega) (by have:=HGW.out;omega) hFw9 hbut hO10 hj;have st10:=aS7 (hbut.below HW9.out.2.1 hFw (λj e=>by have:=(HI9.out.own.lt j e).1;omega)) hF10;have HM:=aA (show wtW w10 g n<wtW wr g n by
    have h1:=aOh hI10.row;rw[hI10.len] at h1;rw[h1,HW0.out];exact HW9.out.1)
   have HI10:=aA hI10;have rl:=st10.rl;clear hF10 hO10 hbut hj hI10;go_wp2_with fail;go_roundw
   case rel=>exact⟨M9,P++[at_],d'.s,d'.cap,P.length+1,st10,aA (by simp),HI10⟩
   case measure=>exact HM.out
  .have hgb:decide (co>bud)=false:=by simpa using hbu
   have HI5:=aA (HI.out.aWu hb5);have hcapn:n<=cap:=hcap;clear hbu HNE HV hb5;go_wp2_with fail;refine rA st5 12 [.val (pv F 0),.val (pv F 0),.val (pv F 1),.val (.slice (some ⟨g,0,none⟩) n cap),.val (pv F 0),.val (pv F 0),.val (pv F 0),.val (pv F 0),.val (.slice ds pn dc),.val (.slice (some ⟨g,0,none⟩) n cap),.val (.slice ds pn dc),.val (.int .i64 0)] ?spec ?endd
   case spec=>
    refine⟨?_,?_,?_,?_,?_,?_,?_,?_,?_,?_,?_,?_,trivial⟩
    all_goals(intro ρ W kc kf hW sW rl hu hd;simp only[aI] at rl)
    have u7:ρ (.tmp 7)=pv F 0:=cR hu 7;rotate_left;have u67:ρ (.tmp 67)=_:=aK hd 0 67;rotate_left;have u68:ρ (.tmp 68)=_:=aK hd 1 68;rotate_left;have u69:ρ (.tmp 69)=_:=aK hd 2 69;rotate_left;have u7:ρ (.tmp 7)=pv F 0:=cR hu 7;rotate_left;have u71:ρ (.tmp 71)=_:=aK hd 4 71;rotate_left;have u72:ρ (.tmp 72)=_:=aK hd 5 72;rotate_left;have u73:ρ (.tmp 73)=_:=aK hd 6 73;rotate_left;have u74:ρ (.tmp 74)=_:=aK hd 7 74;rotate_left;have u70:ρ (.tmp 70)=_:=aK hd 3 70;rotate_left;have u75:ρ (.tmp 75)=_:=aK hd 8 75;rotate_left;rotate_left
    all_goals(refine aF rfl ?_;go_simp;exact aG rfl)
   case endd=>
    intro v W hW sW rl _;simp only[aI] at rl;refine wpList_nil ?_;go_frame;go_wp2_with fail;have hI:=HI5.out.aWu hW;refine bodyPost_ret (v:=.tuple #[.slice (some ⟨g,0,none⟩) n cap,.slice ds pn dc,.int .i64 0]) (by simp[results,results72,go_sem]) rfl ⟨.inr ⟨⟨some ⟨g,0,none⟩,cap⟩,M,⟨ds,dc⟩,pn,by rw[HN.out],⟨⟨⟨hI.row.rd,by rw[HN.out];exact hcapn,hmax,(λh=>by cases h),dJ.some _ _⟩,λx hx=>(hI.s x hx).1⟩,hI.ok,λg' o e=>by cases e;exact HGW.out.1,λx hx=>(hI.s x hx).2.1⟩,hI.ex⟩,sW.below⟩
theorem aBg (ts:Option Addr)(tc:Nat)(w:World)(hR:mN w ⟨ts,tc⟩ []):Calls prog 116 #[.slice ts 0 tc] w λe w'=>(∃d:Hd,e=.returned (.slice d.s 0 d.cap)/\bS 12 aN w' d ([]:List aP)/\aT w.heap.size d)/\Below w.heap.size w w':=by
 have HC:=aA (aGn [] (by simp) ⟨ts,tc⟩ w hR.t);clear hR;go_enter func116,ntmps116;go_wp2_with fail;refine HC.out.mono ?_;rintro e w1 ⟨⟨ds,dc⟩,rfl,hd,hf,hb1⟩;have HD:=aA (aB hd (aB hf hb1));clear hd hf hb1;simp only[Hd.v,List.length_nil];go_wp2_with fail;refine wp_loop_rounds 1 ?_;rw[rounds_succ];go_wp2_with fail;go_ret;exact⟨⟨⟨ds,dc⟩,rfl,HD.out.1,HD.out.2.1⟩,HD.out.2.2⟩
theorem aIm (b:Int)(w:World):Calls prog 115 #[.int .i64 b] w λe w'=>mW (λq=>q=true->0<=b) e/\w'=w:=by
 by_cases h0:0<=b
 .have h0':decide (b≥0)=true:=by simpa using h0
  go_enter func115,ntmps115;go_wp2_with fail;go_ret;exact⟨⟨_,rfl,λ_=>h0⟩,rfl⟩
 .have h0':decide (b≥0)=false:=by simpa using h0
  go_enter func115,ntmps115;go_wp2_with fail;go_ret;exact⟨⟨false,rfl,λh=>by cases h⟩,rfl⟩
theorem aJ6 (ts:Option Addr)(tc:Nat)(bud:Int)(w:World)(hG:aQ w)(hR:mN w ⟨ts,tc⟩ []):Calls prog 72 #[.slice ts 0 tc,.int .i64 bud] w λe w'=>QuP w [] bud e w'/\Below w.heap.size w w':=by
 have hT:pS []:=⟨by simp,λx hx=>by cases hx⟩;have hne:¬Exq [] bud:=λ⟨_,_,x,h,_⟩=>by cases h
 have HR:=aA (eP [] hT ⟨ts,tc⟩ w hG hR);have HC:=aA (λW (hW:Below w.heap.size w W)=>aBg ts tc W (hR.aWu hW));have HT:=aA (aB hT (aB hG hne));clear hT hG hR hne;simp only[List.length_nil] at HR;go_enter func72,ntmps72;go_wp2_with fail;refine HR.out.mono ?_;rintro e w1 ⟨⟨b,rfl,-⟩,hb1⟩;clear HR;cases b with
 |false=>
  go_wp2_with fail;exact bodyPost_ret (v:=.tuple #[.slice none 0 0,.slice none 0 0,.int .i64 120]) (by simp[results,results72,go_sem]) rfl ⟨.inl ⟨120,by decide,rfl,HT.out.2.2⟩,hb1⟩
 |true=>
 go_wp2_with fail;refine(aIm bud _).mono ?_;rintro e w2 ⟨⟨b,rfl,hb⟩,rfl⟩;cases b with
 |false=>
  go_wp2_with fail;exact bodyPost_ret (v:=.tuple #[.slice none 0 0,.slice none 0 0,.int .i64 130]) (by simp[results,results72,go_sem]) rfl ⟨.inl ⟨130,by decide,rfl,HT.out.2.2⟩,hb1⟩
 |true=>
 have hgb:decide ((0:Int)>bud)=false:=by have:=hb rfl;simpa using this
 clear hb;go_wp2_with fail;refine(HC.out _ hb1).mono ?_;rintro e w3 ⟨⟨⟨ds,dc⟩,rfl,hd,hf⟩,hb3⟩;have hb13:=hb1.trans (hb3.mono hb1.size);have st0:=((St.start w).to hb13).alloc (cs:= #[.slice none 0 0,.slice ds 0 dc]) (T:=242);have hal:=(Below.refl w3.heap.size w3).alloc aH (.cells #[.slice none 0 0,.slice ds 0 dc] 242);have HD:=aA (aB (hd.aWu hal) (hf.mono hb1.size));have hz3:=hb13.size;clear hd hf hb3 hb13 HC hal;simp only;go_wp2_with fail;generalize w3.alloc (.cells #[.slice none 0 0,.slice ds 0 dc] 242)=w4 at*;generalize w3.heap.size=F at*;refine wp_loop_rounds 1 ?_;rw[rounds_succ];have rl:=st0.rl;have HCO:=aA (show Calls prog 47 #[.slice ds 0 dc] w4 _ from lW [] HT.out.1 ⟨ds,dc⟩ w4 (HT.out.2.1.aWu st0.below) ⟨HD.out.1,λx hx=>by cases hx⟩);go_wp2_with fail;refine HCO.out.mono ?_;rintro e w5 ⟨⟨co,rfl,hco,-⟩,hb5⟩;have hc0:=hco rfl;subst hc0;clear hco;have st5:=st0.to hb5;have HD5:=aA (aB (HD.out.1.aWu hb5) HD.out.2);clear st0 hb5 HCO rl;have rl:=st5.rl;go_wp2_with fail;refine rA st5 12 [.val (pv F 0),.val (pv F 0),.val (pv F 1),.val (.slice ds 0 dc),.val (pv F 0),.val (pv F 0),.val (pv F 0),.val (pv F 0),.val (.slice none 0 0),.val (.slice ds 0 dc),.val (.slice none 0 0),.val (.int .i64 0)] ?spec ?endd
 case spec=>
  refine⟨?_,?_,?_,?_,?_,?_,?_,?_,?_,?_,?_,?_,trivial⟩
  all_goals(intro ρ W kc kf hW sW rl hu hd;simp only[aI] at rl)
  have u7:ρ (.tmp 7)=pv F 0:=cR hu 7;rotate_left;have u67:ρ (.tmp 67)=_:=aK hd 0 67;rotate_left;have u68:ρ (.tmp 68)=_:=aK hd 1 68;rotate_left;have u69:ρ (.tmp 69)=_:=aK hd 2 69;rotate_left;have u7:ρ (.tmp 7)=pv F 0:=cR hu 7;rotate_left;have u71:ρ (.tmp 71)=_:=aK hd 4 71;rotate_left;have u72:ρ (.tmp 72)=_:=aK hd 5 72;rotate_left;have u73:ρ (.tmp 73)=_:=aK hd 6 73;rotate_left;have u74:ρ (.tmp 74)=_:=aK hd 7 74;rotate_left;have u70:ρ (.tmp 70)=_:=aK hd 3 70;rotate_left;have u75:ρ (.tmp 75)=_:=aK hd 8 75;rotate_left;rotate_left
  all_goals(refine aF rfl ?_;go_simp;exact aG rfl)
 case endd=>
  intro v W hW sW rl _;simp only[aI] at rl;refine wpList_nil ?_;go_frame;go_wp2_with fail;refine bodyPost_ret (v:=.tuple #[.slice ds 0 dc,.slice none 0 0,.int .i64 0]) (by simp[results,results72,go_sem]) rfl ⟨.inr ⟨⟨ds,dc⟩,[],⟨none,0⟩,0,rfl,⟨⟨HD5.out.1.aWu hW,λx hx=>by cases hx⟩,HT.out.1,HD5.out.2,λx hx=>by cases hx⟩,λ_=>rfl⟩,sW.below⟩
theorem aAg (T:List aP)(hT:pS T)(t:Hd)(bud:Int)(w:World)(hG:aQ w)(hR:mN w t T):Calls prog 72 #[.slice t.s T.length t.cap,.int .i64 bud] w λe w'=>QuP w T bud e w'/\Below w.heap.size w w':=by
 by_cases hne:T=[]
 .subst hne;exact aJ6 t.s t.cap bud w hG hR
 .exact aPp T hT hne t bud w hG hR
end Go.Proofs.YtmgdbfmlnmahpaaGreatDoor
