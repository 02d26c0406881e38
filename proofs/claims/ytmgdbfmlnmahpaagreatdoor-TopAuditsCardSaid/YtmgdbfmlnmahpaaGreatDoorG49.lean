/- Part of TopAudits. -/
import Derived.Test.YtmgdbfmlnmahpaaGreatDoorG48
namespace Go.Proofs.YtmgdbfmlnmahpaaGreatDoor
set_option linter.unusedSimpArgs false
set_option linter.unusedVariables false
set_option maxRecDepth 100000
set_option maxHeartbeats 4000000
open Go.Proofs.Tryz
open Go.RowKit Go.Shelf
def aKd (op:Int):Nat:=if op=1 then 15 else if op=2 then 16 else if op=3 then 17 else if op=4 then 18 else if op=5 then 19 else if op=6 then 20 else 21
theorem lZ.look {W:World}{m C b id:Nat}(h:lZ W m C b id){op:Int}(h1:1<=op)(h7:op<=7):(Instr.lookup 68 (.map (some m)) (.int .i64 op) true).run prog W=.ok (.tuple #[lA (aKd op) C b id,.bool true]) W:=by
 rcases(show op=1\/op=2\/op=3\/op=4\/op=5\/op=6\/op=7 by omega) with rfl|rfl|rfl|rfl|rfl|rfl|rfl
 .exact h.aYb
 .exact h.aYc
 .exact h.aYd
 .exact h.aYe
 .exact h.aYf
 .exact h.aYg
 .exact h.aYh
theorem lZ.aX8 {W:World}{m C b id:Nat}(h:lZ W m C b id){op:Int}(ho: -9223372036854775808<=op/\op<=9223372036854775807)(hn:op<1\/7<op):(Instr.lookup 68 (.map (some m)) (.int .i64 op) true).run prog W=.ok (.tuple #[.nilFunc,.bool false]) W:=by
 obtain⟨v,ps,hrun,hv⟩:=World.ownsMap.look_ok h bQ kF (nU _) (zp:=[]) rfl (Maps.keyOf_int_mk underlying3 (WalkArith.wf_i64 ho));have hne:∀k:Int,1<=k->k<=7->(Lit.int .i64 op)≠Lit.int .i64 k:=λk h1 h2 e=>by
  injection e with _ e;omega
 have h2:Maps.has (doD C b id) (.int .i64 op)=false:=by
  unfold doD;rw[Maps.has_put_other (hne 7 (by decide) (by decide)),Maps.has_put_other (hne 6 (by decide) (by decide)),Maps.has_put_other (hne 5 (by decide) (by decide)),Maps.has_put_other (hne 4 (by decide) (by decide)),Maps.has_put_other (hne 3 (by decide) (by decide)),Maps.has_put_other (hne 2 (by decide) (by decide)),Maps.has_put_other (hne 1 (by decide) (by decide))];rfl
 have h1:(doD C b id).atKey (.int .i64 op) (.held .nilFunc)=.held .nilFunc:=Maps.atKey_of_not_has h2 _;rw[h1] at hv;rw[h2] at hrun;simp only[gQ,Option.some.injEq,Prod.mk.injEq,DataW.held.injEq] at hv;rw[hrun,hv.1]
theorem aE7 (op:Int)(args:Array Value)(w:World):(callFunc (aKd op) args).run prog w=.ok (.enter (aKd op) args) w:=by
 unfold aKd;split
 .exact enters_of func15 (by kernel_rfl) rfl args w
 split
 .exact enters_of func16 (by kernel_rfl) rfl args w
 split
 .exact enters_of func17 (by kernel_rfl) rfl args w
 split
 .exact enters_of func18 (by kernel_rfl) rfl args w
 split
 .exact enters_of func19 (by kernel_rfl) rfl args w
 split
 .exact enters_of func20 (by kernel_rfl) rfl args w
 exact enters_of func21 (by kernel_rfl) rfl args w
abbrev Pa (P:Nat->Prop)(w W:World):Nat->Prop:=λg=>P g/\(g<w.heap.size\/W.heap.size<=g)
def DrU (P:Nat->Prop)(b:Nat)(c:fE)(x:bR)(F:Int->Int->List bT->bR->Prop)(w:World)(e:Ending)(w':World):Prop:=
 ∃(N:Int) (s1:Option Addr) (n1 c1:Nat) (es:Hd) (LL:List bT) (E:Int) (z:bR),e=.returned (.tuple #[.agg #[.int .i64 0,.int .u64 N,.slice s1 n1 c1,.slice es.s LL.length es.cap],.int .i64 E])/\bS 4 bT.cells w' es LL/\aT w.heap.size es/\bX [b] w w'/\dW w' b c z/\cX P w' z/\(E≠0->z=x)/\F E N LL z
def DoU (P:Nat->Prop)(b:Nat)(c:fE)(x:bR)(ok:Prop)(F:Int->Int->List bT->bR->Prop)(w:World)(e:Ending)(w':World):Prop:=
 ∃(N:Int) (s1:Option Addr) (n1 c1:Nat) (es:Hd) (LL:List bT) (E:Int) (z:bR),e=.returned (.agg #[.int .i64 E,.int .u64 N,.slice s1 n1 c1,.slice es.s LL.length es.cap])/\bS 4 bT.cells w' es LL/\bX [b] w w'/\dW w' b c z/\cX P w' z/\(E≠0->z=x)/\(E=0->ok)/\(ok->F E N LL z)
theorem aMe (P:Nat->Prop)(C:Nat)(ka kb:BitVec 64)(ids bs:List Nat)(cs:List fE)(xs:List bR)(id:Nat)(hid:id∉ids)(role:Int)(ex:Nat)(op:Int)(now:Nat)(lab sc:ByteArray)(kd:Int)(si:Option Addr)(ni ci hq to rid:Nat)(sn:Option Addr)(nn cn:Nat)(w:World)(hS:iU P w C ka kb ids bs cs xs):
  Calls prog 8 #[pv C 0,.agg #[.int .u64 id,.int .i64 role,.int .u64 ex],.agg #[.int .i64 op,.int .u64 now,.string lab,.string sc,.int .i64 kd,.slice si ni ci,.int .u64 hq,.int .u64 to,.int .u64 rid,.slice sn nn cn]] w λe w'=>e=.returned (.agg #[.int .i64 170,.int .u64 0,.slice none 0 0,.slice none 0 0])/\Below w.heap.size w w':=by
 have f3:=(((Fr.start w []).alloc (cs:= #[.int .u64 id,.int .i64 role,.int .u64 ex]) (T:=39)).alloc (cs:= #[.int .i64 op,.int .u64 now,.string lab,.string sc,.int .i64 kd,.slice si ni ci,.int .u64 hq,.int .u64 to,.int .u64 rid,.slice sn nn cn]) (T:=43)).alloc (cs:= #[.int .i64 0,.int .u64 0,.slice none 0 0,.slice none 0 0]) (T:=36);simp only[World.size_alloc] at f3;have hb3:=f3.fr.below;have HF:=aA (show∀W,Below w.heap.size w W->Calls prog 11 #[pv C 0,.int .u64 id] W λe w'=>e=.returned (.pointer none)/\w'=W from by
  rcases aA1 hS id with⟨_,h⟩|⟨n,b,c,x,h,_⟩
  .exact h
  .exact(hid (bK h)).elim)
 have rl:=f3.rs;clear hS hid;go_enter func8,ntmps8;go_wp2_with fail;refine(uP _ _).mono ?_;rintro e w0 ⟨rfl,hw0⟩;rw[<-hw0] at f3 hb3;clear hw0 rl;have rl:=f3.rl;go_wp2_with fail;refine(HF.out _ hb3).mono ?_;rintro e w1 ⟨rfl,rfl⟩;have g0:=f3.sx 0 (A:=w.heap.size+1+1) rfl (.inr (by omega)) (o:=0) (v:=.int .i64 170);have g1:=g0.sx 0 (A:=w.heap.size+1+1) rfl (.inr (by omega)) (o:=1) (v:=.int .u64 0);have g2:=g1.sx 0 (A:=w.heap.size+1+1) rfl (.inr (by omega)) (o:=2) (v:=.slice none 0 0);have g3:=g2.sx 0 (A:=w.heap.size+1+1) rfl (.inr (by omega)) (o:=3) (v:=.slice none 0 0);have rl9:=g3.rl;go_wp2_with fail;exact bodyPost_ret (v:=.agg #[.int .i64 170,.int .u64 0,.slice none 0 0,.slice none 0 0]) (by simp[results,results8,go_sem,rl9]) rfl ⟨rfl,g3.fr.below⟩
theorem aGa (P:Nat->Prop)(C:Nat)(ka kb:BitVec 64)(ids bs:List Nat)(cs:List fE)(xs:List bR)(n b:Nat)(c:fE)(x:bR)(id:Nat)(hin:ids[n]? =some id)(hbn:bs[n]? =some b)(hcn:cs[n]? =some c)(hxn:xs[n]? =some x)(role:Int)(ex:Nat)(op:Int)(hop: -9223372036854775808<=op/\op<=9223372036854775807)(now:Nat)(lab sc:ByteArray)(kd:Int)(si:Option Addr)(ni ci hq to rid:Nat)(sn:Option Addr)(nn cn:Nat)(w:World)(hS:iU P w C ka kb ids bs cs xs)
  (F:Int->Int->List bT->bR->Prop) (hF0:∀E N LL z,E≠0->F E N LL z->F E 0 [] z)
  (HM:1<=op->op<=7->∀W,Below w.heap.size w W->w.heap.size+3<=W.heap.size->Calls prog (aKd op) #[.agg #[pv C 0,pv b 0,.int .u64 id],.agg #[.int .i64 op,.int .u64 now,.string lab,.string sc,.int .i64 kd,.slice si ni ci,.int .u64 hq,.int .u64 to,.int .u64 rid,.slice sn nn cn]] W (DrU (Pa P w W) b c x F W)):
  Calls prog 8 #[pv C 0,.agg #[.int .u64 id,.int .i64 role,.int .u64 ex],.agg #[.int .i64 op,.int .u64 now,.string lab,.string sc,.int .i64 kd,.slice si ni ci,.int .u64 hq,.int .u64 to,.int .u64 rid,.slice sn nn cn]] w (DoU P b c x (1<=op/\op<=7/\nL role op=true) F w):=by
 obtain⟨h0,hx,-⟩:=hS.at' n b c x hbn hcn hxn;obtain⟨hb4,hb⟩:=hS.blk b (bK hbn);have hbw:=aC h0;have REF:Hid (∀W (E:Int),E≠0->¬(1<=op/\op<=7/\nL role op=true)->Below w.heap.size w W->DoU P b c x (1<=op/\op<=7/\nL role op=true) F w (.returned (.agg #[.int .i64 E,.int .u64 0,.slice none 0 0,.slice none 0 0])) W):=aA (λW E hE hno hW=>
  ⟨0,none,0,0,⟨none,0⟩,[],E,x,rfl,bS.none _,.of hW,(hW.block b hbw).trans h0,hx.aWu hW,λ_=>rfl,λh=>(hE h).elim,λh=>(hno h).elim⟩)
 have f3:=(((Fr.start w []).alloc (cs:= #[.int .u64 id,.int .i64 role,.int .u64 ex]) (T:=39)).alloc (cs:= #[.int .i64 op,.int .u64 now,.string lab,.string sc,.int .i64 kd,.slice si ni ci,.int .u64 hq,.int .u64 to,.int .u64 rid,.slice sn nn cn]) (T:=43)).alloc (cs:= #[.int .i64 0,.int .u64 0,.slice none 0 0,.slice none 0 0]) (T:=36);simp only[World.size_alloc] at f3;have hb3:=f3.fr.below;have hz3:(((w.alloc (.cells #[.int .u64 id,.int .i64 role,.int .u64 ex] 39)).alloc (.cells #[.int .i64 op,.int .u64 now,.string lab,.string sc,.int .i64 kd,.slice si ni ci,.int .u64 hq,.int .u64 to,.int .u64 rid,.slice sn nn cn] 43)).alloc (.cells #[.int .i64 0,.int .u64 0,.slice none 0 0,.slice none 0 0] 36)).heap.size=w.heap.size+3:=by simp
 have HF:=aA (show∀W,Below w.heap.size w W->Calls prog 11 #[pv C 0,.int .u64 id] W λe w'=>e=.returned (pv b 0)/\w'=W from by
  rcases aA1 hS id with⟨h,_⟩|⟨n',b',c',x',h1,h2,_,_,h⟩
  .exact(h (bK hin)).elim
  .have e:n'=n:=Classical.byContradiction λe=>tE hS.ind h1 hin e rfl;subst e;rw[hbn] at h2;cases h2;exact h)
 have HH:=aA (aB h0 (aB hx (aB hb (aB hF0 HM))));have rl:=f3.rs;clear hS h0 hx hb4 hb hin hbn hcn hxn hF0 HM;go_enter func8,ntmps8;go_wp2_with fail;refine(uP _ _).mono ?_;rintro e w0 ⟨rfl,hw0⟩;rw[<-hw0] at f3 hb3 hz3;have HZ:=aA hz3;clear hw0 rl hz3;have rl:=f3.rl;go_wp2_with fail;refine(HF.out _ hb3).mono ?_;rintro e wf ⟨rfl,hwf⟩;obtain rfl:=hwf.symm;have f4:=f3.alloc (cs:= #[pv C 0,pv b 0,.int .u64 id]) (T:=66);have bl4:=f4.fr.below;obtain⟨w1,w2,w3,w5,w6,w7,w8,h1,h2,h3,h4,h5,h6,h7,hD,b1,b2,b3,b5,b6,b7,b8⟩:=aUz (w0.alloc (.cells #[pv C 0,pv b 0,.int .u64 id] 66)) C b id;have hz4:(w0.alloc (.cells #[pv C 0,pv b 0,.int .u64 id] 66)).heap.size=w0.heap.size+1:=by simp
 have hlkY:1<=op->op<=7->_:=λq1 q7=>hD.look (op:=op) q1 q7;have hlkN:(op<1\/7<op)->_:=λq=>hD.aX8 hop q;have HLK:=aA (aB hlkY hlkN);rw[hz4] at h1 h2 h3 h4 h5 h6 h7 HLK;have r1:=(f4.to b1).rules;have r2:=(f4.to b2).rules;have r3:=(f4.to b3).rules;have r5:=(f4.to b5).rules;have r6:=(f4.to b6).rules;have r7:=(f4.to b7).rules;have f8:=f4.to b8;have r8:=f8.rules;simp only[aI,World.size_alloc] at r1 r2 r3 r5 r6 r7 r8;have hmm:= @run_makeMap prog;have hmf:∀(fn:Fn) (first cap:Array Value) (w:World),(Instr.makeFunc fn first cap).run prog w=.ok (.func fn first cap) w:=λ_ _ _ _=>rfl;have hE:=aE7 op;have hsz8:w.heap.size+3<=w8.heap.size:=by have:=b8.size;rw[hz4,HZ.out] at this;omega
 clear f3 hb3 f4 bl4 b1 b2 b3 b5 b6 b7 b8 hD hlkY hlkN HF
 by_cases hval:1<=op/\op<=7
 rotate_left
 .have hlk:=HLK.out.2 (by omega);have HV:=aA hval;clear hval HLK;have rl8:=f8.rl;have g0:=f8.sx 1 (A:=w.heap.size+1+1) rfl (.inr (by omega)) (o:=0) (v:=.int .i64 191);have g1:=g0.sx 1 (A:=w.heap.size+1+1) rfl (.inr (by omega)) (o:=1) (v:=.int .u64 0);have g2:=g1.sx 1 (A:=w.heap.size+1+1) rfl (.inr (by omega)) (o:=2) (v:=.slice none 0 0);have g3:=g2.sx 1 (A:=w.heap.size+1+1) rfl (.inr (by omega)) (o:=3) (v:=.slice none 0 0);have rl9:=g3.rl;go_wp2_with fail;exact bodyPost_ret (v:=.agg #[.int .i64 191,.int .u64 0,.slice none 0 0,.slice none 0 0]) (by simp[results,results8,go_sem,rl9]) rfl (REF.out _ 191 (by decide) (λh=>HV.out ⟨h.1,h.2.1⟩) g3.fr.below)
 have hlk:=HLK.out.1 hval.1 hval.2;have HV:=aA hval;clear hval HLK;go_wp2_with fail;refine(aR7 role op _).mono ?_;rintro e w9 ⟨rfl,hb9⟩;have f9:=f8.to hb9;have hz9:=hb9.size;clear f8 r1 r2 r3 r5 r6 r7 r8 h1 h2 h3 h4 h5 h6 h7 hlk hb9 hmm rl hz4;have rl:=f9.rl
 by_cases hmay:nL role op=true
 rotate_left
 .have hmay':nL role op=false:=by simpa using hmay
  have HMY:=aA hmay;clear hmay;have g0:=f9.sx 1 (A:=w.heap.size+1+1) rfl (.inr (by omega)) (o:=0) (v:=.int .i64 190);have g1:=g0.sx 1 (A:=w.heap.size+1+1) rfl (.inr (by omega)) (o:=1) (v:=.int .u64 0);have g2:=g1.sx 1 (A:=w.heap.size+1+1) rfl (.inr (by omega)) (o:=2) (v:=.slice none 0 0);have g3:=g2.sx 1 (A:=w.heap.size+1+1) rfl (.inr (by omega)) (o:=3) (v:=.slice none 0 0);have rl9:=g3.rl;go_wp2_with fail;exact bodyPost_ret (v:=.agg #[.int .i64 190,.int .u64 0,.slice none 0 0,.slice none 0 0]) (by simp[results,results8,go_sem,rl9]) rfl (REF.out _ 190 (by decide) (λh=>HMY.out h.2.2) g3.fr.below)
 have HMY:=aA hmay;go_wp2_with fail;clear hmay;refine(HH.out.2.2.2.2 HV.out.1 HV.out.2 w9 f9.fr.below (by omega)).mono ?_;rintro e w10 ⟨N,s1,n1,c1,es,LL,E,z,rfl,hrd,hfs,hfr,hat,hok,hno,hF⟩;have h09:=(f9.fr.below.block b hbw).trans HH.out.1;have f10:=((⟨f9.st,f9.fr.mono (by simp)⟩:Fr w [b] _ w9).add h09 (by have:=HZ.out;intro z hz;simp at hz;rcases hz with rfl|rfl|rfl|rfl<;>simp<;>omega)).row hfr (by simp) hat (by have:=HZ.out;intro z hz;simp at hz;rcases hz with rfl|rfl|rfl|rfl<;>simp<;>omega);simp only[bR.cs] at f10;have f11:=f10.alloc (cs:= #[.int .i64 0,.int .u64 N,.slice s1 n1 c1,.slice es.s LL.length es.cap]) (T:=36);have HQ:Hid (∀v0 v1 v2 v3,bX [w.heap.size+1+1] w10 (((((w10.alloc (.cells #[.int .i64 0,.int .u64 N,.slice s1 n1 c1,.slice es.s LL.length es.cap] 36)).setCell ⟨w.heap.size+1+1,0,none⟩ v0).setCell ⟨w.heap.size+1+1,1,none⟩ v1).setCell ⟨w.heap.size+1+1,2,none⟩ v2).setCell ⟨w.heap.size+1+1,3,none⟩ v3)):=aA (λ_ _ _ _=>((((bX.of (aW.alloc aH _)).set (.inl (by simp))).set (.inl (by simp))).set (.inl (by simp))).set (.inl (by simp)));have hA9:w.heap.size+1+1<w9.heap.size:=by omega
 have HR:=aA (aB hrd (aB hfs (aB hok (aB hno (aB hF hA9)))));clear hrd hfs hfr hat hok hno hF f9 f10 rl h09 hz9 hsz8 hA9 hE;have rl:=f11.rl
 by_cases hE:E=0
 .subst hE;have g0:=f11.sx 3 (A:=w.heap.size+1+1) rfl (.inr (by omega)) (o:=0) (v:=.int .i64 0);have g1:=g0.sx 3 (A:=w.heap.size+1+1) rfl (.inr (by omega)) (o:=1) (v:=.int .u64 N);have g2:=g1.sx 3 (A:=w.heap.size+1+1) rfl (.inr (by omega)) (o:=2) (v:=.slice s1 n1 c1);have g3:=g2.sx 3 (A:=w.heap.size+1+1) rfl (.inr (by omega)) (o:=3) (v:=.slice es.s LL.length es.cap);have rl9:=g3.rl;go_wp2_with fail;refine bodyPost_ret (v:=.agg #[.int .i64 0,.int .u64 N,.slice s1 n1 c1,.slice es.s LL.length es.cap]) (by simp[results,results8,go_sem,rl9]) rfl ?_;obtain⟨hrd,hfs,hok,hno,hF,hA9⟩:=HR.out;refine⟨N,s1,n1,c1,es,LL,0,z,rfl,fX hrd (yN.of (P:=λg=>w9.heap.size<=g) hfs (λg h=>h)) (HQ.out _ _ _ _) (by intro g hg;simp only[List.mem_singleton] at hg;subst hg;omega),g3.fr,g3.blk 1 rfl,(hok.fr (HQ.out _ _ _ _) (by intro g hg;simp only[List.mem_singleton] at hg;subst hg;rintro⟨_,h|h⟩<;>omega)).mono (λg h=>h.1),hno,λ_=>⟨HV.out.1,HV.out.2,HMY.out⟩,λ_=>hF⟩
 have hE':(E !=0)=true:=by simp[hE]
 have HE:=aA hE;clear hE;have g0:=f11.sx 3 (A:=w.heap.size+1+1) rfl (.inr (by omega)) (o:=0) (v:=.int .i64 E);have g1:=g0.sx 3 (A:=w.heap.size+1+1) rfl (.inr (by omega)) (o:=1) (v:=.int .u64 0);have g2:=g1.sx 3 (A:=w.heap.size+1+1) rfl (.inr (by omega)) (o:=2) (v:=.slice none 0 0);have g3:=g2.sx 3 (A:=w.heap.size+1+1) rfl (.inr (by omega)) (o:=3) (v:=.slice none 0 0);have rl9:=g3.rl;go_wp2_with fail;refine bodyPost_ret (v:=.agg #[.int .i64 E,.int .u64 0,.slice none 0 0,.slice none 0 0]) (by simp[results,results8,go_sem,rl9]) rfl ?_;obtain⟨hrd,hfs,hok,hno,hF,hA9⟩:=HR.out;refine⟨0,none,0,0,⟨none,0⟩,[],E,z,rfl,bS.none _,g3.fr,g3.blk 1 rfl,(hok.fr (HQ.out _ _ _ _) (by intro g hg;simp only[List.mem_singleton] at hg;subst hg;rintro⟨_,h|h⟩<;>omega)).mono (λg h=>h.1),hno,λh=>(HE.out h).elim,λ_=>HH.out.2.2.2.1 E N LL z HE.out hF⟩
def opT (op:Int):ByteArray:=if op=1 then⟨#[105,110,103,101,115,116]⟩ else if op=2 then⟨#[113,117,101,114,121]⟩ else if op=3 then⟨#[114,111,108,108,117,112]⟩ else if op=4 then⟨#[103,114,97,110,116]⟩ else⟨#[114,101,118,111,107,101]⟩
structure OpF (c:fE)(x:bR)(op:Int)(now:Nat)(lab sc:ByteArray)(kd:Int)(its:List (Nat×Nat))(rid:Nat)(E N:Int)(LL:List bT)(z:bR):Prop where
 yes:E=0->op<=5->z.L=x.L++[cK c.ka c.kb 0 x.L now (opT op)]/\z.tm=now/\x.tm<=now
 no:5<op->z=x
 au:op=6->E=0/\LL=eW (rid:Int) x.L
 ing:op=1->vG c x now lab kd its->E=0/\z.T.map aP.core=[([bA],.dist (dS its),now)]
 qry:op=2->oO c x now sc kd->E=0/\z.T.map aP.core=x.T.map aP.core/\∃m:Nat,N=(m:Int)/\yW x.T m
theorem OpF.zero {c:fE}{x:bR}{op:Int}{now:Nat}{lab sc:ByteArray}{kd:Int}{its:List (Nat×Nat)}{rid:Nat}(E N:Int)(LL:List bT)(z:bR)(hE:E≠0)(h:OpF c x op now lab sc kd its rid E N LL z):OpF c x op now lab sc kd its rid E 0 [] z:=
 ⟨λe=>(hE e).elim,h.no,λo=>(hE (h.au o).1).elim,λo X=>(hE (h.ing o X).1).elim,λo X=>(hE (h.qry o X).1).elim⟩
theorem DrP.toU {P:Nat->Prop}{b:Nat}{c:fE}{x:bR}{now:Nat}{tx:ByteArray}{X:Prop}{R:List aP->Prop}{G:Int->Prop}{F:Int->Int->List bT->bR->Prop}{w:World}{e:Ending}{w':World}(h:DrP P b c x now tx X R G w e w')
  (hF:∀E N z,(E=0->z.L=x.L++[cK c.ka c.kb 0 x.L now tx]/\z.tm=now/\x.tm<=now)->(E=0->R z.T)->(E=0->G N)->(X->E=0)->F E N [] z):DrU P b c x F w e w':=by
 obtain⟨N,s1,n1,c1,E,z,rfl,hG,m⟩:=h;exact⟨N,s1,n1,c1,⟨none,0⟩,[],E,z,rfl,bS.none _,(λg o e=>by cases e),m.fr,m.at',m.ok,m.no,hF E N z (λh0=>⟨(m.yes h0).1,(m.yes h0).2.1,(m.yes h0).2.2.1⟩) (λh0=>(m.yes h0).2.2.2) hG m.x⟩
theorem aTb (P:Nat->Prop)(C:Nat)(ka kb:BitVec 64)(ids bs:List Nat)(cs:List fE)(xs:List bR)(n b:Nat)(c:fE)(x:bR)(hbn:bs[n]? =some b)(hcn:cs[n]? =some c)(hxn:xs[n]? =some x)(id:Nat)(op:Int)(now:Nat)(lab sc:ByteArray)(hlb:lab.size<=2000)(hsc:sc.size<=100000)(kd:Int)(its:List (Nat×Nat))(hits:SmI its)(hil:its.length<=1000)(si:Option Addr)(ci hq to rid:Nat)(hhq:hq<=aJ)(hrid:rid<=aJ)(sn:Option Addr)(tl:List Nat)(htl:tl.length<=1000)(cn:Nat)(hn:now<=aJ)(w:World)(hG:aQ w)(hS:iU P w C ka kb ids bs cs xs)(hl29:x.L.length<29)(hI:Rd 2 jH w si its)(hIo:its≠[]->∀g o,si=some ⟨g,o,none⟩->g≠b)(hT:Rd 1 cM w sn tl)(hTo:tl≠[]->∀g o,sn=some ⟨g,o,none⟩->g≠b)
  (h1:1<=op) (h7:op<=7) (W:World) (hW:Below w.heap.size w W):
  Calls prog (aKd op) #[.agg #[pv C 0,pv b 0,.int .u64 id],.agg #[.int .i64 op,.int .u64 now,.string lab,.string sc,.int .i64 kd,.slice si its.length ci,.int .u64 hq,.int .u64 to,.int .u64 rid,.slice sn tl.length cn]] W (DrU (Pa P w W) b c x (OpF c x op now lab sc kd its rid) W):=by
 obtain⟨h0,hx,-⟩:=hS.at' n b c x hbn hcn hxn;obtain⟨hb4,hb⟩:=hS.blk b (bK hbn);have hGW:=hG.aWu hW;have h0W:=(hW.block b (aC h0)).trans h0;have hxW:cX (Pa P w W) W x:=(hx.lt.mono λg h=>⟨h.1,.inl h.2⟩).aWu hW;have hbW:¬Pa P w W b:=λh=>hb h.1;have hPW:∀g,W.heap.size<=g->Pa P w W g:=λg h=>⟨hS.le g (dR hW.size h),.inr h⟩;have hl30:x.L.length<30:=by omega
 rcases(show op=1\/op=2\/op=3\/op=4\/op=5\/op=6\/op=7 by omega) with rfl|rfl|rfl|rfl|rfl|rfl|rfl
 .refine Calls.mono (aPe (Pa P w W) b hbW hb4 c x C id 1 now lab sc kd its si ci hq to rid sn tl.length cn hn hlb hits hil W hPW hGW h0W hxW hl30 (hI.aWu aH hW) hIo) ?_;intro e w' h;exact h.toU (λE N z hy hR hg hX=>⟨λe _=>hy e,(λh=>by omega),(λh=>by omega),λ_ X=>⟨hX X,hR (hX X) X⟩,(λh=>by omega)⟩)
 .refine Calls.mono (aRp (Pa P w W) b hbW hb4 c x C id 2 now lab sc kd its si ci hq to rid sn tl.length cn hn hsc hhq W hPW hGW h0W hxW hl30) ?_;intro e w' h;exact h.toU (λE N z hy hR hg hX=>⟨λe _=>hy e,(λh=>by omega),(λh=>by omega),(λh=>by omega),λ_ X=>⟨hX X,hR (hX X) X,hg (hX X) X⟩⟩)
 .refine Calls.mono (aNo (Pa P w W) C ka kb ids bs cs xs n b c x hbn hcn hxn id 3 now lab sc hsc kd si its.length ci hq to rid hhq sn tl htl cn hn W hGW (hS.ahead hW) hl29 (hT.aWu aH hW) hTo) ?_;intro e w' h;exact h.toU (λE N z hy hR hg hX=>⟨λe _=>hy e,(λh=>by omega),(λh=>by omega),(λh=>by omega),(λh=>by omega)⟩)
 .refine Calls.mono (aRo (Pa P w W) b hbW hb4 c x C id 4 now lab sc kd its si ci hq to rid sn tl.length cn hn hsc W hPW hGW h0W hxW hl30) ?_;intro e w' h;exact h.toU (λE N z hy hR hg hX=>⟨λe _=>hy e,(λh=>by omega),(λh=>by omega),(λh=>by omega),(λh=>by omega)⟩)
 .refine Calls.mono (aOz (Pa P w W) b hbW hb4 c x C id 5 now lab sc kd its si ci hq to rid sn tl.length cn hn W hPW hGW h0W hxW hl30) ?_;intro e w' h;exact h.toU (λE N z hy hR hg hX=>⟨λe _=>hy e,(λh=>by omega),(λh=>by omega),(λh=>by omega),(λh=>by omega)⟩)
 .refine Calls.mono (aR1 (Pa P w W) b c x C id 6 now lab sc kd its si ci hq to rid sn tl.length cn hrid W hGW h0W hxW hl30) ?_;rintro e w' ⟨⟨d,rfl,hd,hf⟩,hbe⟩;exact⟨0,none,0,0,d,eW (rid:Int) x.L,0,x,rfl,hd,hf,.of hbe,(hbe.block b (aC h0W)).trans h0W,hxW.aWu hbe,λ_=>rfl,⟨λ_ h=>by omega,λ_=>rfl,λ_=>⟨rfl,rfl⟩,λh=>by omega,λh=>by omega⟩⟩
 .refine Calls.mono (aSu (Pa P w W) b c x C id 7 now lab sc kd its si ci hq to rid sn tl.length cn W hGW h0W hxW hl30) ?_;rintro e w' ⟨⟨N,rfl⟩,hbe⟩;exact⟨N,none,0,0,⟨none,0⟩,[],0,x,rfl,bS.none _,(λg o e=>by cases e),.of hbe,(hbe.block b (aC h0W)).trans h0W,hxW.aWu hbe,λ_=>rfl,⟨λ_ h=>by omega,λ_=>rfl,λh=>by omega,λh=>by omega,λh=>by omega⟩⟩
def aWg (P:Nat->Prop)(C:Nat)(ka kb:BitVec 64)(ids bs:List Nat)(cs:List fE)(xs:List bR)(id:Nat)(role op:Int)(now:Nat)(lab sc:ByteArray)(kd:Int)(its:List (Nat×Nat))(rid:Nat)(w:World)(e:Ending)(w':World):Prop:=
 (id∉ids/\e=.returned (.agg #[.int .i64 170,.int .u64 0,.slice none 0 0,.slice none 0 0])/\Below w.heap.size w w')\/
 ∃(n b:Nat) (c:fE) (x:bR) (N:Int) (s1:Option Addr) (n1 c1:Nat) (es:Hd) (LL:List bT) (E:Int) (z:bR),ids[n]? =some id/\bs[n]? =some b/\cs[n]? =some c/\xs[n]? =some x/\
  e=.returned (.agg #[.int .i64 E,.int .u64 N,.slice s1 n1 c1,.slice es.s LL.length es.cap])/\bS 4 bT.cells w' es LL/\bX [b] w w'/\iU P w' C ka kb ids bs cs (xs.set n z)/\(E≠0->z=x)/\(E=0->1<=op/\op<=7/\nL role op=true)/\(1<=op/\op<=7/\nL role op=true->OpF c x op now lab sc kd its rid E N LL z)
theorem aK7 (P:Nat->Prop)(C:Nat)(ka kb:BitVec 64)(ids bs:List Nat)(cs:List fE)(xs:List bR)(id:Nat)(role:Int)(ex:Nat)(op:Int)(hop: -9223372036854775808<=op/\op<=9223372036854775807)(now:Nat)(lab sc:ByteArray)(hlb:lab.size<=2000)(hsc:sc.size<=100000)(kd:Int)(its:List (Nat×Nat))(hits:SmI its)(hil:its.length<=1000)(si:Option Addr)(ci hq to rid:Nat)(hhq:hq<=aJ)(hrid:rid<=aJ)(sn:Option Addr)(tl:List Nat)(htl:tl.length<=1000)(cn:Nat)(hn:now<=aJ)(w:World)(hG:aQ w)(hS:iU P w C ka kb ids bs cs xs)(hl29:∀x∈xs,x.L.length<29)(hI:Rd 2 jH w si its)(hIo:its≠[]->∀g o,si=some ⟨g,o,none⟩->g∉bs)(hT:Rd 1 cM w sn tl)(hTo:tl≠[]->∀g o,sn=some ⟨g,o,none⟩->g∉bs):
  Calls prog 8 #[pv C 0,.agg #[.int .u64 id,.int .i64 role,.int .u64 ex],.agg #[.int .i64 op,.int .u64 now,.string lab,.string sc,.int .i64 kd,.slice si its.length ci,.int .u64 hq,.int .u64 to,.int .u64 rid,.slice sn tl.length cn]] w (aWg P C ka kb ids bs cs xs id role op now lab sc kd its rid w):=by
 rcases aA1 hS id with⟨hid,_⟩|⟨n,b,c,x,hin,hbn,hcn,hxn,_⟩
 .refine Calls.mono (aMe P C ka kb ids bs cs xs id hid role ex op now lab sc kd si its.length ci hq to rid sn tl.length cn w hS) ?_;rintro e w' ⟨he,hb⟩;exact .inl ⟨hid,he,hb⟩
 .have hx29:=hl29 x (bK hxn);have hbm:=bK hbn;refine Calls.mono (aGa P C ka kb ids bs cs xs n b c x id hin hbn hcn hxn role ex op hop now lab sc kd si its.length ci hq to rid sn tl.length cn w hS (OpF c x op now lab sc kd its rid) OpF.zero (λh1 h7 W hW _=>aTb P C ka kb ids bs cs xs n b c x hbn hcn hxn id op now lab sc hlb hsc kd its hits hil si ci hq to rid hhq hrid sn tl htl cn hn w hG hS hx29 hI (λh g o e hg=>hIo h g o e (hg▸hbm)) hT (λh g o e hg=>hTo h g o e (hg▸hbm)) h1 h7 W hW)) ?_;rintro e w' ⟨N,s1,n1,c1,es,LL,E,z,rfl,hrd,hf,hz,ho,hno,hok,hF⟩;have hzl:z.L.length<30:=by
   by_cases hE:E=0
   .have hF':=hF (hok hE)
    by_cases h5:op<=5
    .rw[(hF'.yes hE h5).1,List.length_append,List.length_singleton];omega
    .rw[hF'.no (by omega)];omega
   .rw[hno hE];omega
  exact .inr ⟨n,b,c,x,N,s1,n1,c1,es,LL,E,z,hin,hbn,hcn,hxn,rfl,hrd,hf,hS.set hbn hcn hxn hf hz ho hzl,hno,hok,hF⟩
section
variable {ka kb:BitVec 64} {bs:List Nat} {B C:Nat} {W:World}
theorem Fr.aWz {w0:World}{S S':List Nat}{bl:List cH}{W':World}(h:Fr w0 S bl W)(hc:bX S' W W')(hS:∀k∈S',k∈S\/w0.heap.size<=k)(hn:∀x∈bl,x.1∉S'):Fr w0 S bl W':=
 ⟨⟨⟨hc.os.trans h.st.below.os,hc.tape.trans h.st.below.tape,hc.output.trans h.st.below.output,cJ _,λ_ hk=>absurd hk (Nat.not_lt_zero _)⟩,λx hx=>(hc.block x.1 (aC (h.st.blk x hx)) (hn x hx)).trans (h.st.blk x hx),h.st.nd,trivial,λ_ _ _ _=>trivial⟩,h.fr.trans hc hS⟩
theorem tS (ka kb:BitVec 64)(tx:ByteArray)(h:tx.size<=200)(n:Nat):jE ka kb 0 [] n tx:=⟨⟨by simp,λ_=>rfl,λx h=>by simp at h,λi x h=>by simp at h,λi p x h=>by simp at h,rfl⟩,h,by decide,λx hx=>by simp at hx⟩
theorem aJ9 (ka kb:BitVec 64):jE ka kb 0 (iP ka kb 0 [] (0:Nat) ⟨#[105,110,103,101,115,116]⟩) (0:Nat) ⟨#[113,117,101,114,121]⟩:=by
 have h:=aM0 ka kb 0 [] (by simp) (0:Nat) ⟨#[105,110,103,101,115,116]⟩ (tS ka kb ⟨#[105,110,103,101,115,116]⟩ (by decide) 0);refine⟨h,by decide,?_,λx hx=> ?_⟩
 .rw[aL2];decide
 .have e:iP ka kb 0 [] (0:Nat) ⟨#[105,110,103,101,115,116]⟩=[cK ka kb 0 [] (0:Nat) ⟨#[105,110,103,101,115,116]⟩]:=rfl;rw[e] at hx;simp at hx;subst hx;exact Int.le_refl _
def aOj (ka kb:BitVec 64)(c:mH):fE:=⟨c.id,c.bu,c.ttl,(rN ka kb c.id).1,(rN ka kb c.id).2⟩
def tnZ :bR:=⟨[],⟨none,0⟩,1,[],⟨none,0⟩,[],⟨none,0⟩,0⟩
theorem aUf (P:Nat->Prop)(W:World):cX P W tnZ:=
 ⟨jC.none P W,bS.none _,⟨by simp[tnZ],by simp[tnZ]⟩,λh=>(h rfl).elim,(by decide),bS.none _,(λy hy=>by cases hy),λh=>(h rfl).elim,(by decide)⟩
structure nN (P:Nat->Prop)(B:Nat)(C:Nat)(ka kb:BitVec 64)(ids bs:List Nat)(cs:List fE)(xs:List bR)(W:World):Prop where
 s:iU P W C ka kb ids bs cs xs
 u:aQ W
 B:∀b∈bs,B<=b
theorem aQ.four (h:aQ W):4<=W.heap.size:=World.block_lt_of_cell? _ _ (h.u.2 0 (by decide)).1
theorem nN.aWu {P:Nat->Prop}{ids:List Nat}{cs:List fE}{xs:List bR}{W':World}(h:nN P B C ka kb ids bs cs xs W)(hb:Below W.heap.size W W'):nN P B C ka kb ids bs cs xs W':=⟨h.s.aWu hb,h.u.aWu hb,h.B⟩
theorem nN.made {L:List mH}(hc:Col W C ka kb (L.map mH.id) bs)(ht:tP ka kb B L bs W)(hk:aAf L)(hG:aQ W)(h4:4<=B):nN (λg=>g∉bs) B C ka kb (L.map mH.id) bs (L.map (aOj ka kb)) (L.map λ_=>tnZ) W:=by
 refine⟨⟨hc,by rw[ht.len,List.length_map],by simp,by simp,by rw[List.length_map];have:=hk.2.1;omega,hk.2.2.2,ht.nd,λb hb=>⟨dR h4 (ht.new b hb).1,λh=>h hb⟩,λg hg hm=>by have:=(ht.new g hm).2;omega,λi b c x h1 h2 h3=> ?_⟩,hG,λb hb=>(ht.new b hb).1⟩;rw[List.getElem?_map] at h2 h3;obtain⟨k,hki,rfl⟩:=Option.map_eq_some_iff.1 h2;obtain⟨k',_,rfl⟩:=Option.map_eq_some_iff.1 h3;exact⟨ht.at' i b k h1 hki,aUf _ _,by decide⟩
def aFh (ids:List Nat)(cs:List fE)(xs:List bR)(id:Nat)(role op:Int)(now:Nat)(lab sc:ByteArray)(kd:Int)(its:List (Nat×Nat))(rid:Nat)(E N:Int)(LL:List bT)(xs':List bR):Prop:=
 (id∉ids/\E=170/\xs'=xs)\/∃(n:Nat) (c:fE) (x z:bR),ids[n]? =some id/\cs[n]? =some c/\xs[n]? =some x/\xs'=xs.set n z/\(E≠0->z=x)/\(E=0->1<=op/\op<=7/\nL role op=true)/\(1<=op/\op<=7/\nL role op=true->OpF c x op now lab sc kd its rid E N LL z)
def aV1 (P:Nat->Prop)(B C:Nat)(ka kb:BitVec 64)(ids bs:List Nat)(cs:List fE)(xs:List bR)(id:Nat)(role op:Int)(now:Nat)(lab sc:ByteArray)(kd:Int)(its:List (Nat×Nat))(rid:Nat)(w:World)(e:Ending)(w':World):Prop:=
 ∃(E N:Int) (s1:Option Addr) (n1 c1:Nat) (es:Hd) (LL:List bT) (xs':List bR),e=.returned (.agg #[.int .i64 E,.int .u64 N,.slice s1 n1 c1,.slice es.s LL.length es.cap])/\bS 4 bT.cells w' es LL/\bX bs w w'/\nN P B C ka kb ids bs cs xs' w'/\aFh ids cs xs id role op now lab sc kd its rid E N LL xs'
theorem aEh (P:Nat->Prop)(B C:Nat)(ka kb:BitVec 64)(ids bs:List Nat)(cs:List fE)(xs:List bR)(id:Nat)(role:Int)(ex:Nat)(op:Int)(hop: -9223372036854775808<=op/\op<=9223372036854775807)(now:Nat)(lab sc:ByteArray)(hlb:lab.size<=2000)(hsc:sc.size<=100000)(kd:Int)(its:List (Nat×Nat))(hits:SmI its)(hil:its.length<=1000)(si:Option Addr)(ci hq to rid:Nat)(hhq:hq<=aJ)(hrid:rid<=aJ)(sn:Option Addr)(tl:List Nat)(htl:tl.length<=1000)(cn:Nat)(hn:now<=aJ)(w:World)(hS:nN P B C ka kb ids bs cs xs w)(hl29:∀x∈xs,x.L.length<29)(hI:Rd 2 jH w si its)(hIo:its≠[]->∀g o,si=some ⟨g,o,none⟩->g∉bs)(hT:Rd 1 cM w sn tl)(hTo:tl≠[]->∀g o,sn=some ⟨g,o,none⟩->g∉bs):
  Calls prog 8 #[pv C 0,.agg #[.int .u64 id,.int .i64 role,.int .u64 ex],.agg #[.int .i64 op,.int .u64 now,.string lab,.string sc,.int .i64 kd,.slice si its.length ci,.int .u64 hq,.int .u64 to,.int .u64 rid,.slice sn tl.length cn]] w (aV1 P B C ka kb ids bs cs xs id role op now lab sc kd its rid w):=by
 refine Calls.mono (aK7 _ C ka kb ids bs cs xs id role ex op hop now lab sc hlb hsc kd its hits hil si ci hq to rid hhq hrid sn tl htl cn hn w hS.u hS.s hl29 hI hIo hT hTo) ?_;rintro e w' (⟨hid,rfl,hb⟩|⟨n,b,c,x,N,s1,n1,c1,es,LL,E,z,hin,hbn,hcn,hxn,rfl,hrd,hf,hS',hno,hok,hF⟩)
 .exact⟨170,0,none,0,0,⟨none,0⟩,[],xs,rfl,bS.none _,.of hb,hS.aWu hb,.inl ⟨hid,rfl,rfl⟩⟩
 .refine⟨E,N,s1,n1,c1,es,LL,xs.set n z,rfl,hrd,hf.mono (by intro k hk;simp at hk;subst hk;exact .inl (bK hbn)),⟨hS',hS.u.fr hf (by intro k hk;simp at hk;subst hk;exact(hS.s.blk _ (bK hbn)).1),hS.B⟩,.inr ⟨n,c,x,z,hin,hcn,hxn,rfl,hno,hok,hF⟩⟩
theorem pC (v:Nat)(w:World):Calls prog 9 #[.int .u64 v] w λe w'=>e=.returned (.agg #[.int .u64 v,.int .i64 3,.int .u64 0])/\Below w.heap.size w w':=by
 go_enter func9,ntmps9;go_wp2_with fail;exact bodyPost_ret (v:=.agg #[.int .u64 v,.int .i64 3,.int .u64 0]) (by simp[results,results9,go_sem]) rfl ⟨rfl,aW.alloc aH _⟩
theorem aR6 (bu ttl:Nat)(w:World):Calls prog 7 #[.int .i64 bu,.int .u64 ttl] w λe w'=>e=.returned (.slice (some ⟨w.heap.size,0,none⟩) 2 2)/\w'=w.alloc (.cells #[.int .u64 1,.int .i64 bu,.int .u64 ttl,.int .u64 2,.int .i64 bu,.int .u64 ttl] 59):=by
 go_enter func7,ntmps7;go_wp2_with fail;go_ret;exact⟨rfl,rfl⟩
abbrev aMn :List mH:=[⟨1,1000,9⟩,⟨2,1000,9⟩]
theorem aJi :aAf aMn:=⟨by simp,by simp,by intro c hc;simp at hc;rcases hc with rfl|rfl<;>(constructor<;>(show _<=_;simp)),by simp⟩
abbrev shI :List (Nat×Nat):=[(5,0),(6,0),(5,0)]
theorem aJf {n:Nat}(h:[1,2][n]? =some 1):n=0:=by
 match n,h with
 |0,_=>rfl
 |1,h=>simp at h
 |n+2,h=>simp at h
theorem aRm {n:Nat}(h:[1,2][n]? =some 2):n=1:=by
 match n,h with
 |0,h=>simp at h
 |1,_=>rfl
 |n+2,h=>simp at h
def ShZ (z:bR):Prop:=z.T.map aP.core=[([bA],.dist (dS shI),0)]/\z.tm=0/\z.L=iP (rN 3 4 1).1 (rN 3 4 1).2 0 [] (0:Nat) ⟨#[105,110,103,101,115,116]⟩
theorem aTf {E N:Int}{LL:List bT}{xs':List bR}(h:aFh [1,2] (aMn.map (aOj 3 4)) [tnZ,tnZ] 1 3 1 0 ⟨#[97,61,120]⟩ ⟨#[]⟩ 1 shI 0 E N LL xs'):E=0/\∃z,xs'=[z,tnZ]/\ShZ z:=by
 rcases h with⟨h,_⟩|⟨n,c,x,z,hin,hc,hx,rfl,-,-,hF⟩
 .exact(h (by simp)).elim
 .obtain rfl:=aJf hin;cases hc;cases hx;have hF:=hF ⟨by decide,by decide,by decide⟩;have hI:=hF.ing rfl ⟨⟨rfl,rfl,rfl,by decide,by decide,by decide⟩,aH,tS _ _ _ (by decide) 0⟩;have hy:=hF.yes hI.1 (by decide);exact⟨hI.1,z,rfl,hI.2,hy.2.1,hy.1⟩
theorem aS3 {z:bR}(hz:ShZ z){E N:Int}{LL:List bT}{xs':List bR}(h:aFh [1,2] (aMn.map (aOj 3 4)) [z,tnZ] 1 3 2 0 ⟨#[]⟩ ⟨#[97,61,120]⟩ 1 [] 0 E N LL xs'):E=0/\N=2/\∃z',xs'=[z',tnZ]/\z'.L.length<=2:=by
 obtain⟨h1,h2,h3⟩:=hz;rcases h with⟨h,_⟩|⟨n,c,x,z',hin,hc,hx,rfl,-,-,hF⟩
 .exact(h (by simp)).elim
 .obtain rfl:=aJf hin;cases hc;cases hx;have hF:=hF ⟨by decide,by decide,by decide⟩;obtain⟨y,hT,hy⟩:∃y,z.T=[y]/\y.core=([bA],.dist (dS shI),0):=by
   obtain⟨t,zT⟩:∃t,z.T=t:=⟨_,rfl⟩;rw[zT] at h1⊢
   match t,h1 with
   |[y],h=>exact⟨y,rfl,by simpa using h⟩
   |[],h=>simp at h
   |_::_::_,h=>simp at h
  simp only[aP.core,Prod.mk.injEq] at hy;have hQ:=hF.qry rfl ⟨.inr ⟨y,hT,hy.1⟩,(λa ha=>by rw[hT] at ha;simp at ha;subst ha;rw[hy.2.2];exact Int.le_refl _),by rw[h2];exact aH,by rw[h3];exact aJ9 _ _,.inl rfl,rfl⟩;obtain⟨m,rfl,hm⟩:=hQ.2.2;have hl:=hF.yes hQ.1 (by decide);refine⟨hQ.1,?_,z',rfl,?_⟩
  .rw[hm.2 y _ hT hy.2.1];rfl
  .rw[hl.1,h3];exact aH
theorem aTk {z:bR}{E N:Int}{LL:List bT}{xs':List bR}(h:aFh [1,2] (aMn.map (aOj 3 4)) [z,tnZ] 2 3 2 0 ⟨#[]⟩ ⟨#[97,61,120]⟩ 1 [] 0 E N LL xs'):E=0/\N=0:=by
 rcases h with⟨h,_⟩|⟨n,c,x,z',hin,hc,hx,rfl,-,-,hF⟩
 .exact(h (by simp)).elim
 .obtain rfl:=aRm hin;cases hc;cases hx;have hF:=hF ⟨by decide,by decide,by decide⟩;have hQ:=hF.qry rfl ⟨.inl rfl,(λa ha=>by cases ha),aH,tS _ _ _ (by decide) 0,.inl rfl,rfl⟩;obtain⟨m,rfl,hm⟩:=hQ.2.2;rw[hm.1 rfl];exact⟨hQ.1,rfl⟩
theorem aKl (w:World)(hG:aQ w):Calls prog 5 #[] w λe w'=>e=.returned (.bool true)/\Below w.heap.size w w':=by
 have h4:=hG.four;go_enter func5,ntmps5;go_wp2_with fail;refine(aR6 1000 9 _).mono ?_;rintro e w1 ⟨rfl,hw1⟩;have hb1:=(Below.refl w.heap.size w).alloc aH (.cells #[.int .u64 1,.int .i64 ((1000:Nat):Int),.int .u64 ((9:Nat):Int),.int .u64 2,.int .i64 ((1000:Nat):Int),.int .u64 ((9:Nat):Int)] 59);have hg1:=kH w (.cells #[.int .u64 1,.int .i64 ((1000:Nat):Int),.int .u64 ((9:Nat):Int),.int .u64 2,.int .i64 ((1000:Nat):Int),.int .u64 ((9:Nat):Int)] 59);rw[<-hw1] at hb1 hg1;have hRd:Rd 3 yR w1 (some ⟨w.heap.size,0,none⟩) aMn:=Rd.aW2 aEo hg1 rfl;have HN:=aA (xO 3 4 aMn (by intro c hc;simp at hc;rcases hc with rfl|rfl<;>(first|(show(1:Nat)<=aJ;decide)|(show(2:Nat)<=aJ;decide))) (by simp) (some ⟨w.heap.size,0,none⟩) 2 w1 hRd);have hG1:=hG.aWu hb1;have hz1:=hb1.size;clear hw1 hg1 hRd hG;go_wp2_with fail;refine HN.out.mono ?_;clear HN;rintro e w2 (⟨_,hno,_⟩|⟨C,bs,rfl,_,_,hC,hT,hb2⟩)
 .exact absurd aJi hno
 have f2:=(Fr.start w []).to (hb1.trans (hb2.mono hb1.size));have HT2:=aA (nN.made hC hT aJi (hG1.aWu hb2) (by omega));have HB:=aA (show∀b∈bs,w.heap.size<=b/\b<w2.heap.size from λb hb=>⟨dR hz1 (hT.new b hb).1,(hT.new b hb).2⟩);have hz2:=hb2.size;clear hC hT hb1 hb2 hG1;go_wp2_with fail;refine(pC 1 _).mono ?_;rintro e w3 ⟨rfl,hb3⟩;have f3:=f2.to hb3;have hz3:=hb3.size;have al3:=(Below.refl w3.heap.size w3).alloc aH (.cells #[.int .u64 5,.int .u64 0,.int .u64 6,.int .u64 0,.int .u64 5,.int .u64 0] 45);have HT3:=aA ((HT2.out.aWu hb3).aWu al3);have f3':=f3.to al3;have hRd:Rd 2 jH (w3.alloc (.cells #[.int .u64 5,.int .u64 0,.int .u64 6,.int .u64 0,.int .u64 5,.int .u64 0] 45)) (some ⟨w3.heap.size,0,none⟩) shI:=Rd.aW2 zQ (kH _ _) rfl;have HD1:=aA (aEh _ _ C 3 4 _ bs _ _ 1 3 0 1 (by decide) 0 ⟨#[97,61,120]⟩ ⟨#[]⟩ (by decide) (by decide) 1 shI (by intro x hx;simp at hx;rcases hx with rfl|rfl|rfl<;>(constructor<;>(unfold aJ;simp))) (by decide) (some ⟨w3.heap.size,0,none⟩) 3 0 0 0 (by decide) (by decide) none [] (by decide) 0 (by decide) _ HT3.out (by intro x hx;simp at hx;subst hx;decide) hRd (λ_ g o e hm=>by cases e;have:=(HB.out _ hm).2;omega) (by intro i x hx;simp at hx) (λh=>(h rfl).elim));have hz3':=al3.size;clear f3 hRd HT2 al3 hb3 f2 HT3;go_wp2_with fail;refine HD1.out.mono ?_;clear HD1;rintro e w4 ⟨E,N,s1,n1,c1,es,LL,xs',rfl,-,hf4,hT4,hR⟩;obtain⟨rfl,z,rfl,hZ⟩:=aTf hR;generalize w3.alloc (.cells #[.int .u64 5,.int .u64 0,.int .u64 6,.int .u64 0,.int .u64 5,.int .u64 0] 45)=wi at*;have hz4:=hf4.size;have f4:=(f3'.aWz hf4 (λk hk=>.inr (HB.out k hk).1) (by simp)).alloc (cs:= #[.int .i64 0,.int .u64 N,.slice s1 n1 c1,.slice es.s LL.length es.cap]) (T:=36);have al4:=(Below.refl w4.heap.size w4).alloc aH (.cells #[.int .i64 0,.int .u64 N,.slice s1 n1 c1,.slice es.s LL.length es.cap] 36)
 have HT4:=aA (hT4.aWu al4);have HZ:=aA hZ;have hza:=al4.size;clear hT4 hf4 f3' al4 hR hZ;go_wp2_with fail;refine(pC 1 _).mono ?_;rintro e w5 ⟨rfl,hb5⟩;have f5:=f4.to hb5;have hz5:=hb5.size;have HT5:=aA (HT4.out.aWu hb5);have HD2:=aA (aEh _ _ C 3 4 _ bs _ _ 1 3 0 2 (by decide) 0 ⟨#[]⟩ ⟨#[97,61,120]⟩ (by decide) (by decide) 1 [] (by intro x hx;simp at hx) (by decide) none 0 0 0 0 (by decide) (by decide) none [] (by decide) 0 (by decide) _ HT5.out (by intro x hx;simp at hx;rcases hx with rfl|rfl;rw[HZ.out.2.2];exact kG (show 1<29 by decide) aH;decide) (by intro i x hx;simp at hx) (λh=>(h rfl).elim) (by intro i x hx;simp at hx) (λh=>(h rfl).elim));clear hb5 HT4 f4 HT5;go_wp2_with fail;refine HD2.out.mono ?_;clear HD2;rintro e w6 ⟨E,N2,s2,n2,c2,es2,LL2,xs2,rfl,-,hf6,hT6,hR⟩;obtain⟨rfl,rfl,z2,rfl,hZ2⟩:=aS3 HZ.out hR;have hz6:=hf6.size;have f6:=(f5.aWz hf6 (λk hk=>.inr (HB.out k hk).1) (by intro x hx hm;simp at hx;subst hx;have:=(HB.out _ hm).2;simp at this;omega)).alloc (cs:= #[.int .i64 0,.int .u64 2,.slice s2 n2 c2,.slice es2.s LL2.length es2.cap]) (T:=36);have al6:=(Below.refl w6.heap.size w6).alloc aH (.cells #[.int .i64 0,.int .u64 2,.slice s2 n2 c2,.slice es2.s LL2.length es2.cap] 36);have HT6:=aA (aB (hT6.aWu al6) hZ2);have hzb:=al6.size;clear hT6 hf6 f5 al6 hR HZ hZ2;go_wp2_with fail;refine(pC 2 _).mono ?_;rintro e w7 ⟨rfl,hb7⟩;have f7:=f6.to hb7;have hz7:=hb7.size;have HD3:=aA (aEh _ _ C 3 4 _ bs _ _ 2 3 0 2 (by decide) 0 ⟨#[]⟩ ⟨#[97,61,120]⟩ (by decide) (by decide) 1 [] (by intro x hx;simp at hx) (by decide) none 0 0 0 0 (by decide) (by decide) none [] (by decide) 0 (by decide) _ (HT6.out.1.aWu hb7) (by intro x hx;simp at hx;rcases hx with rfl|rfl;exact Nat.lt_of_le_of_lt HT6.out.2 (by decide);decide) (by intro i x hx;simp at hx) (λh=>(h rfl).elim) (by intro i x hx;simp at hx) (λh=>(h rfl).elim))
 clear hb7 HT6 f6;go_wp2_with fail;refine HD3.out.mono ?_;clear HD3;rintro e w8 ⟨E,N3,s3,n3,c3,es3,LL3,xs3,rfl,-,hf8,-,hR⟩;obtain⟨rfl,rfl⟩:=aTk hR;have f8:=(f7.aWz hf8 (λk hk=>.inr (HB.out k hk).1) (by intro x hx hm;simp at hx;have:=(HB.out _ hm).2;rcases hx with rfl|rfl<;>(simp at this;omega))).alloc (cs:= #[.int .i64 0,.int .u64 0,.slice s3 n3 c3,.slice es3.s LL3.length es3.cap]) (T:=36);have rl:=f8.rl;have HF8:=aA f8.fr.below;clear hf8 f7 f8 hR;go_wp2_with fail;go_ret;exact⟨rfl,HF8.out⟩
end
section
variable {W:World}
structure Rq where
 op:Int
 now:Nat
 lab:ByteArray
 sc:ByteArray
 kd:Int
 its:List (Nat×Nat)
 it:Hd
 hq:Nat
 to:Nat
 rid:Nat
 tl:List Nat
 tn:Hd
structure kB where
 id:Nat
 role:Int
 ex:Nat
 r:Rq
def sJ (x:kB):List Value:=[.int .u64 x.id,.int .i64 x.role,.int .u64 x.ex,.int .i64 x.r.op,.int .u64 x.r.now,.string x.r.lab,.string x.r.sc,.int .i64 x.r.kd,.slice x.r.it.s x.r.its.length x.r.it.cap,.int .u64 x.r.hq,.int .u64 x.r.to,.int .u64 x.r.rid,.slice x.r.tn.s x.r.tl.length x.r.tn.cap]
theorem lQ (x:kB):(sJ x).length=13:=rfl
theorem aDp (x:kB):∀v∈sJ x,v.oneCell'=true:=by
 intro v hv;simp[sJ] at hv;rcases hv with rfl|rfl|rfl|rfl|rfl|rfl|rfl|rfl|rfl|rfl|rfl|rfl|rfl<;>rfl
structure pN (W:World)(r:Rq):Prop where
 o0: -9223372036854775808<=r.op
 o1:r.op<=9223372036854775807
 now:r.now<=aJ
 lb:r.lab.size<=9223372036854775807
 sc:r.sc.size<=9223372036854775807
 si:SmI r.its
 ic:r.its.length<=r.it.cap
 im:r.it.cap<=9223372036854775807
 inil:r.it.s=none->r.it.cap=0
 hq:r.hq<=aJ
 rid:r.rid<=aJ
 tc:r.tl.length<=r.tn.cap
 tm:r.tn.cap<=9223372036854775807
 tnil:r.tn.s=none->r.tn.cap=0
 ri:Rd 2 jH W r.it.s r.its
 rt:Rd 1 cM W r.tn.s r.tl
theorem pN.aWu {W':World}{r:Rq}(h:pN W r)(hb:Below W.heap.size W W'):pN W' r:=
 {h with ri:=h.ri.aWu aH hb,rt:=h.rt.aWu aH hb}
def dL (s:ByteArray):ByteArray:=s.extract 0 (min (s.size:Int) 300).toNat
theorem kL (s:ByteArray):(dL s).size<=300:=by
 unfold dL;simp only[ByteArray.size_extract];omega
def Rq.cut (r:Rq):Rq:=⟨r.op,r.now,dL r.lab,dL r.sc,r.kd,r.its.take 52,r.it,r.hq,r.to,r.rid,r.tl.take 10,r.tn⟩
def kB.cut (x:kB):kB:=⟨x.id,x.role,x.ex,x.r.cut⟩
theorem pN.cut {r:Rq}(h:pN W r):pN W r.cut:=
 ⟨h.o0,h.o1,h.now,dR (kL _) (by decide),dR (kL _) (by decide),λx hx=>h.si x (List.mem_of_mem_take hx),(by have:=h.ic;show(r.its.take 52).length<=r.it.cap;rw[List.length_take];omega),h.im,h.inil,h.hq,h.rid,(by have:=h.tc;show(r.tl.take 10).length<=r.tn.cap;rw[List.length_take];omega),h.tm,h.tnil,h.ri.take 52,h.rt.take 10⟩
theorem yA (s:ByteArray)(hs:s.size<=9223372036854775807)(w:World):
  Calls prog 40 #[.string s] w λe w'=>e=.returned (.string (dL s))/\w'=w:=by
 go_enter func40,ntmps40;go_wp2_with fail;go_ret;exact⟨rfl,rfl⟩
theorem aNj (r:Rq)(w:World)(h:pN w r):
  Calls prog 23 #[.agg #[.int .i64 r.op,.int .u64 r.now,.string r.lab,.string r.sc,.int .i64 r.kd,.slice r.it.s r.its.length r.it.cap,.int .u64 r.hq,.int .u64 r.to,.int .u64 r.rid,.slice r.tn.s r.tl.length r.tn.cap]] w λe w'=>e=.returned (.agg #[.int .i64 r.op,.int .u64 r.now,.string (dL r.lab),.string (dL r.sc),.int .i64 r.kd,.slice r.it.s (r.its.take 52).length r.it.cap,.int .u64 r.hq,.int .u64 r.to,.int .u64 r.rid,.slice r.tn.s (r.tl.take 10).length r.tn.cap])/\Below w.heap.size w w':=by
 have h1:=h.cut;obtain⟨op,now,lab,sc,kd,its,⟨is,ic⟩,hq,to,rid,tl,⟨ts,tc⟩⟩:=r;obtain⟨-,-,-,hlb,hsc,-,hic,him,hin,-,-,htc,htm,htn,-,-⟩:=h;simp only at hlb hsc hic him hin htc htm htn;have hmi:(min (its.length:Int) 52).toNat=(its.take 52).length:=by rw[List.length_take];omega
 have hmt:(min (tl.length:Int) 10).toNat=(tl.take 10).length:=by rw[List.length_take];omega
 have hmi':(its.take 52).length<=its.length:=by rw[List.length_take];omega
 have hmt':(tl.take 10).length<=tl.length:=by rw[List.length_take];omega
 have HL:=aA (λW=>yA lab hlb W);have HS:=aA (λW=>yA sc hsc W);clear h1;show Calls prog 23 #[.agg #[.int .i64 op,.int .u64 now,.string lab,.string sc,.int .i64 kd,.slice is its.length ic,.int .u64 hq,.int .u64 to,.int .u64 rid,.slice ts tl.length tc]] w λe w'=>e=.returned (.agg #[.int .i64 op,.int .u64 now,.string (dL lab),.string (dL sc),.int .i64 kd,.slice is (its.take 52).length ic,.int .u64 hq,.int .u64 to,.int .u64 rid,.slice ts (tl.take 10).length tc])/\_;generalize(its.take 52).length=mi at*;generalize(tl.take 10).length=mt at*;have st0:=((St.start w).alloc (cs:= #[.int .i64 op,.int .u64 now,.string lab,.string sc,.int .i64 kd,.slice is its.length ic,.int .u64 hq,.int .u64 to,.int .u64 rid,.slice ts tl.length tc]) (T:=43)).alloc (cs:= #[.int .i64 0,.int .u64 0,.string ⟨#[]⟩,.string ⟨#[]⟩,.int .i64 0,.slice none 0 0,.int .u64 0,.int .u64 0,.int .u64 0,.slice none 0 0]) (T:=43);simp only[World.size_alloc] at st0;have rl:=st0.rl;go_enter func23,ntmps23;go_wp2_with fail;refine(HL.out _).mono ?_;rintro e w1 ⟨rfl,hw1⟩;obtain rfl:=hw1.symm;have st1:=st0.sx 1 (A:=w.heap.size) rfl (by simp) (o:=2) (v:=.string (dL lab));have rl:=st1.rl;clear st0;go_wp2_with fail;refine(HS.out _).mono ?_;rintro e w2 ⟨rfl,hw2⟩;obtain rfl:=hw2.symm;have st2:=st1.sx 1 (A:=w.heap.size) rfl (by simp) (o:=3) (v:=.string (dL sc));have rl:=st2.rl;clear st1;go_wp2_with fail;exact bodyPost_ret (v:=.agg #[.int .i64 op,.int .u64 now,.string (dL lab),.string (dL sc),.int .i64 kd,.slice is mi ic,.int .u64 hq,.int .u64 to,.int .u64 rid,.slice ts mt tc]) (by simp[results,results23,go_sem]) rfl ⟨rfl,(aW.alloc aH _).alloc (by simp) _⟩
theorem aVb :eM prog 47 51 13 152:=eM.mk (z:=.agg #[.int .u64 0,.int .i64 0,.int .u64 0,.int .i64 0,.int .u64 0,.string ⟨#[]⟩,.string ⟨#[]⟩,.int .i64 0,.slice none 0 0,.int .u64 0,.int .u64 0,.int .u64 0,.slice none 0 0]) underlying47 (by kernel_rfl) rfl (by decide)
def aSa (cs:Array Value):Value->World->Prop:=λv W=>∃A,v=.slice (some ⟨A,0,none⟩) 1 1/\W.heap[A]? =some (.cells cs 51 (0,0))
theorem aMv (cs:Array Value):bO (aSa cs):=λ_ _ _ ⟨A,h1,h3⟩ hb=>⟨A,h1,(hb.block A (aC h3)).trans h3⟩
def pT (n:Nat)(L:List kB):List kB:=(L.take n).map kB.cut
theorem aAt {g o:Nat}{L:List kB}(r:Rd 13 sJ W (some ⟨g,o,none⟩) L){i:Nat}{id:Nat}{role:Int}{ex:Nat}{op:Int}{now:Nat}{lab sc:ByteArray}{kd:Int}{its:List (Nat×Nat)}{is:Option Addr}{ic hq to rid:Nat}{tl:List Nat}{ts:Option Addr}{tc:Nat}(hx:L[i]? =some ⟨id,role,ex,⟨op,now,lab,sc,kd,its,⟨is,ic⟩,hq,to,rid,tl,⟨ts,tc⟩⟩⟩):
  g<W.heap.size/\W.cell? ⟨g,o+i*13,none⟩=some (.int .u64 id)/\W.cell? ⟨g,o+i*13+1,none⟩=some (.int .i64 role)/\W.cell? ⟨g,o+i*13+2,none⟩=some (.int .u64 ex)/\W.cell? ⟨g,o+i*13+3,none⟩=some (.int .i64 op)/\W.cell? ⟨g,o+i*13+4,none⟩=some (.int .u64 now)/\W.cell? ⟨g,o+i*13+5,none⟩=some (.string lab)/\W.cell? ⟨g,o+i*13+6,none⟩=some (.string sc)/\W.cell? ⟨g,o+i*13+7,none⟩=some (.int .i64 kd)/\W.cell? ⟨g,o+i*13+8,none⟩=some (.slice is its.length ic)/\W.cell? ⟨g,o+i*13+9,none⟩=some (.int .u64 hq)/\W.cell? ⟨g,o+i*13+10,none⟩=some (.int .u64 to)/\W.cell? ⟨g,o+i*13+11,none⟩=some (.int .u64 rid)/\W.cell? ⟨g,o+i*13+12,none⟩=some (.slice ts tl.length tc):=by
 obtain⟨g',o',e,hg,hc⟩:=r i _ hx;cases e;exact⟨hg,hc 0 _ rfl,hc 1 _ rfl,hc 2 _ rfl,hc 3 _ rfl,hc 4 _ rfl,hc 5 _ rfl,hc 6 _ rfl,hc 7 _ rfl,hc 8 _ rfl,hc 9 _ rfl,hc 10 _ rfl,hc 11 _ rfl,hc 12 _ rfl⟩
theorem aRj (n:Nat)(hn:n<=1000)(L:List kB)(hl:L.length<=9223372036854775807)(s:Option Addr)(cap:Nat)(w:World)(hL:Rd 13 sJ w s L)(hQ:∀x∈L,pN w x.r):
  Calls prog 10 #[.slice s L.length cap,.int .i64 n] w λe w'=>∃d:Hd,e=.returned (.slice d.s (pT n L).length d.cap)/\bS 13 sJ w' d (pT n L)/\aT w.heap.size d/\Below w.heap.size w w':=by
 have HH:=aA (aB hL hQ);clear hL hQ;go_enter func10,ntmps10;go_wp2_with fail
 go_loopw [5,6] (λv i wr=>∃(k:Nat) (vv:Value),v=vv/\k<=L.length/\k<=n/\i=.int .i64 k/\Below w.heap.size w wr/\aL 13 sJ 51 wr w.heap.size vv (pT k L)) (λ_ i _=>L.length-(intOf i).toNat)
 case atStart=>exact⟨0,_,rfl,cJ _,cJ _,rfl,aW,aL.nil _ _⟩
 case round=>
  obtain⟨k,vv,rfl,hk,hkn,rfl,hbw,ho⟩:=hrel;have END:Hid ((k=L.length\/k=n)->pT k L=pT n L):=aA (by
   rintro(h|h)
   .unfold pT;rw[h,List.take_length,List.take_of_length_le (by omega)]
   .rw[h])
  by_cases hlt:k<L.length
  rotate_left
  .have hlen:k=L.length:=by omega
   obtain⟨d,hd1,hd,hdf⟩:=bS.aXa lQ ho;rw[END.out (.inl hlen)] at hd1 hd;have HD:=aA (aB hd (aB hdf hbw));subst hd1;clear ho hbw hd hdf;simp only[Hd.v];go_wp2_with fail;go_ret;exact⟨d,rfl,HD.out.1,HD.out.2⟩
  by_cases hlt2:k<n
  rotate_left
  .have hlen:k=n:=by omega
   obtain⟨d,hd1,hd,hdf⟩:=bS.aXa lQ ho;rw[END.out (.inr hlen)] at hd1 hd;have HD:=aA (aB hd (aB hdf hbw));subst hd1;clear ho hbw hd hdf;simp only[Hd.v];go_wp2_with fail;go_ret;exact⟨d,rfl,HD.out.1,HD.out.2⟩
  obtain⟨⟨id,role,ex,⟨op,now,lab,sc,kd,its,⟨is,ic⟩,hq,to,rid,tl,⟨ts,tc⟩⟩⟩,hx⟩:∃x,L[k]? =some x:=⟨_,cZ hlt⟩;have hQx:=HH.out.2 _ (bK hx);obtain⟨g,o,rfl,-,-⟩:=HH.out.1 k _ hx;have HC:=aA (show∀W,Below w.heap.size w W->_ from λW hW=>aAt (HH.out.1.aWu aH hW) hx);have hF:∀W,Below w.heap.size w W->Calls prog 23 #[.agg #[.int .i64 op,.int .u64 now,.string lab,.string sc,.int .i64 kd,.slice is its.length ic,.int .u64 hq,.int .u64 to,.int .u64 rid,.slice ts tl.length tc]] W λe w'=>e=.returned (.agg #[.int .i64 op,.int .u64 now,.string (dL lab),.string (dL sc),.int .i64 kd,.slice is (its.take 52).length ic,.int .u64 hq,.int .u64 to,.int .u64 rid,.slice ts (tl.take 10).length tc])/\Below W.heap.size W w':=λW hW=>aNj _ W (hQx.aWu hW);obtain⟨mi,hmi⟩:∃mi,(its.take 52).length=mi:=⟨_,rfl⟩;obtain⟨mt,hmt⟩:∃mt,(tl.take 10).length=mt:=⟨_,rfl⟩;have HE:=aA (show #[.int .u64 id,.int .i64 role,.int .u64 ex,.int .i64 op,.int .u64 now,.string (dL lab),.string (dL sc),.int .i64 kd,.slice is mi ic,.int .u64 hq,.int .u64 to,.int .u64 rid,.slice ts mt tc]=(sJ (kB.cut ⟨id,role,ex,⟨op,now,lab,sc,kd,its,⟨is,ic⟩,hq,to,rid,tl,⟨ts,tc⟩⟩⟩)).toArray by rw[<-hmi,<-hmt];rfl);rw[hmi,hmt] at hF;have HF:=aA hF;obtain⟨sA,cA,rfl,-⟩:=ho.form lQ;have HS:Hid (pT (k+1) L=pT k L++[kB.cut ⟨id,role,ex,⟨op,now,lab,sc,kd,its,⟨is,ic⟩,hq,to,rid,tl,⟨ts,tc⟩⟩⟩]):=aA (by unfold pT;rw[List.take_add_one,hx,List.map_append];rfl);have st:=(St.start w).to hbw;have hkl:(pT k L).length<=1000:=by unfold pT;simp;omega
  have hzw:=hbw.size;have hbH:=aA hbw;clear hx hQx hbw hF hmi hmt;generalize pT k L=M at*;have HO:=aA ho;clear ho;go_wp2_with fail;refine rS st 14 [.val (.slice sA M.length cA),.val (.slice (some ⟨g,o,none⟩) L.length cap),.val (.int .i64 k),.val (pv g (o+k*13)),.val (pv g (o+k*13)),.val (.agg #[.int .u64 id,.int .i64 role,.int .u64 ex]),.val (.slice (some ⟨g,o,none⟩) L.length cap),.val (.int .i64 k),.val (pv g (o+k*13)),.val (pv g (o+k*13+3)),.val (.agg #[.int .i64 op,.int .u64 now,.string lab,.string sc,.int .i64 kd,.slice is its.length ic,.int .u64 hq,.int .u64 to,.int .u64 rid,.slice ts tl.length tc]),.val (.agg #[.int .i64 op,.int .u64 now,.string (dL lab),.string (dL sc),.int .i64 kd,.slice is mi ic,.int .u64 hq,.int .u64 to,.int .u64 rid,.slice ts mt tc]),.val (.agg #[.int .u64 id,.int .i64 role,.int .u64 ex,.int .i64 op,.int .u64 now,.string (dL lab),.string (dL sc),.int .i64 kd,.slice is mi ic,.int .u64 hq,.int .u64 to,.int .u64 rid,.slice ts mt tc]),.fct (aSa #[.int .u64 id,.int .i64 role,.int .u64 ex,.int .i64 op,.int .u64 now,.string (dL lab),.string (dL sc),.int .i64 kd,.slice is mi ic,.int .u64 hq,.int .u64 to,.int .u64 rid,.slice ts mt tc]) (aMv _)] ?spec ?endd
  case spec=>
   refine⟨?_,?_,?_,?_,?_,?_,?_,?_,?_,?_,?_,?_,?_,?_,trivial⟩
   all_goals(intro ρ W kc kf hW sW rl hu hd;simp only[aI] at rl)
   have u5:ρ (.tmp 5)=.slice sA M.length cA:=cR hu 5;rotate_left;have u0:ρ (.tmp 0)=.slice (some ⟨g,o,none⟩) L.length cap:=cR hu 0;rotate_left;have u6:ρ (.tmp 6)=.int .i64 k:=cR hu 6;rotate_left;have u19:ρ (.tmp 19)=_:=aK hd 1 19;have u20:ρ (.tmp 20)=_:=aK hd 2 20;rotate_left;have u21:ρ (.tmp 21)=_:=aK hd 3 21;rotate_left;have u22:ρ (.tmp 22)=_:=aK hd 4 22;have tc:=HC.out W sW.below;rotate_left;have u0:ρ (.tmp 0)=.slice (some ⟨g,o,none⟩) L.length cap:=cR hu 0;rotate_left;have u6:ρ (.tmp 6)=.int .i64 k:=cR hu 6;rotate_left;have u24:ρ (.tmp 24)=_:=aK hd 6 24;have u25:ρ (.tmp 25)=_:=aK hd 7 25;rotate_left;have u26:ρ (.tmp 26)=_:=aK hd 8 26;rotate_left;have u27:ρ (.tmp 27)=_:=aK hd 9 27;have tc:=HC.out W sW.below;rotate_left
   .have u28:ρ (.tmp 28)=_:=aK hd 10 28;refine aF rfl ?_;go_simp;exact gY (HF.out W sW.below) (λ_ _=>rfl)
   have u23:ρ (.tmp 23)=_:=aK hd 5 23;have u29:ρ (.tmp 29)=_:=aK hd 11 29;rotate_left
   .have u30:ρ (.tmp 30)=_:=aK hd 12 30;refine aF rfl ?_;go_simp;exact⟨aW.alloc aH _,W.heap.size,rfl,kH _ _⟩
   all_goals(refine aF rfl ?_;go_simp;exact aG rfl)
  case endd=>
   rintro v W hW sW rl ⟨h13,-⟩;simp only[aI] at rl;obtain⟨A,v13,hA⟩:=h13;rw[v13];have ho9:=aL.keep _ _ HO.out hW;have hzW:=hW.size;rw[HE.out] at hA;have hRA:=Rd.aW2 (enc:=sJ) (L:=[kB.cut ⟨id,role,ex,⟨op,now,lab,sc,kd,its,⟨is,ic⟩,hq,to,rid,tl,⟨ts,tc⟩⟩⟩]) lQ hA rfl;clear v13 rl hA;refine cY aVb lQ aDp rfl (.tmp 18) (.tmp 31) rfl w.heap.size (.slice sA M.length cA) M (by simp[Act.eval,Act.put]) sW ho9 aH (by simp) (by omega) [kB.cut ⟨id,role,ex,⟨op,now,lab,sc,kd,its,⟨is,ic⟩,hq,to,rid,tl,⟨ts,tc⟩⟩⟩] 1 rfl (some ⟨A,0,none⟩) 1 (by simp[Act.eval,Act.put]) (λh=>by cases h) hRA (by simp;omega) (by decide) ?_;intro v' w5 ap;have HAP:=aA ap;clear ap;go_wp2_with fail;go_roundw
   case rel=>exact⟨k+1,v',rfl,by omega,by omega,by go_num,HAP.out.st.below,by rw[HS.out];exact HAP.out.own⟩
   case measure=>simp[intOf];omega
end
end Go.Proofs.YtmgdbfmlnmahpaaGreatDoor
