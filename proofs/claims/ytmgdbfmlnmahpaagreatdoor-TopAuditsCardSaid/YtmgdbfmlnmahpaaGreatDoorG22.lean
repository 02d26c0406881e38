/- Part of TopAudits. -/
import Derived.Test.YtmgdbfmlnmahpaaGreatDoorG21
import Derived.Lib.OthersKept
import Derived.Lib.RuneBytes
namespace Go.Proofs.YtmgdbfmlnmahpaaGreatDoor
set_option linter.unusedSimpArgs false
set_option linter.unusedVariables false
set_option maxRecDepth 100000
set_option maxHeartbeats 4000000
open Go.Proofs.Tryz
section
open Go.RowKit Go.Shelf
theorem bW.own {W W':World}{row:Option Nat}{x:Sk}{h:aR}(r:bW W x h)(hg:W.grownBy W' row)(hrow:∀r,row=some r->∃o:Obj,W.heap[r]? =some o/\o.isCells=false):bW W' x h:=
 ⟨⟨wV aY (by decide) r.e.rd hg hrow,r.e.cap,r.e.max,r.e.nil,r.e.plain⟩,⟨wV aY (by decide) r.c.rd hg hrow,r.c.cap,r.c.max,r.c.nil,r.c.plain⟩,⟨wV fW (by decide) r.g.rd hg hrow,r.g.cap,r.g.max,r.g.nil,r.g.plain⟩⟩
theorem Sk.bot_le (x:Sk):x.bot<=4:=by
 unfold Sk.bot;split<;>omega
theorem dO (b:Nat)(v:Value)(k l:Int):NoU #[.iface b v,.int .i64 k,.int .i64 l]:=NoU.three (by intro n e;cases e) (by intro n e;cases e) (by intro n e;cases e)
theorem aHu :NoU #[.nilIface,.int .i64 0,.int .i64 0]:=NoU.three (by intro n e;cases e) (by intro n e;cases e) (by intro n e;cases e)
def aHs (w:World)(S:Sk->Prop)(e:Ending)(w':World):Prop:=∃(x:Sk) (h:aR),(S x/\x.Ok)/\e=.returned (.tuple #[h.w x,.nilIface])/\bW w' x h/\cQ w.heap.size h/\RowKit.Below w.heap.size w w'
def aTa (w:World)(S:Sk->Prop)(e:Ending)(w':World):Prop:=∃(x:Sk) (h:aR),(S x/\x.Ok)/\e=.returned (.tuple #[h.w x,.nilIface])/\bW w' x h/\RowKit.Below w.heap.size w w'
theorem nO (x:Sk)(hx:x.Ok)(hl:x.lev<x.bot)(h:aR)(w:World)(hK:bW w x h):
  Calls prog 157 #[h.w x] w (aHs w (uS x)):=by
 have HB:=aA (λW=>mZ x W);have HC:=aA (λW hW=>aNz x hx hl h W (hK.aWu hW));have hm:=λw=>aMh x (h.a x) w;have hent:=λargs w=>aIl x args w;have hle:(x.lev:Int)<=4:=by have:=x.aXe hx;have:=x.bot_le;omega
 have hlt:¬(x.bot:Int)<=(x.lev:Int):=by omega
 have HLW:Hid (∀y,uS x y->y.kind=x.kind/\y.lev=x.lev+1):=λy h=>h;simp only[aR.w,aR.b];generalize uS x=S at*;generalize h.a x=bV at*;generalize x.bt=bD at*;generalize x.aXf=fC at*;generalize x.kind=kd at*;generalize x.lev=lv at*;generalize x.bot=bt at*;have st0:=((St.start w).alloc (cs:= #[.iface bD bV,.int .i64 kd,.int .i64 lv]) (T:=135)).alloc (cs:= #[.nilIface,.int .i64 0,.int .i64 0]) (T:=135);simp only[World.size_alloc] at st0;clear hK hx hl;go_enter func157,ntmps157;go_wp2_with fail;obtain⟨bl2,E2,hne2,sh2,rl,hEx,hbx,hst⟩:=st0.aW1;simp only[aI] at rl;refine aZ sh2 (by kernel_rfl) (by kernel_rfl) ?_
 repeat(first|go_big_quiet_step ((go_at_call 87;exact Cs.aW0 (HB.out _)))|quiet_step ((go_at_call 87;exact Cs.aW0 (HB.out _))))
 refine wpQuiet_nil ?_;intro y;have st4:=(hst y).out;clear hbx rl hst sh2 hEx st0 HB;generalize y.W=w4 at*;have rl:=st4.rl;go_wp2_with fail;refine(HC.out _ st4.below).mono ?_;rintro e w5 ⟨y,h',⟨hy,hok⟩,rfl,hd,hf,hb5⟩;have hw4:w.heap.size+1<w4.heap.size:=by omega
 have st5:=st4.to hb5;have HF:=hf.mono (show w.heap.size+1+1<=_ by omega);have HD:=aA hd;have HO:=aA hok;have HY:=aA (HLW.out y hy);have HYS:=aA hy;obtain⟨cV,hcV⟩:∃cV,h'.a y=cV:=⟨_,rfl⟩;obtain⟨cD,hcD⟩:∃cD,y.bt=cD:=⟨_,rfl⟩;have HCV:=aA hcV;have HCD:=aA hcD;simp only[aR.b];rw[hcV,hcD];clear rl st4 hb5 HC hd hf hm hent hcV hcD hy hok HLW;have rl:=st5.rl;go_wp2_with fail;refine bodyPost_ret (v:=.tuple #[.agg #[.iface cD cV,.int .i64 kd,.int .i64 ((lv:Int)+1)],.nilIface]) (by simp[results,results157,go_sem,rl]) rfl ⟨y,h',⟨HYS.out,HO.out⟩,?_,HD.out.up HF ?_,HF.mono (by omega),?_⟩
 .have e1:=HY.out.1;have e2:=HY.out.2;rw[aR.w,aR.b,HCV.out,HCD.out,e1,e2]
  push_cast
  rfl
 .repeat(with_reducible refine aM.set ?_ (by omega) _)
  exact aM.refl _ _
 .repeat(with_reducible refine Below.setCell ?_ (by simp;try omega) _)
  exact st5.below
theorem aIo (n:Int)(w:World):Calls prog 213 #[.int .i64 n] w λe w'=>e=.returned (.func (.func 233) #[] #[pv w.heap.size 0])/\w'=w.alloc (.cells #[.int .i64 n] 3):=by
 go_enter func213,ntmps213;go_wp2_with fail;go_ret;exact⟨rfl,rfl⟩
def aGz (from':Nat)(pre:List Nat):Prop:=pre=List.range' from' pre.length
theorem aGz.aXy {f:Nat}{pre:List Nat}(h:aGz f pre):aGz f (pre++[f+pre.length]):=by
 unfold aGz at h⊢;rw[List.length_append,List.length_singleton,List.range'_concat,<-h];simp
theorem aHb (bl:List cH)(Bw f N:Nat)(hf:f<=1000)(hN:N<=1000)(hBw:(Bw,#[.int .i64 (f:Nat)],3)∈bl)
  (n:Nat) (hn:1<=n) (lb:Nat) (J Jx:List Nat->World->Prop) (bJ:jJ none J)
  (hY:∀(pre:List Nat) (x:Nat) (W:World),J pre W->x=f+pre.length->pre.length<N->YieldAt Fence.wide (n-1) prog lb #[.int .i64 (x:Nat)] W λe W'=>
   (e=.returned (.bool true)/\J (pre++[x]) W'/\KpB bl W W')\/(e=.returned (.bool false)/\Jx (pre++[x]) W'))
  (W:World) (hW:eR bl W) (h0:J [] W) (hJN:∀s W',J s W'->s.length<N):
  CallsIn Fence.wide n prog 233 #[.func (.yield lb) #[] #[],pv Bw 0] W λe W'=>(∃v,e=.returned v)/\
   ((∃xs:List Nat,False/\J xs W')\/(∃pre,aGz f pre/\Jx pre W')):=by
 have hcw:=aE (hW _ hBw) 0;refine callsIn_of_wp func233 rfl trivial ?_ rfl;simp only[ntmps233,List.size_toArray,List.length_cons,List.length_nil,Nat.reduceAdd,Nat.reduceSub,Array.replicate_succ,Array.replicate_zero,List.push_toArray,List.append_toArray,List.nil_append,List.cons_append];gi_wp2_with fail;clear hcw
 gi_loopw [3] (λi wr=>∃pre:List Nat,aGz f pre/\i=.int .i64 ((f+pre.length:Nat):Int)/\eR bl wr/\J pre wr) (λi _=>N+f-(intOf i).toNat)
 case atStart=>exact⟨[],rfl,rfl,hW,h0⟩
 case round=>
  clear hW h0;obtain⟨pre,hpre,rfl,hb,hJ⟩:=hrel;have hlen:=hJN _ _ hJ;obtain⟨fn,tmps,assign,body,hy,hR⟩:=hY pre (f+pre.length) _ hJ rfl hlen;have HS:=aA hpre.aXy;obtain⟨z,hz⟩:∃z,f+pre.length=z:=⟨_,rfl⟩;have HZ:=aA hz;rw[hz] at hy hR HS⊢;have hz1:f<=z:=by omega
  have hz2:z<f+N:=by omega
  clear hz hY hpre hlen;gi_wp2_with fail;refine hR.mono ?_;rintro e W3 (⟨rfl,hJ3,hk3⟩|⟨rfl,hJx3⟩)
  .have hb3:=hb.keep hk3;clear hy hR hJ hb;gi_wp2_with fail;go_roundw
   case rel=>exact⟨pre++[z],HS.out,by rw[List.length_append,List.length_singleton,<-Nat.add_assoc,HZ.out];go_num,hb3,hJ3⟩
   case measure=>simp[intOf];omega
  .clear hy hR hJ hb;gi_wp2_with fail;go_end0;exact⟨⟨_,rfl⟩,.inr ⟨_,HS.out,hJx3⟩⟩
theorem aG1 (bl:List cH)(Bw f N:Nat)(hf:f<=1000)(hN:N<=1000)(hBw:(Bw,#[.int .i64 (f:Nat)],3)∈bl)(n:Nat)(hn:1<=n)(W:World)(hW:eR bl W):
  aU9 Fence.wide n prog 233 #[pv Bw 0] (λx:Nat=> #[Value.int .i64 (x:Nat)]) (λpre x _=>x=f+pre.length) (KpB bl) (λ_=>False) (λpre=>aGz f pre) N none W:=λlb J Jx bJ _ hY h0 hJN=>
 aHb bl Bw f N hf hN hBw n hn lb J Jx bJ hY W hW h0 hJN
def aVk (x:Sk)(l:Nat)(w:World)(b b2:Nat)(pre:List Nat)(W:World):Prop:=
 ∃(y:Sk) (h:aR),(y.kind=x.kind/\y.lev=x.lev+pre.length/\pre.length<=l-x.lev/\(pre=[]->y=x)/\y.Ok)/\bW W y h/\St w [(b,#[.int .i64 x.lev],3),(b2,#[.nilIface],137),(w.heap.size+1+1,#[.nilIface,.int .i64 0,.int .i64 0],135),(w.heap.size+1,#[.int .i64 l],3),(w.heap.size,#[.iface y.bt (h.a y),.int .i64 x.kind,.int .i64 y.lev],135)] (λ_=>True) W
def aVq (x:Sk)(l:Nat)(w:World)(b b2:Nat)(c:Code)(pre:List Nat)(W:World):Prop:=
 c=.exit 0/\∃(y:Sk) (h:aR),(aLp x l y/\y.Ok)/\bW W y h/\St w [(b,#[.int .i64 x.lev],3),(b2,#[.nilIface],137),(w.heap.size+1+1,#[.nilIface,.int .i64 0,.int .i64 0],135),(w.heap.size+1,#[.int .i64 l],3),(w.heap.size,#[.iface y.bt (h.a y),.int .i64 x.kind,.int .i64 y.lev],135)] (λ_=>True) W
attribute [local go_sem] Oper.semAt_some
theorem aPb (x:Sk)(hx:x.Ok)(l:Nat)(hl:l<=x.bot)(h:aR)(w:World)(hK:bW w x h):
  Calls prog 173 #[h.w x,.int .i64 l] w (aTa w (aLp x l)):=by
 have HB:=aA (λW=>mZ x W);have hbot:=x.bot_le;have hlev:=x.aXe hx;have hbt:¬(x.bot:Int)<(l:Int):=by omega
 simp only[aR.w,aR.b];have st0:=(((St.start w).alloc (cs:= #[.iface x.bt (h.a x),.int .i64 x.kind,.int .i64 x.lev]) (T:=135)).alloc (cs:= #[.int .i64 l]) (T:=3)).alloc (cs:= #[.nilIface,.int .i64 0,.int .i64 0]) (T:=135);simp only[World.size_alloc] at st0;refine(callsIn_wide (n:=5)).1 ?_;refine callsIn_of_wp_marks func173 rfl trivial ?_ rfl;simp only[ntmps173,List.size_toArray,List.length_cons,List.length_nil,Nat.reduceAdd,Nat.reduceSub,Array.replicate_succ,Array.replicate_zero,List.push_toArray,List.append_toArray,List.nil_append,List.cons_append];refine wpIn_wide.2 ?_;go_wp2_with fail;refine wp_scope_straight ?_;go_wp2_with fail;obtain⟨bl2,E2,hne2,sh2,rl,hEx,hbx,hst⟩:=st0.aW1;simp only[aI] at rl;refine aZ sh2 (by kernel_rfl) (by kernel_rfl) ?_
 repeat(first|go_big_quiet_step ((go_at_call 87;exact Cs.aW0 (HB.out _)))|quiet_step ((go_at_call 87;exact Cs.aW0 (HB.out _))))
 refine wpQuiet_nil ?_;intro y;have st4:=(hst y).out;clear hbx rl hst sh2 hEx st0 HB;generalize y.W=w4 at*;have rl:=st4.rl;have hw4:w.heap.size+1+1<w4.heap.size:=rl.2.2.1;have st5:=st4.alloc (cs:= #[.nilIface]) (T:=137);clear st4;go_wp2_with fail;refine wp_label ?_;have hz5:(w4.alloc (.cells #[.nilIface] 137)).heap.size=w4.heap.size+1:=by simp
 have rl:=st5.rl;have HZ5:=aA hz5;clear hz5;generalize w4.alloc (.cells #[.nilIface] 137)=w5 at*;have hc2:∀o,w5.cell? ⟨w.heap.size,o,none⟩=(#[.iface x.bt (h.a x),.int .i64 x.kind,.int .i64 x.lev]:Array Value)[o]? :=rl.2.2.2.2.2.2.2.2.2.1;clear rl;go_wp2_with fail;refine(aIo (x.lev:Int) w5).mono ?_;rintro e w6 ⟨rfl,rfl⟩;clear hc2;go_wp2_with fail;have st6:=st5.alloc (cs:= #[.int .i64 x.lev]) (T:=3);have hz6:(w5.alloc (.cells #[.int .i64 x.lev] 3)).heap.size=w5.heap.size+1:=by simp
 have hz45:w4.heap.size<w5.heap.size:=by have:=HZ5.out;omega
 have hw6:=st6.below.size;have HZ6:=aA hz6;clear st5;generalize w5.alloc (.cells #[.int .i64 x.lev] 3)=w6 at*;have hz56:w5.heap.size<w6.heap.size:=by omega
 clear hz6;have hlie:eR [(w5.heap.size,#[.int .i64 x.lev],3)] w6:=λx hx=>st6.blk x (by simp at hx;rcases hx with rfl;simp);have stc:aVk x l w w5.heap.size w4.heap.size [] w6:=⟨x,h,⟨rfl,rfl,cJ _,λ_=>rfl,hx⟩,hK.aWu (st6.below),st6⟩;refine(wpIn_wide (n:=5)).1 (tM (n:=5) (b:=none) (λ_ e=>by cases e) rfl (by omega) (gf:=233) (lb:= #[pv w5.heap.size 0]) rfl trivial (enters_of func233 (by kernel_rfl) rfl)
  (λW hb=>aG1 [(w5.heap.size,#[.int .i64 x.lev],3)] w5.heap.size x.lev (l-x.lev+1) (by omega) (by omega) (by simp) 4 (by omega) W (hlie.below hb)) (λh k=>λx hx=>(k x hx).trans (h x hx)) ?kb (λ_=>rfl)
  (aVk x l w w5.heap.size w4.heap.size) (aVq x l w w5.heap.size w4.heap.size)
  (λ_ _ _ _ ⟨y,k,h1,h2,h3⟩ hg hr=>⟨y,k,h1,h2.own hg (λr e=>(hr r e).2),St.own h3 hg hr hw6⟩) (λc _ _ _ _ ⟨h0,y,k,h1,h2,h3⟩ hg hr=>⟨h0,y,k,h1,h2.own hg (λr e=>(hr r e).2),St.own h3 hg hr hw6⟩)
  (λ_ _ _ ⟨y,k,h1,h2,h3⟩ hg=>⟨y,k,h1,h2.own hg (λr e=>by cases e),St.grown h3 hg (λk e=>by cases e)⟩) (λc _ _ _ ⟨h0,y,k,h1,h2,h3⟩ hg=>⟨h0,y,k,h1,h2.own hg (λr e=>by cases e),St.grown h3 hg (λk e=>by cases e)⟩) stc
  (λs W' ⟨y,k,h1,h2,h3⟩=>by have:=h1.2.2.1;omega)
  (λi c=>{tmps:= #[.agg #[.iface x.bt (h.a x),.int .i64 x.kind,.int .i64 x.lev],.int .i64 l,pv w.heap.size 0,pv (w.heap.size+1) 0,pv (w.heap.size+1+1) 0,.nilIface,pv w4.heap.size 0,.int .i64 i,.int .i64 l,pv w.heap.size 1,.int .i64 x.kind,.int .i64 x.bot,.bool false,undef,undef,undef,undef,pv w.heap.size 2,.int .i64 x.lev,.func (.func 233) #[] #[pv w5.heap.size 0],.int .i64 i,undef,undef,undef,undef,undef,undef,undef,undef,undef,undef,undef,undef,undef,undef],defers:=[]})
  (λpre i c W=>i=x.lev+pre.length) (λpre i c=>λ_ _ _ _ h _ _=>h) ?assign ?body ?done ?stop)
 case kb=>
  intro W l' o' hl' hlt x hx;have:=aC (hlie x hx);exact World.putObj_heap_other (by omega)
 case assign=>
  intro l' pre i W K hI hP hK;have HK:=aA (hK 0 W (KeepsOthers.refl _) (λ_ _=>rfl) hI hP);clear hK hP;gi_wp2_with fail;exact HK.out
 case body=>
  rintro l' pre i c W ⟨y,k,⟨hy1,hy2,hy3,hy4,hyo⟩,hKy,stI⟩ hi hN;have rl:=stI.rl;have HTO:Hid (l<=i->aLp x l y):=by
   show l<=i->aLp x l y;intro hge;refine⟨hy1,by omega,λhlx=>hy4 ?_⟩;have h0:pre.length=0:=by omega
   exact List.length_eq_zero_iff.1 h0
  have HYO:=aA hyo;have HLX:Hid (¬l<=i->y.lev<y.bot/\pre.length+1<=l-x.lev):=by
   show _->_;intro hge;rw[vX hy1];omega
  have HY1:=aA hy1;have HY2:=aA hy2;clear stc st6 hlie hK hx hi hy1 hy2 hy3 hy4 hyo hN
  by_cases hge:l<=i
  .have hge':(l:Int)<=(i:Int):=by omega
   gi_wp2_with fail;exact⟨KeepsOthers.refl _,rfl,y,k,⟨HTO.out hge,HYO.out⟩,hKy,stI⟩
  .have hge':¬(l:Int)<=(i:Int):=by omega
   have HLW:=aA (nO y HYO.out (HLX.out hge).1 k W hKy);simp only[aR.w,aR.b] at HLW;rw[HY1.out] at HLW;clear HTO;gi_wp2_with fail;refine⟨trivial,(CallsIn.inRound l' (callsIn_wide.2 HLW.out)).mono ?_⟩;rintro e w7 ⟨z,m,⟨hz,hzo⟩,rfl,hd,hf,hb7⟩;have st7:=stI.to hb7;have HZ1:=aA (hz.1.trans HY1.out);have HZ2:=aA (hz.2);have HZO:=aA hzo;have HD:=aA hd;simp only[aR.w,aR.b];rw[HZ1.out];clear hz hzo hd hf;clear rl HLW hKy;have rl:=st7.rl;gi_wp2_with fail;have st8:=(((St.sx st7 4 (A:=w.heap.size) rfl (o:=0) (v:=.iface z.bt (m.a z)) aH).sx 4 (A:=w.heap.size) rfl (o:=1) (v:=.int .i64 x.kind) aH).sx 4 (A:=w.heap.size) rfl (o:=2) (v:=.int .i64 z.lev) aH).sx 1 (A:=w4.heap.size) rfl (o:=0) (v:=.nilIface) (by omega);have hD1:=HD.out.aWz (st7.blk _ (bK (i:=4) rfl)) (dO _ _ _ _) ((((eU.refl _ _).set (o:=0) (.iface z.bt (m.a z))).set (o:=1) (.int .i64 x.kind)).set (o:=2) (.int .i64 z.lev));have hb2:(((w7.setCell ⟨w.heap.size,0,none⟩ (.iface z.bt (m.a z))).setCell ⟨w.heap.size,1,none⟩ (.int .i64 x.kind)).setCell ⟨w.heap.size,2,none⟩ (.int .i64 z.lev)).heap[w4.heap.size]? =some (.cells #[.nilIface] 137 (0,0)):=
    (Below.heap_setCell _ ⟨w.heap.size,2,none⟩ _ w4.heap.size (by show w4.heap.size≠w.heap.size;omega)).trans ((Below.heap_setCell _ ⟨w.heap.size,1,none⟩ _ w4.heap.size (by show w4.heap.size≠w.heap.size;omega)).trans ((Below.heap_setCell _ ⟨w.heap.size,0,none⟩ _ w4.heap.size (by show w4.heap.size≠w.heap.size;omega)).trans (st7.blk _ (bK (i:=1) rfl))))
   have hD2:=hD1.aWz hb2 (NoU.one (by intro n e;cases e)) ((eU.refl _ _).set (o:=0) .nilIface);have hkb:(((((w7.setCell ⟨w.heap.size,0,none⟩ (.iface z.bt (m.a z))).setCell ⟨w.heap.size,1,none⟩ (.int .i64 x.kind)).setCell ⟨w.heap.size,2,none⟩ (.int .i64 z.lev)).setCell ⟨w4.heap.size,0,none⟩ .nilIface)).heap[w5.heap.size]? =W.heap[w5.heap.size]? :=(st8.blk _ (bK (i:=0) rfl)).trans (stI.blk _ (bK (i:=0) rfl)).symm;refine⟨(aX hb7).trans (((KeepsOthers.setCell _ _ _).trans (KeepsOthers.setCell _ _ _)).trans ((KeepsOthers.setCell _ _ _).trans (KeepsOthers.setCell _ _ _))),λy hy=> ?_,z,m,⟨HZ1.out,?_,?_,λe=>by simp at e,HZO.out⟩,hD2,st8⟩
   .simp at hy;subst hy;exact hkb
   .rw[HZ2.out,HY2.out,List.length_append,List.length_singleton,Nat.add_assoc]
   .rw[List.length_append,List.length_singleton];exact(HLX.out hge).2
 case done=>
  rintro D xs W hD h;exact h.elim
 case stop=>
  rintro D c pre W hD hp ⟨rfl,y,k,⟨hT,hyo⟩,hKy,st9⟩ hK9;refine wpIn_wide.2 ?_;have rl:=st9.rl;have HT:=aA hT;have HYO:=aA hyo;have HKY:=aA hKy;clear stc st6 hlie hK hx hT hyo hKy;go_wp2_with fail
  go_region
  all_goals
   go_wp2_with fail;have hne:D≠w.heap.size+1+1:=by omega
   have st10:=(((St.aW5 st9 2 (A:=w.heap.size+1+1) rfl (o:=0) (v:=.iface y.bt (k.a y)) (by omega)).aW5 2 (A:=w.heap.size+1+1) rfl (o:=1) (v:=.int .i64 x.kind) (by omega)).aW5 2 (A:=w.heap.size+1+1) rfl (o:=2) (v:=.int .i64 y.lev) (by omega)).drew;simp only[jP,List.modify_succ_cons,List.modify_zero_cons,List.setIfInBounds_toArray,List.set_cons_zero,List.set_cons_succ] at st10;have hD1:=(HKY.out.aWz (st9.blk _ (bK (i:=2) rfl)) aHu ((((eU.refl _ _).set (o:=0) (.iface y.bt (k.a y))).set (o:=1) (.int .i64 x.kind)).set (o:=2) (.int .i64 y.lev))).aWu aW.drew;have hK':(((W.setCell ⟨w.heap.size+1+1,0,none⟩ (.iface y.bt (k.a y))).setCell ⟨w.heap.size+1+1,1,none⟩ (.int .i64 x.kind)).setCell ⟨w.heap.size+1+1,2,none⟩ (.int .i64 y.lev)).drew.heap[D]? =some (.deferred (some [])):=
    (Below.heap_setCell _ ⟨w.heap.size+1+1,2,none⟩ _ D hne).trans ((Below.heap_setCell _ ⟨w.heap.size+1+1,1,none⟩ _ D hne).trans ((Below.heap_setCell _ ⟨w.heap.size+1+1,0,none⟩ _ D hne).trans hK9))
   clear rl st9 hK9;generalize(((W.setCell ⟨w.heap.size+1+1,0,none⟩ (.iface y.bt (k.a y))).setCell ⟨w.heap.size+1+1,1,none⟩ (.int .i64 x.kind)).setCell ⟨w.heap.size+1+1,2,none⟩ (.int .i64 y.lev)).drew=W' at*;refine⟨by simp,.inl ⟨_,_,rfl,run_takeDeferred hK',?_⟩⟩;have hc:∀o,(W'.putObj D (.deferred none)).cell? ⟨w.heap.size+1+1,o,none⟩=(#[.iface y.bt (k.a y),.int .i64 x.kind,.int .i64 y.lev]:Array Value)[o]? :=λo=>aE ((World.putObj_heap_other (by omega)).trans (st10.blk _ (bK (i:=2) rfl))) o;refine⟨.tuple #[.agg #[.iface y.bt (k.a y),.int .i64 x.kind,.int .i64 y.lev],.nilIface],by simp[results,results173,go_sem,hc],y,k,⟨HT.out,HYO.out⟩,?_,hD1.own (grownBy_putObj' W' D _) (λr e=>by cases e;exact⟨_,hK',rfl⟩),?_⟩
   .simp only[aR.w,aR.b];rw[HT.out.1]
   .exact st10.below.grown (grownBy_putObj' W' D _) st10.below.size (λk e=>by cases e;omega)
end
section
open Go.RowKit Go.Shelf
def aRv (w:World)(S T:Sk->Prop)(e:Ending)(w':World):Prop:=∃(x:Sk) (h:aR) (y:Sk) (k:aR),(S x/\x.Ok)/\(T y/\y.Ok)/\e=.returned (.tuple #[h.w x,k.w y,.nilIface])/\bW w' x h/\bW w' y k/\RowKit.Below w.heap.size w w'
theorem bW.aW9 {W:World}{x:Sk}{h:aR}(r:bW W x h){b:Nat}{cs:Array Value}{T:TypeId}(hb:W.heap[b]? =some (.cells cs T (0,0)))(hn:NoU cs)(u v z:Value):bW (((W.setCell ⟨b,0,none⟩ u).setCell ⟨b,1,none⟩ v).setCell ⟨b,2,none⟩ z) x h:=
 r.aWz hb hn ((((eU.refl _ _).set (o:=0) u).set (o:=1) v).set (o:=2) z)
theorem nR {W:World}{b c:Nat}{cs:Array Value}{T:TypeId}(hb:W.heap[c]? =some (.cells cs T (0,0)))(hne:c≠b)(u v z:Value):(((W.setCell ⟨b,0,none⟩ u).setCell ⟨b,1,none⟩ v).setCell ⟨b,2,none⟩ z).heap[c]? =some (.cells cs T (0,0)):=
 (Below.heap_setCell _ ⟨b,2,none⟩ _ c hne).trans ((Below.heap_setCell _ ⟨b,1,none⟩ _ c hne).trans ((Below.heap_setCell _ ⟨b,0,none⟩ _ c hne).trans hb))
theorem aC6 (x y:Sk)(hx:x.Ok)(hy:y.Ok)(l:Nat)(hlx:l<=x.bot)(hly:l<=y.bot)(h k:aR)(w:World)(hK:bW w x h)(hK':bW w y k):
  Calls prog 130 #[h.w x,k.w y,.int .i64 l] w (aRv w (aLp x l) (aLp y l)):=by
 have H1:=aA (λW hW=>aPb x hx l hlx h W (hK.aWu hW));have H2:=aA (λW hW=>aPb y hy l hly k W (hK'.aWu hW));simp only[aR.w,aR.b] at H1 H2⊢;have st0:=((((St.start w).alloc (cs:= #[.iface x.bt (h.a x),.int .i64 x.kind,.int .i64 x.lev]) (T:=135)).alloc (cs:= #[.iface y.bt (k.a y),.int .i64 y.kind,.int .i64 y.lev]) (T:=135)).alloc (cs:= #[.nilIface,.int .i64 0,.int .i64 0]) (T:=135)).alloc (cs:= #[.nilIface,.int .i64 0,.int .i64 0]) (T:=135);simp only[World.size_alloc] at st0;clear hK hK' hx hy hlx hly;go_enter func130,ntmps130;go_wp2_with fail;refine(H1.out _ st0.below).mono ?_;rintro e w1 ⟨p,hp,hpS,rfl,hd1,hb1⟩;have HP:=aA hpS;have st1:=st0.to hb1;have HD1:=aA (hd1.aW9 (st1.blk _ (bK (i:=3) rfl)) (dO _ _ _ _) (.iface p.bt (hp.a p)) (.int .i64 p.kind) (.int .i64 p.lev));simp only[aR.w,aR.b];clear hd1 hpS;have rl:=st1.rl;clear st0 hb1 H1;go_wp2_with fail;have st2:=(((St.sx st1 3 (A:=w.heap.size) rfl (o:=0) (v:=.iface p.bt (hp.a p)) (by omega)).sx 3 (A:=w.heap.size) rfl (o:=1) (v:=.int .i64 p.kind) (by omega)).sx 3 (A:=w.heap.size) rfl (o:=2) (v:=.int .i64 p.lev) (by omega));clear st1 rl;generalize((w1.setCell ⟨w.heap.size,0,none⟩ (.iface p.bt (hp.a p))).setCell ⟨w.heap.size,1,none⟩ (.int .i64 p.kind)).setCell ⟨w.heap.size,2,none⟩ (.int .i64 p.lev)=w2 at*;refine(H2.out _ st2.below).mono ?_;rintro e w3 ⟨q,hq,hqS,rfl,hd2,hb2⟩;have HQ:=aA hqS;have st3:=st2.to hb2;have hB1:=st3.blk _ (bK (i:=2) rfl);have hB2:=nR (st3.blk _ (bK (i:=1) rfl)) (show w.heap.size+1+1≠w.heap.size+1 by omega) (.iface q.bt (hq.a q)) (.int .i64 q.kind) (.int .i64 q.lev);have hB3:=nR (nR (st3.blk _ (bK (i:=0) rfl)) (show w.heap.size+1+1+1≠w.heap.size+1 by omega) (.iface q.bt (hq.a q)) (.int .i64 q.kind) (.int .i64 q.lev)) (show w.heap.size+1+1+1≠w.heap.size+1+1 by omega) (.iface p.bt (hp.a p)) (.int .i64 p.kind) (.int .i64 p.lev)
 have key:∀{z:Sk} {m:aR},bW w3 z m->bW ((((((((((w3.setCell ⟨w.heap.size+1,0,none⟩ (.iface q.bt (hq.a q))).setCell ⟨w.heap.size+1,1,none⟩ (.int .i64 q.kind)).setCell ⟨w.heap.size+1,2,none⟩ (.int .i64 q.lev)).setCell ⟨w.heap.size+1+1,0,none⟩ (.iface p.bt (hp.a p))).setCell ⟨w.heap.size+1+1,1,none⟩ (.int .i64 p.kind)).setCell ⟨w.heap.size+1+1,2,none⟩ (.int .i64 p.lev)).setCell ⟨w.heap.size+1+1+1,0,none⟩ (.iface q.bt (hq.a q))).setCell ⟨w.heap.size+1+1+1,1,none⟩ (.int .i64 q.kind)).setCell ⟨w.heap.size+1+1+1,2,none⟩ (.int .i64 q.lev)).drew) z m:=
  λr=>(((r.aW9 hB1 (dO _ _ _ _) _ _ _).aW9 hB2 aHu _ _ _).aW9 hB3 aHu _ _ _).aWu aW.drew
 have HD2:=aA (key hd2);have HD3:=aA (key (HD1.out.aWu hb2));simp only[aR.w,aR.b];clear st2 hb2 H2 hd2 HD1 hqS hB1 hB2 hB3 key;have rl:=st3.rl;go_wp2_with fail
 go_region
 all_goals
  go_wp2_with fail;refine bodyPost_ret (v:=.tuple #[.agg #[.iface p.bt (hp.a p),.int .i64 p.kind,.int .i64 p.lev],.agg #[.iface q.bt (hq.a q),.int .i64 q.kind,.int .i64 q.lev],.nilIface]) (by simp[results,results130,go_sem,rl]) rfl ⟨p,hp,q,hq,HP.out,HQ.out,rfl,HD3.out,HD2.out,?_⟩;refine Below.drew ?_
  repeat(with_reducible refine Below.setCell ?_ (by simp;try omega) _)
  exact st3.below
theorem aQ4 {x y:Sk}{a:Nat}(h:aUl x a y):aOk x a y:=⟨h.1.1,λL e _=>(h.2 L e).2⟩
theorem aPg (x:Sk)(hx:x.Ok)(a n:Nat)(ha:a<=aJ)(hn:n<=aJ)(h:aR)(A:Nat)(w:World)(hG:lP w)(hK:bW w x h)(hA:w.heap[A]? =some (.cells #[.int .u64 a,.int .u64 n] 45 (0,0))):
  Calls prog 112 #[h.w x,.slice (some ⟨A,0,none⟩) 1 1] w (aHs w (aOk x a)):=by
 have HC:=aA (λW hW=>aEg x hx a n ha hn h W (hK.aWu hW));have hm:=λw=>aJs x (h.a x) w;have hent:=λargs w=>aD4 x args w;have hcA:=aE hA;have hlA:=aC hA;have HA:=aA ha;have HN:=aA hn;have HG:=aA hG;have HX:=aA hx;have HK:=aA hK;obtain⟨bV,hbV⟩:∃bV,h.a x=bV:=⟨_,rfl⟩;obtain⟨bD,hbD⟩:∃bD,x.bt=bD:=⟨_,rfl⟩;have HBV:=aA hbV;have HBD:=aA hbD;simp only[aR.w,aR.b];rw[hbV] at HC hm⊢;rw[hbD] at hm⊢;clear hbV hbD ha hn hG hx hK;generalize x.aXv=fC at*;obtain⟨kd,hkd⟩:∃kd,x.kind=kd:=⟨_,rfl⟩;obtain⟨lv,hlv⟩:∃lv,x.lev=lv:=⟨_,rfl⟩;have HKD:=aA hkd;have HLV:=aA hlv;rw[hkd,hlv];clear hkd hlv;have st0:=(((St.start w).alloc (cs:= #[.iface bD bV,.int .i64 kd,.int .i64 lv]) (T:=135)).alloc (cs:= #[.nilIface,.int .i64 0,.int .i64 0]) (T:=135)).alloc (cs:= #[.int .u64 a,.int .u64 n]) (T:=45);simp only[World.size_alloc] at st0;clear hA;go_enter func112,ntmps112;go_wp2_with fail;refine wp_loop_rounds 2 ?_;rw[rounds_succ];go_wp2_with fail;refine(HC.out _ st0.below).mono ?_;intro e w1 hor;rcases hor with⟨y,h',⟨hy,hyo⟩,rfl,hd,hf,hb1⟩|⟨hex,A2,rfl,hA2,hN2,hb1⟩
 .have st1:=st0.to hb1;have HF:=hf.mono (show w.heap.size+1+1+1<=_ by simp);have HD:=aA hd;have HY:=aA hy;have HYO:=aA hyo;obtain⟨cV,hcV⟩:∃cV,h'.a y=cV:=⟨_,rfl⟩;obtain⟨cD,hcD⟩:∃cD,y.bt=cD:=⟨_,rfl⟩;have HCV:=aA hcV;have HCD:=aA hcD;simp only[aR.b];rw[hcV,hcD];have rl:=st1.rl;clear st0 hb1 HC hd hf hm hent hcA hcV hcD hy hyo;go_wp2_with fail;refine(wK _).mono ?_;rintro e w2 ⟨rfl,hb2⟩;have st2:=st1.to hb2;have HD2:=aA (HD.out.aWu hb2);clear st1 hb2 rl HD;have rl:=st2.rl;go_wp2_with fail;rw[rounds_succ];go_wp2_with fail;refine bodyPost_ret (v:=.tuple #[.agg #[.iface cD cV,.int .i64 kd,.int .i64 lv],.nilIface]) (by simp[results,results112,go_sem,rl]) rfl ⟨y,h',⟨aQ4 HY.out,HYO.out⟩,?_,HD2.out.up HF ?_,HF.mono (by omega),?_⟩
  .rw[aR.w,aR.b,HCV.out,HCD.out,HY.out.1.1,HY.out.1.2,HKD.out,HLV.out]
  .repeat(with_reducible refine aM.set ?_ (by omega) _)
   exact aM.refl _ _
  .repeat(with_reducible refine Below.setCell ?_ (by simp;try omega) _)
   exact st2.below
 .have hA2':w.heap.size+1+1+1<=A2:=by simpa using hA2
  have st1:=st0.aW8 (st0.to hb1) hA2 hN2;have HG1:=aA (HG.out.aWu st1.below);have HEX:=aA hex;have HL:=aA (λW hW=>nO x HX.out (by obtain⟨L,rfl,_⟩:=HEX.out;show 0<4;omega) h W (HK.out.aWu hW));simp only[aR.w,aR.b] at HL;rw[HBV.out,HBD.out,HKD.out,HLV.out] at HL;clear st0 hb1 HC hm hent hcA hA2 hN2 hex;have rl:=st1.rl;have hA2l:=aC (st1.blk _ (bK (i:=0) rfl));go_wp2_with fail;refine(uO A2 _ HG1.out (st1.blk _ (bK (i:=0) rfl))).mono ?_;rintro e w2 ⟨rfl,hb2⟩;have st2:=st1.to hb2;clear st1 hb2 rl;have rl:=st2.rl;go_wp2_with fail;refine(HL.out _ st2.below).mono ?_;rintro e w3 ⟨z,m,⟨hz,hzo⟩,rfl,hd,hf,hb3⟩;have st3:=st2.to hb3;have HZ:=aA hz;have HZO:=aA hzo;have HZK:Hid (z.kind=kd):=hz.1.trans HKD.out;obtain⟨dV,hdV⟩:∃dV,m.a z=dV:=⟨_,rfl⟩;obtain⟨dD,hdD⟩:∃dD,z.bt=dD:=⟨_,rfl⟩;have HD3:=aA (hd.aW9 (st3.blk _ (bK (i:=3) rfl)) (dO _ _ _ _) (.iface dD dV) (.int .i64 kd) (.int .i64 z.lev));have hm2:=λw=>aJs z (m.a z) w;have hent2:=λargs w=>aD4 z args w;have HC2:=aA (λW hW=>aEg z HZO.out a n HA.out HN.out m W hW);simp only[aR.w,aR.b];rw[hdV] at hm2 HC2⊢;rw[hdD] at hm2⊢;rw[HZK.out];have HDV:=aA hdV;have HDD:=aA hdD;clear st2 hb3 rl HL hd hf hz hzo hdV hdD;generalize z.aXv=fC2 at*;have rl:=st3.rl;go_wp2_with fail;refine(HC2.out _ HD3.out).mono ?_;intro e w4 hor;rcases hor with⟨y,h',⟨hy,hyo⟩,rfl,hd,hf,hb4⟩|⟨⟨L,hzL,_⟩,_⟩
  .have st4:=((((St.sx st3 3 (A:=w.heap.size) rfl (o:=0) (v:=.iface dD dV) aH).sx 3 (A:=w.heap.size) rfl (o:=1) (v:=.int .i64 kd) aH).sx 3 (A:=w.heap.size) rfl (o:=2) (v:=.int .i64 z.lev) aH)).to hb4;have HF:=aA (hf.mono (show w.heap.size+1+1+1<=_ by have:=aC (st3.blk (w.heap.size+1+1,#[.int .u64 a,.int .u64 n],45) (by simp));simp[World.setCell];omega));have HD:=aA hd;have HY:=aA hy;have HYO:=aA hyo;obtain⟨cV,hcV⟩:∃cV,h'.a y=cV:=⟨_,rfl⟩;obtain⟨cD,hcD⟩:∃cD,y.bt=cD:=⟨_,rfl⟩;have HCV:=aA hcV;have HCD:=aA hcD;simp only[aR.b];rw[hcV,hcD];clear st3 hb4 rl HC2 HD3 hd hf hm2 hent2 hcV hcD hy hyo;have rl:=st4.rl;go_wp2_with fail;rw[rounds_succ];go_wp2_with fail;refine bodyPost_ret (v:=.tuple #[.agg #[.iface cD cV,.int .i64 kd,.int .i64 z.lev],.nilIface]) (by simp[results,results112,go_sem,rl]) rfl ⟨y,h',⟨?_,HYO.out⟩,?_,HD.out.up HF.out ?_,HF.out.mono (by omega),?_⟩
   .refine⟨HY.out.1.1.trans HZ.out.1,λL hL hle=> ?_⟩;obtain⟨L',hL',h64⟩:=HEX.out;rw[hL] at hL';cases hL';omega
   .rw[aR.w,aR.b,HCV.out,HCD.out,HY.out.1.1,HY.out.1.2,HZK.out]
   .repeat(with_reducible refine aM.set ?_ (by omega) _)
    exact aM.refl _ _
   .repeat(with_reducible refine Below.setCell ?_ (by simp;try omega) _)
    exact st4.below
  .exfalso;have h1:=HZ.out.2;rw[hzL] at h1;exact absurd h1 (by show¬(0=x.lev+1);omega)
end
section
open Go.RowKit Go.Shelf
theorem aHe (x y:Sk)(hkk:y.kind=x.kind)(hx:x.Ok)(hy:y.Ok)(h k:aR)(w:World)(hG:lP w)(hK:bW w x h)(hK':bW w y k):
  Calls prog 85 #[h.w x,k.w y] w (aHs w (gW x y)):=by
 have hxb:=x.aXe hx;have hyb:=y.aXe hy;have hbb:=vX hkk;have HV:=aA (λW hW=>aC6 x y hx hy (max x.lev y.lev) (by omega) (by omega) h k W (hK.aWu hW) (hK'.aWu hW));have HG:=aA hG;have HKK:=aA hkk;simp only[aR.w,aR.b] at HV⊢;rw[hkk,show((max x.lev y.lev:Nat):Int)=max (x.lev:Int) (y.lev:Int) by omega] at HV;rw[hkk];obtain⟨kd,hkd⟩:∃kd,x.kind=kd:=⟨_,rfl⟩;have HKD:=aA hkd;rw[hkd] at HV⊢;clear hkd hkk hK hK' hx hy hG hxb hyb hbb;have st0:=(((St.start w).alloc (cs:= #[.iface x.bt (h.a x),.int .i64 kd,.int .i64 x.lev]) (T:=135)).alloc (cs:= #[.iface y.bt (k.a y),.int .i64 kd,.int .i64 y.lev]) (T:=135)).alloc (cs:= #[.nilIface,.int .i64 0,.int .i64 0]) (T:=135);simp only[World.size_alloc] at st0;go_enter func85,ntmps85;go_wp2_with fail;refine(HV.out _ st0.below).mono ?_;rintro e w1 ⟨p,hp,q,hq,⟨hpT,hpo⟩,⟨hqT,hqo⟩,rfl,hd1,hd2,hb1⟩;have st1:=st0.to hb1;have HpK:Hid (p.kind=kd):=hpT.1.trans HKD.out;have HqK:Hid (q.kind=kd):=(hqT.1.trans HKK.out).trans HKD.out;have HpT:=aA hpT;have HqT:=aA hqT;have Hpo:=aA hpo;have Hqo:=aA hqo;have hB1:=st1.blk _ (bK (i:=2) rfl);have hB2:=nR (st1.blk _ (bK (i:=1) rfl)) (show w.heap.size+1≠w.heap.size by omega) (.iface p.bt (hp.a p)) (.int .i64 kd) (.int .i64 p.lev);have HD1:=aA ((hd1.aW9 hB1 (dO _ _ _ _) (.iface p.bt (hp.a p)) (.int .i64 kd) (.int .i64 p.lev)).aW9 hB2 (dO _ _ _ _) (.iface q.bt (hq.a q)) (.int .i64 kd) (.int .i64 q.lev));have HD2:=aA ((hd2.aW9 hB1 (dO _ _ _ _) (.iface p.bt (hp.a p)) (.int .i64 kd) (.int .i64 p.lev)).aW9 hB2 (dO _ _ _ _) (.iface q.bt (hq.a q)) (.int .i64 kd) (.int .i64 q.lev));have HSL:Hid (wT p q):=⟨HqK.out.trans HpK.out.symm,by rw[hpT.2.1,hqT.2.1];omega⟩;have hm:=λw=>zZ p (hp.a p) w;have hent:=λargs w=>wR p args w;have HC:=aA (λW h1 h2=>xY p q HSL.out Hpo.out Hqo.out hp hq W h1 h2);simp only[aR.w,aR.b] at HC⊢
 rw[HpK.out,HqK.out];clear st0 hb1 HV hd1 hd2 hB1 hB2 hpT hqT hpo hqo;have rl:=st1.rl;go_wp2_with fail;have st2:=(((((St.sx st1 2 (A:=w.heap.size) rfl (o:=0) (v:=.iface p.bt (hp.a p)) (by omega)).sx 2 (A:=w.heap.size) rfl (o:=1) (v:=.int .i64 kd) (by omega)).sx 2 (A:=w.heap.size) rfl (o:=2) (v:=.int .i64 p.lev) (by omega)).sx 1 (A:=w.heap.size+1) rfl (o:=0) (v:=.iface q.bt (hq.a q)) (by omega)).sx 1 (A:=w.heap.size+1) rfl (o:=1) (v:=.int .i64 kd) (by omega)).sx 1 (A:=w.heap.size+1) rfl (o:=2) (v:=.int .i64 q.lev) (by omega);clear st1 rl;generalize((((((w1.setCell ⟨w.heap.size,0,none⟩ (.iface p.bt (hp.a p))).setCell ⟨w.heap.size,1,none⟩ (.int .i64 kd)).setCell ⟨w.heap.size,2,none⟩ (.int .i64 p.lev)).setCell ⟨w.heap.size+1,0,none⟩ (.iface q.bt (hq.a q))).setCell ⟨w.heap.size+1,1,none⟩ (.int .i64 kd)).setCell ⟨w.heap.size+1,2,none⟩ (.int .i64 q.lev))=w2 at*;refine(HC.out _ HD1.out HD2.out).mono ?_;intro e w3 hor;rcases hor with⟨z,h',⟨hz,hzo⟩,rfl,hd,hf,hb3⟩|⟨hex,A2,rfl,hA2,hN2,hb3⟩
 .have HF:=aA (hf.mono (show w.heap.size+1+1+1<=_ from aC (st2.blk (w.heap.size+1+1,#[.nilIface,.int .i64 0,.int .i64 0],135) (by simp))));have st3:=st2.to hb3;have HD:=aA hd;have HZ:=aA hz;have HZO:=aA hzo;obtain⟨cV,hcV⟩:∃cV,h'.a z=cV:=⟨_,rfl⟩;obtain⟨cD,hcD⟩:∃cD,z.bt=cD:=⟨_,rfl⟩;have HCV:=aA hcV;have HCD:=aA hcD;simp only[aR.b];rw[hcV,hcD];clear st2 hb3 HC HD1 HD2 hd hf hm hent hcV hcD hz hzo;have rl:=st3.rl;go_wp2_with fail;refine(wK _).mono ?_;rintro e w4 ⟨rfl,hb4⟩;have st4:=st3.to hb4;have HD:=aA (HD.out.aWu hb4);clear st3 hb4 rl;have rl:=st4.rl;go_wp2_with fail;refine bodyPost_ret (v:=.tuple #[.agg #[.iface cD cV,.int .i64 kd,.int .i64 p.lev],.nilIface]) (by simp[results,results85,go_sem,rl]) rfl ⟨z,h',⟨?_,HZO.out⟩,?_,HD.out.up HF.out ?_,HF.out.mono (by omega),?_⟩
  .refine⟨HZ.out.1.1.trans HpT.out.1,λL M e1 e2 hle=> ?_⟩;have p1:=HpT.out.2.2 (by rw[e1,e2];exact aH);have q1:=HqT.out.2.2 (by rw[e1,e2];exact aH);exact(HZ.out.2 L M (p1.trans e1) (q1.trans e2)).2
  .rw[aR.w,aR.b,HCV.out,HCD.out,HZ.out.1.1,HZ.out.1.2,HpK.out]
  .repeat(with_reducible refine aM.set ?_ (by omega) _)
   exact aM.refl _ _
  .repeat(with_reducible refine Below.setCell ?_ (by simp;try omega) _)
   exact st4.below
 .have HD1':=aA (HD1.out.aWu hb3);have HD2':=aA (HD2.out.aWu hb3);have hA2':w.heap.size+1+1+1<=A2:=dR (aC (st2.blk (w.heap.size+1+1,#[.nilIface,.int .i64 0,.int .i64 0],135) (by simp))) hA2;have st3:=st2.aW8 (st2.to hb3) hA2 hN2;have HG1:=aA (HG.out.aWu st3.below);have HEX:=aA hex;have hpz:p.lev=0:=by obtain⟨L,M,e1,_⟩:=hex;rw[e1];rfl
  have hkb:p.bot=4:=by obtain⟨L,M,e1,_⟩:=hex;rw[e1];rfl
  have HV2:=aA (λW h1 h2=>aC6 p q Hpo.out Hqo.out (p.lev+1) (by omega) (by rw[vX (HqK.out.trans HpK.out.symm)];omega) hp hq W h1 h2);simp only[aR.w,aR.b] at HV2;rw[HpK.out,HqK.out,show((p.lev+1:Nat):Int)=(p.lev:Int)+1 by push_cast;rfl] at HV2;have hp4:(p.lev:Int)<=4:=by omega
  clear st2 hb3 HC HD1 HD2 hm hent hA2 hN2 hex hpz hkb;have rl:=st3.rl;go_wp2_with fail;refine(uO A2 _ HG1.out (st3.blk _ (bK (i:=0) rfl))).mono ?_;rintro e w4 ⟨rfl,hb4⟩;have st4:=st3.to hb4;have HE1:=aA (HD1'.out.aWu hb4);have HE2:=aA (HD2'.out.aWu hb4);clear st3 hb4 rl HD1' HD2';have rl:=st4.rl;go_wp2_with fail;refine(HV2.out _ HE1.out HE2.out).mono ?_;rintro e w5 ⟨r,hr,s,hs,⟨hrT,hro⟩,⟨hsT,hso⟩,rfl,hd1,hd2,hb1⟩;have st5:=st4.to hb1;have HrK:Hid (r.kind=kd):=hrT.1.trans HpK.out;have HsK:Hid (s.kind=kd):=hsT.1.trans HqK.out;have HrT:=aA hrT;have HsT:=aA hsT;have Hro:=aA hro;have Hso:=aA hso;have hB1:=st5.blk _ (bK (i:=3) rfl);have hB2:=nR (st5.blk _ (bK (i:=2) rfl)) (show w.heap.size+1≠w.heap.size by omega) (.iface r.bt (hr.a r)) (.int .i64 kd) (.int .i64 r.lev);have HD1:=aA ((hd1.aW9 hB1 (dO _ _ _ _) (.iface r.bt (hr.a r)) (.int .i64 kd) (.int .i64 r.lev)).aW9 hB2 (dO _ _ _ _) (.iface s.bt (hs.a s)) (.int .i64 kd) (.int .i64 s.lev));have HD2:=aA ((hd2.aW9 hB1 (dO _ _ _ _) (.iface r.bt (hr.a r)) (.int .i64 kd) (.int .i64 r.lev)).aW9 hB2 (dO _ _ _ _) (.iface s.bt (hs.a s)) (.int .i64 kd) (.int .i64 s.lev));have HSL0:=HSL;have HSL:Hid (wT r s):=⟨HsK.out.trans HrK.out.symm,by rw[hrT.2.1,hsT.2.1,HSL0.out.2]⟩;have hm:=λw=>zZ r (hr.a r) w;have hent:=λargs w=>wR r args w;have HC:=aA (λW h1 h2=>xY r s HSL.out Hro.out Hso.out hr hs W h1 h2);simp only[aR.w,aR.b] at HC⊢;rw[HrK.out,HsK.out];clear st4 hb1 HV2 HE1 HE2 rl hd1 hd2 hB1 hB2 hrT hsT hro hso;have rl:=st5.rl;go_wp2_with fail;have st6:=(((((St.sx st5 3 (A:=w.heap.size) rfl (o:=0) (v:=.iface r.bt (hr.a r)) (by omega)).sx 3 (A:=w.heap.size) rfl (o:=1) (v:=.int .i64 kd) (by omega)).sx 3 (A:=w.heap.size) rfl (o:=2) (v:=.int .i64 r.lev) (by omega)).sx 2 (A:=w.heap.size+1) rfl (o:=0) (v:=.iface s.bt (hs.a s)) (by omega)).sx 2 (A:=w.heap.size+1) rfl (o:=1) (v:=.int .i64 kd) (by omega)).sx 2 (A:=w.heap.size+1) rfl (o:=2) (v:=.int .i64 s.lev) (by omega)
  clear st5 rl;generalize((((((w5.setCell ⟨w.heap.size,0,none⟩ (.iface r.bt (hr.a r))).setCell ⟨w.heap.size,1,none⟩ (.int .i64 kd)).setCell ⟨w.heap.size,2,none⟩ (.int .i64 r.lev)).setCell ⟨w.heap.size+1,0,none⟩ (.iface s.bt (hs.a s))).setCell ⟨w.heap.size+1,1,none⟩ (.int .i64 kd)).setCell ⟨w.heap.size+1,2,none⟩ (.int .i64 s.lev))=w6 at*;refine(HC.out _ HD1.out HD2.out).mono ?_;intro e w3 hor;rcases hor with⟨z,h',⟨hz,hzo⟩,rfl,hd,hf,hb3⟩|⟨⟨L,M,hzL,_⟩,_⟩
  .have HF:=aA (hf.mono (show w.heap.size+1+1+1<=_ from aC (st6.blk (w.heap.size+1+1,#[.nilIface,.int .i64 0,.int .i64 0],135) (by simp))));have st3:=st6.to hb3;have HD:=aA hd;have HZ:=aA hz;have HZO:=aA hzo;obtain⟨cV,hcV⟩:∃cV,h'.a z=cV:=⟨_,rfl⟩;obtain⟨cD,hcD⟩:∃cD,z.bt=cD:=⟨_,rfl⟩;have HCV:=aA hcV;have HCD:=aA hcD;simp only[aR.b];rw[hcV,hcD];clear st6 hb3 HC HD1 HD2 hd hf hm hent hcV hcD hz hzo;have rl:=st3.rl;go_wp2_with fail;refine bodyPost_ret (v:=.tuple #[.agg #[.iface cD cV,.int .i64 kd,.int .i64 r.lev],.nilIface]) (by simp[results,results85,go_sem,rl]) rfl ⟨z,h',⟨?_,HZO.out⟩,?_,HD.out.up HF.out ?_,HF.out.mono (by omega),?_⟩
   .refine⟨(HZ.out.1.1.trans HrT.out.1).trans HpT.out.1,λL M e1 e2 hle=> ?_⟩;have p1:=HpT.out.2.2 (by rw[e1,e2];exact aH);have q1:=HqT.out.2.2 (by rw[e1,e2];exact aH);obtain⟨L',M',f1,f2,h64⟩:=HEX.out;rw[p1,e1] at f1;rw[q1,e2] at f2;cases f1;cases f2;omega
   .rw[aR.w,aR.b,HCV.out,HCD.out,HZ.out.1.1,HZ.out.1.2,HrK.out]
   .repeat(with_reducible refine aM.set ?_ (by omega) _)
    exact aM.refl _ _
   .repeat(with_reducible refine Below.setCell ?_ (by simp;try omega) _)
    exact st3.below
  .exfalso;have h1:=HrT.out.2.1;rw[hzL] at h1;exact absurd h1 (by show¬(0=max p.lev (p.lev+1));omega)
end
section
open Go.RowKit Go.Shelf
theorem xA (x:Sk)(hx:x.Ok)(a n:Nat)(ha:a<=aJ)(hn:n<=aJ)(h:aR)(w:World)(hG:lP w)(hK:bW w x h):
  Calls prog 70 #[h.v x,.agg #[.int .u64 a,.int .u64 n]] w (fD w (aOk x a)):=by
 have HO:=aA (λW hW=>mO x hx h W (hK.aWu hW));have HW:=aA (λA W hW hA=>aPg x hx a n ha hn h A W (hG.aWu hW) (hK.aWu hW) hA);simp only[aR.w,aR.b] at HO HW;generalize h.a x=bV at*;generalize x.bt=bD at*;obtain⟨⟨es,ec⟩,⟨cs,cc⟩,⟨gs,gc⟩⟩:=h;change Calls prog 70 #[.agg #[.int .i64 x.kind,.int .i64 x.lev,.slice es x.e.length ec,.int .i64 x.bits,.string x.aWx,.int .i64 x.rows,.int .i64 x.aWv,.slice cs x.c.length cc,.int .i64 x.aWw,.slice gs x.g.length gc],.agg #[.int .u64 a,.int .u64 n]] w _;have st0:=(((St.start w).alloc (cs:= #[.int .i64 x.kind,.int .i64 x.lev,.slice es x.e.length ec,.int .i64 x.bits,.string x.aWx,.int .i64 x.rows,.int .i64 x.aWv,.slice cs x.c.length cc,.int .i64 x.aWw,.slice gs x.g.length gc]) (T:=103)).alloc (cs:= #[.int .u64 a,.int .u64 n]) (T:=45)).alloc (cs:= #[.int .i64 0,.int .i64 0,.slice none 0 0,.int .i64 0,.string ⟨#[]⟩,.int .i64 0,.int .i64 0,.slice none 0 0,.int .i64 0,.slice none 0 0]) (T:=103);simp only[World.size_alloc] at st0;clear hK hx ha hn hG;go_enter func70,ntmps70;go_wp2_with fail;refine(HO.out _ st0.below).mono ?_;rintro e w1 ⟨rfl,hb1⟩;have st1:=((st0.to hb1).alloc (cs:= #[.iface bD bV,.int .i64 x.kind,.int .i64 x.lev]) (T:=135)).alloc (cs:= #[.int .u64 a,.int .u64 n]) (T:=45);have rl:=(st0.to hb1).rl;simp only[World.size_alloc] at st1;have hw1:w.heap.size<=w1.heap.size:=(st0.to hb1).below.size;clear st0 hb1 HO;go_wp2_with fail;refine(HW.out (w1.heap.size+1) _ st1.below (st1.blk _ (bK (i:=0) rfl))).mono ?_;rintro e w2 ⟨z,h',⟨hz,hzo⟩,rfl,hd,hf,hb2⟩;have st2:=st1.to hb2;clear st1 hb2 HW rl;have HZ:=aA hz;have HZO:=aA hzo;have HF:=hf.mono (show w1.heap.size+1<=_ by simp);obtain⟨cV,hcV⟩:∃cV,h'.a z=cV:=⟨_,rfl⟩;obtain⟨cD,hcD⟩:∃cD,z.bt=cD:=⟨_,rfl⟩;have HT:=aA (λW hW=>xF z HZO.out h' W hW);have HD:=aA hd;simp only[aR.w,aR.b] at HT⊢
 rw[hcV,hcD] at HT⊢;clear hd hf hcV hcD hz hzo;have rl:=st2.rl;go_wp2_with fail;have st8:=((St.sx st2 1 (A:=w1.heap.size) rfl (o:=0) (v:=.iface cD cV) hw1).sx 1 (A:=w1.heap.size) rfl (o:=1) (v:=.int .i64 z.kind) hw1).sx 1 (A:=w1.heap.size) rfl (o:=2) (v:=.int .i64 z.lev) hw1;have HD3:=HD.out.aW9 (st2.blk _ (bK (i:=1) rfl)) (dO _ _ _ _) (.iface cD cV) (.int .i64 z.kind) (.int .i64 z.lev);have HT2:=aA (HT.out _ HD3);clear HT HD HD3 HF st2 rl;refine HT2.out.mono ?_;rintro e w9 ⟨z',⟨⟨es',ec'⟩,⟨cs',cc'⟩,⟨gs',gc'⟩⟩,⟨hz',-⟩,rfl,hd,hf,hb4⟩;cases hz';have hz3:=aC (st8.blk (w.heap.size+1+1,#[.int .i64 0,.int .i64 0,.slice none 0 0,.int .i64 0,.string ⟨#[]⟩,.int .i64 0,.int .i64 0,.slice none 0 0,.int .i64 0,.slice none 0 0],103) (by simp));have st9:=st8.to hb4;have HF:=hf.mono (show w.heap.size+1+1+1<=_ from hz3);have HD:=aA hd;have rl:=st9.rl;clear st8 hb4 hd hf HT2 hz3;go_wp2_with fail;refine bodyPost_ret (v:=.tuple #[.agg #[.int .i64 z.kind,.int .i64 z.lev,.slice es' z.e.length ec',.int .i64 z.bits,.string z.aWx,.int .i64 z.rows,.int .i64 z.aWv,.slice cs' z.c.length cc',.int .i64 z.aWw,.slice gs' z.g.length gc'],.int .i64 0]) (by simp[results,results70,go_sem,rl]) rfl ⟨z,⟨⟨es',ec'⟩,⟨cs',cc'⟩,⟨gs',gc'⟩⟩,⟨HZ.out,HZO.out⟩,rfl,HD.out.up HF ?_,HF.mono (by omega),?_⟩
 .repeat(with_reducible refine aM.set ?_ (by omega) _)
  exact aM.refl _ _
 .repeat(with_reducible refine Below.setCell ?_ (by simp;try omega) _)
  exact st9.below
theorem jS (x y:Sk)(hkk:y.kind=x.kind)(hx:x.Ok)(hy:y.Ok)(h k:aR)(w:World)(hG:lP w)(hK:bW w x h)(hK':bW w y k):
  Calls prog 53 #[h.v x,k.v y] w (fD w (gW x y)):=by
 have HO:=aA (λW hW=>mO x hx h W (hK.aWu hW));have HP:=aA (λW hW=>mO y hy k W (hK'.aWu hW));have HW:=aA (λW hW=>aHe x y hkk hx hy h k W (hG.aWu hW) (hK.aWu hW) (hK'.aWu hW));simp only[aR.w,aR.b] at HO HP HW;generalize h.a x=bV at*;generalize x.bt=bD at*;generalize k.a y=aV at*;generalize y.bt=aD at*;obtain⟨⟨es,ec⟩,⟨cs,cc⟩,⟨gs,gc⟩⟩:=h;obtain⟨⟨es2,ec2⟩,⟨cs2,cc2⟩,⟨gs2,gc2⟩⟩:=k;change Calls prog 53 #[.agg #[.int .i64 x.kind,.int .i64 x.lev,.slice es x.e.length ec,.int .i64 x.bits,.string x.aWx,.int .i64 x.rows,.int .i64 x.aWv,.slice cs x.c.length cc,.int .i64 x.aWw,.slice gs x.g.length gc],.agg #[.int .i64 y.kind,.int .i64 y.lev,.slice es2 y.e.length ec2,.int .i64 y.bits,.string y.aWx,.int .i64 y.rows,.int .i64 y.aWv,.slice cs2 y.c.length cc2,.int .i64 y.aWw,.slice gs2 y.g.length gc2]] w _;have st0:=(((St.start w).alloc (cs:= #[.int .i64 x.kind,.int .i64 x.lev,.slice es x.e.length ec,.int .i64 x.bits,.string x.aWx,.int .i64 x.rows,.int .i64 x.aWv,.slice cs x.c.length cc,.int .i64 x.aWw,.slice gs x.g.length gc]) (T:=103)).alloc (cs:= #[.int .i64 y.kind,.int .i64 y.lev,.slice es2 y.e.length ec2,.int .i64 y.bits,.string y.aWx,.int .i64 y.rows,.int .i64 y.aWv,.slice cs2 y.c.length cc2,.int .i64 y.aWw,.slice gs2 y.g.length gc2]) (T:=103)).alloc (cs:= #[.int .i64 0,.int .i64 0,.slice none 0 0,.int .i64 0,.string ⟨#[]⟩,.int .i64 0,.int .i64 0,.slice none 0 0,.int .i64 0,.slice none 0 0]) (T:=103);simp only[World.size_alloc] at st0;clear hK hK' hx hy hkk hG;go_enter func53,ntmps53;go_wp2_with fail;refine(HO.out _ st0.below).mono ?_;rintro e w1 ⟨rfl,hb1⟩;have st1:=(st0.to hb1).alloc (cs:= #[.iface bD bV,.int .i64 x.kind,.int .i64 x.lev]) (T:=135);have rl:=(st0.to hb1).rl;clear st0 hb1 HO;go_wp2_with fail;refine(HP.out _ st1.below).mono ?_;rintro e w2 ⟨rfl,hb2⟩
 have st2:=(st1.to hb2).alloc (cs:= #[.iface aD aV,.int .i64 y.kind,.int .i64 y.lev]) (T:=135);have hw01:w.heap.size+1+1<w1.heap.size:=by omega
 clear rl;have rl:=(st1.to hb2).rl;clear st1 hb2 HP;go_wp2_with fail;refine(HW.out _ st2.below).mono ?_;rintro e w3 ⟨z,h',⟨hz,hzo⟩,rfl,hd,hf,hb3⟩;have st3:=st2.to hb3;have hw12:w1.heap.size<w2.heap.size:=by omega
 have hw1:w.heap.size<=w1.heap.size:=by omega
 clear st2 hb3 HW rl;have HZ:=aA hz;have HZO:=aA hzo;have HF:=hf.mono (show w2.heap.size<=_ by simp);obtain⟨cV,hcV⟩:∃cV,h'.a z=cV:=⟨_,rfl⟩;obtain⟨cD,hcD⟩:∃cD,z.bt=cD:=⟨_,rfl⟩;have HT:=aA (λW hW=>xF z HZO.out h' W hW);have HD:=aA hd;simp only[aR.w,aR.b] at HT⊢;rw[hcV,hcD] at HT⊢;clear hd hf hcV hcD hz hzo;have rl:=st3.rl;go_wp2_with fail;have st8:=((St.sx st3 1 (A:=w1.heap.size) rfl (o:=0) (v:=.iface cD cV) hw1).sx 1 (A:=w1.heap.size) rfl (o:=1) (v:=.int .i64 z.kind) hw1).sx 1 (A:=w1.heap.size) rfl (o:=2) (v:=.int .i64 z.lev) hw1;have HD3:=HD.out.aW9 (st3.blk _ (bK (i:=1) rfl)) (dO _ _ _ _) (.iface cD cV) (.int .i64 z.kind) (.int .i64 z.lev);have HT2:=aA (HT.out _ HD3);clear HT HD HD3 HF st3 rl;refine HT2.out.mono ?_;rintro e w9 ⟨z',⟨⟨es',ec'⟩,⟨cs',cc'⟩,⟨gs',gc'⟩⟩,⟨hz',-⟩,rfl,hd,hf,hb4⟩;cases hz';have hz3:=aC (st8.blk (w.heap.size+1+1,#[.int .i64 0,.int .i64 0,.slice none 0 0,.int .i64 0,.string ⟨#[]⟩,.int .i64 0,.int .i64 0,.slice none 0 0,.int .i64 0,.slice none 0 0],103) (by simp));have st9:=st8.to hb4;have HF:=hf.mono (show w.heap.size+1+1+1<=_ from hz3);have HD:=aA hd;have rl:=st9.rl;clear st8 hb4 hd hf HT2 hz3;go_wp2_with fail;refine bodyPost_ret (v:=.tuple #[.agg #[.int .i64 z.kind,.int .i64 z.lev,.slice es' z.e.length ec',.int .i64 z.bits,.string z.aWx,.int .i64 z.rows,.int .i64 z.aWv,.slice cs' z.c.length cc',.int .i64 z.aWw,.slice gs' z.g.length gc'],.int .i64 0]) (by simp[results,results53,go_sem,rl]) rfl ⟨z,⟨⟨es',ec'⟩,⟨cs',cc'⟩,⟨gs',gc'⟩⟩,⟨HZ.out,HZO.out⟩,rfl,HD.out.up HF ?_,HF.mono (by omega),?_⟩
 .repeat(with_reducible refine aM.set ?_ (by omega) _)
  exact aM.refl _ _
 .repeat(with_reducible refine Below.setCell ?_ (by simp;try omega) _)
  exact st9.below
theorem aBt (x:Sk)(hx:x.Ok)(hl:x.lev<x.bot)(h:aR)(w:World)(hK:bW w x h):
  Calls prog 118 #[h.v x] w (fD w (uS x)):=by
 have HO:=aA (λW hW=>mO x hx h W (hK.aWu hW));have HW:=aA (λW hW=>nO x hx hl h W (hK.aWu hW));simp only[aR.w,aR.b] at HO HW;generalize h.a x=bV at*;generalize x.bt=bD at*;obtain⟨⟨es,ec⟩,⟨cs,cc⟩,⟨gs,gc⟩⟩:=h;change Calls prog 118 #[.agg #[.int .i64 x.kind,.int .i64 x.lev,.slice es x.e.length ec,.int .i64 x.bits,.string x.aWx,.int .i64 x.rows,.int .i64 x.aWv,.slice cs x.c.length cc,.int .i64 x.aWw,.slice gs x.g.length gc]] w _;have st0:=((St.start w).alloc (cs:= #[.int .i64 x.kind,.int .i64 x.lev,.slice es x.e.length ec,.int .i64 x.bits,.string x.aWx,.int .i64 x.rows,.int .i64 x.aWv,.slice cs x.c.length cc,.int .i64 x.aWw,.slice gs x.g.length gc]) (T:=103)).alloc (cs:= #[.int .i64 0,.int .i64 0,.slice none 0 0,.int .i64 0,.string ⟨#[]⟩,.int .i64 0,.int .i64 0,.slice none 0 0,.int .i64 0,.slice none 0 0]) (T:=103);simp only[World.size_alloc] at st0;clear hK hx hl;go_enter func118,ntmps118;go_wp2_with fail;refine(HO.out _ st0.below).mono ?_;rintro e w1 ⟨rfl,hb1⟩;have st1:=((st0.to hb1).alloc (cs:= #[.iface bD bV,.int .i64 x.kind,.int .i64 x.lev]) (T:=135));have rl:=(st0.to hb1).rl;have hw1:w.heap.size<=w1.heap.size:=(st0.to hb1).below.size;clear st0 hb1 HO;go_wp2_with fail;refine(HW.out _ st1.below).mono ?_;rintro e w2 ⟨z,h',⟨hz,hzo⟩,rfl,hd,hf,hb2⟩;have st2:=st1.to hb2;clear st1 hb2 HW rl;have HZ:=aA hz;have HZO:=aA hzo;have HF:=hf.mono (show w1.heap.size+1<=_ by simp);obtain⟨cV,hcV⟩:∃cV,h'.a z=cV:=⟨_,rfl⟩;obtain⟨cD,hcD⟩:∃cD,z.bt=cD:=⟨_,rfl⟩;have HT:=aA (λW hW=>xF z HZO.out h' W hW);have HD:=aA hd;simp only[aR.w,aR.b] at HT⊢;rw[hcV,hcD] at HT⊢;clear hd hf hcV hcD hz hzo;have rl:=st2.rl;go_wp2_with fail;have st8:=((St.sx st2 0 (A:=w1.heap.size) rfl (o:=0) (v:=.iface cD cV) hw1).sx 0 (A:=w1.heap.size) rfl (o:=1) (v:=.int .i64 z.kind) hw1).sx 0 (A:=w1.heap.size) rfl (o:=2) (v:=.int .i64 z.lev) hw1
 have HD3:=HD.out.aW9 (st2.blk _ (bK (i:=0) rfl)) (dO _ _ _ _) (.iface cD cV) (.int .i64 z.kind) (.int .i64 z.lev);have HT2:=aA (HT.out _ HD3);clear HT HD HD3 HF st2 rl;refine HT2.out.mono ?_;rintro e w9 ⟨z',⟨⟨es',ec'⟩,⟨cs',cc'⟩,⟨gs',gc'⟩⟩,⟨hz',-⟩,rfl,hd,hf,hb4⟩;cases hz';have hz3:=aC (st8.blk (w.heap.size+1,#[.int .i64 0,.int .i64 0,.slice none 0 0,.int .i64 0,.string ⟨#[]⟩,.int .i64 0,.int .i64 0,.slice none 0 0,.int .i64 0,.slice none 0 0],103) (by simp));have st9:=st8.to hb4;have HF:=hf.mono (show w.heap.size+1+1<=_ from hz3);have HD:=aA hd;have rl:=st9.rl;clear st8 hb4 hd hf HT2 hz3;go_wp2_with fail;refine bodyPost_ret (v:=.tuple #[.agg #[.int .i64 z.kind,.int .i64 z.lev,.slice es' z.e.length ec',.int .i64 z.bits,.string z.aWx,.int .i64 z.rows,.int .i64 z.aWv,.slice cs' z.c.length cc',.int .i64 z.aWw,.slice gs' z.g.length gc'],.int .i64 0]) (by simp[results,results118,go_sem,rl]) rfl ⟨z,⟨⟨es',ec'⟩,⟨cs',cc'⟩,⟨gs',gc'⟩⟩,⟨HZ.out,HZO.out⟩,rfl,HD.out.up HF ?_,HF.mono (by omega),?_⟩
 .repeat(with_reducible refine aM.set ?_ (by omega) _)
  exact aM.refl _ _
 .repeat(with_reducible refine Below.setCell ?_ (by simp;try omega) _)
  exact st9.below
end
section
open Go.RowKit
theorem jR (s:ByteArray)(pos:Nat)(h:pos<s.size):1<=(Utf8.decode s pos).2:=by
 by_cases ha:(s[pos]'h).toNat<128
 .rw[decode_ascii s pos h ha];exact aH
 .exact(decode_high s pos h (by omega)).2
def jY (s:ByteArray):Nat->Nat->List Nat
 |0,_=>[]
 |f+1,pos=>if pos<s.size then(Utf8.decode s pos).1::jY s f (pos+(Utf8.decode s pos).2) else []
def bY (s:ByteArray)(pos:Nat):List Nat:=jY s (s.size-pos) pos
theorem aAe (s:ByteArray):∀(f g pos:Nat),s.size<=pos+f->s.size<=pos+g->jY s f pos=jY s g pos
 |0,0,_,_,_=>rfl
 |0,g+1,pos,hf,_=>by simp[jY,show¬pos<s.size by omega]
 |f+1,0,pos,_,hg=>by simp[jY,show¬pos<s.size by omega]
 |f+1,g+1,pos,hf,hg=>by
  by_cases h:pos<s.size
  .have:=jR s pos h;simp only[jY,h,if_true];rw[aAe s f g _ (by omega) (by omega)]
  .simp[jY,h]
theorem qT (s:ByteArray)(pos:Nat)(h:¬pos<s.size):bY s pos=[]:=by
 unfold bY;rw[show s.size-pos=0 by omega];rfl
theorem kT (s:ByteArray)(pos:Nat)(h:pos<s.size):bY s pos=(Utf8.decode s pos).1::bY s (pos+(Utf8.decode s pos).2):=by
 have:=jR s pos h;unfold bY;rw[show s.size-pos=(s.size-pos-1)+1 by omega];simp only[jY,h,if_true];rw[aAe s (s.size-pos-1) (s.size-(pos+(Utf8.decode s pos).2)) _ (by omega) (by omega)]
theorem qQ (s:ByteArray)(pos:Nat)(h:pos<s.size)(R:List Nat)(hr:∀c∈bY s pos,c∈R):(Utf8.decode s pos).1∈R/\∀c∈bY s (pos+(Utf8.decode s pos).2),c∈R:=by
 rw[kT s pos h] at hr;exact⟨hr _ (by simp),λc hc=>hr c (by simp[hc])⟩
def aA7 (c:Nat):List UInt8:=(if c=44\/c=92 then [92] else [])++Lib.encodeRune c
def qF (s:ByteArray):List UInt8:=(bY s 0).flatMap aA7
theorem aOi (c:Nat):(aA7 c).length<=5:=by
 have h:=(Lib.encodeRuneZ_length (c:Int)).2;have h2:(Lib.encodeRune (c:Int)).length=(Lib.encodeRuneZ (c:Int)).length:=by unfold Lib.encodeRune;rw[List.length_map]
 unfold aA7;rw[List.length_append,h2];split<;>simp<;>omega
theorem vU (s:ByteArray):∀f pos,(jY s f pos).length<=f
 |0,_=>aH
 |f+1,pos=>by
  unfold jY;split
  .simpa using vU s f _
  .simp
theorem aDw (s:ByteArray):(qF s).length<=5*s.size:=by
 have key:∀l:List Nat,(l.flatMap aA7).length<=5*l.length:=by
  intro l
  induction l with
  |nil=>simp
  |cons x l ih=>
   have:=aOi x;rw[List.flatMap_cons,List.length_append,List.length_cons];omega
 have h1:=key (bY s 0);have h2:=vU s (s.size-0) 0;unfold qF;have:(bY s 0).length<=s.size:=h2;omega
theorem aQm :bY ⟨#[97]⟩ 0=[97]:=by decide+kernel
theorem aDl :bY ⟨#[120]⟩ 0=[120]:=by decide+kernel
theorem zX :bY ⟨#[97,61,120]⟩ 0=[97,61,120]:=by decide+kernel
theorem aR2 :bY ⟨#[]⟩ 0=[]:=by decide+kernel
theorem aUy :qF ⟨#[120]⟩=[120]:=by decide+kernel
end
end Go.Proofs.YtmgdbfmlnmahpaaGreatDoor
