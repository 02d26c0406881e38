/- Part of TopAudits. -/
import Derived.Test.YtmgdbfmlnmahpaaGreatDoorG16
import Derived.Test.YtmgdbfmlnmahpaaGreatDoorG13
namespace Go.Proofs.YtmgdbfmlnmahpaaGreatDoor
set_option linter.unusedSimpArgs false
set_option linter.unusedVariables false
set_option maxRecDepth 100000
set_option maxHeartbeats 4000000
open Go.Proofs.Tryz
open Go.RowKit Go.Shelf
def aVa (b:Nat)(w:World)(R:ByteArray)(b1 b3:Nat)(pre:List (Nat×Nat))(W:World):Prop:=
 ∃(s:Bool) (z:Nat),pre.length<=z/\z<=pre.length*4294967296/\St w [(b3,#[.string R],9),(b1+1,#[.int .u64 z],22),(b1,#[.bool s],4),(w.heap.size,#[.int .i64 b,.string R],96)] (λ_=>True) W
theorem aUx (r:Nat)(hr:r<=64):∃q:Nat,(2:Int)^(32-min (r:Int) 32).toNat=(q:Int)/\1<=q/\q<=4294967296:=by
 obtain⟨d,hd,hd2⟩:∃d:Nat,(32-min (r:Int) 32).toNat=d/\d<=32:=⟨_,rfl,by omega⟩;rw[hd];refine⟨2^d,by push_cast;rfl,Nat.one_le_two_pow,?_⟩;exact Nat.pow_le_pow_right (by decide) hd2
theorem aLd (z:Int):∃v:Nat,IntKind.u64.wrap z=(v:Int)/\v<=aJ:=by
 have h:=aDx z;obtain⟨v,hv⟩:=Int.eq_ofNat_of_zero_le h.1;refine⟨v,hv,?_⟩;show v<=18446744073709551615;have:=h.2;rw[hv] at this;omega
attribute [local go_sem] Oper.semAt_some
theorem aBv {b n t:Nat}(hIs:jA b n t)(R:ByteArray)(hR:pM n t R)(w:World):
  Calls prog 293 #[.agg #[.int .i64 b,.string R]] w λe w'=>(∃z:Nat,z<=aJ/\e=.returned (.int .u64 (z:Nat)))/\Below w.heap.size w w':=by
 have HR:=aA (λW=>gP hIs R hR W);have h8:=hIs.bounds;have HRS:=aA (λbl Bw hBw W hW=>tJ R hR (by omega) bl Bw hBw 4 (by omega) W hW);have HLN:Hid ((rkL R).length=n):=by show _=_;rw[aJh];exact hR.1
 have hsz:R.size=n:=hR.1;have ht8:t<=64:=by omega
 have hn8:8<=n:=by omega
 have hn256:n<=256:=by omega
 clear hIs hR h8;have st0:=(St.start w).alloc (cs:= #[.int .i64 b,.string R]) (T:=96);refine(callsIn_wide (n:=5)).1 ?_;refine callsIn_of_wp_marks func293 rfl trivial ?_ rfl;simp only[ntmps293,List.size_toArray,List.length_cons,List.length_nil,Nat.reduceAdd,Nat.reduceSub,Array.replicate_succ,Array.replicate_zero,List.push_toArray,List.append_toArray,List.nil_append,List.cons_append];refine wpIn_wide.2 ?_;go_wp2_with fail;refine(HR.out _).mono ?_;rintro e w1 ⟨rfl,hb1⟩;have st1:=st0.to hb1;have rl:=st1.rl;clear st0 hb1 HR;have st2:=(st1.alloc (cs:= #[.bool false]) (T:=4)).alloc (cs:= #[.int .u64 0]) (T:=22);simp only[World.size_alloc] at st2;go_wp2_with fail;have hz2:((w1.alloc (.cells #[.bool false] 4)).alloc (.cells #[.int .u64 0] 22)).heap.size=w1.heap.size+2:=by simp
 have HZ2:=aA hz2;have hw1:=st1.below.size;clear hz2 st1;generalize(w1.alloc (.cells #[.bool false] 4)).alloc (.cells #[.int .u64 0] 22)=w2 at*;refine(uF R w2).mono ?_;rintro e w3 ⟨rfl,rfl⟩;go_wp2_with fail;have st3:=st2.alloc (cs:= #[.string R]) (T:=9);have hz3:(w2.alloc (.cells #[.string R] 9)).heap.size=w2.heap.size+1:=by simp
 have hw23:w1.heap.size+1<w2.heap.size:=by have:=HZ2.out;omega
 have HZ3:=aA hz3;clear hz3 st2 rl;generalize w2.alloc (.cells #[.string R] 9)=w3 at*;have hlie:eR [(w2.heap.size,#[.string R],9)] w3:=λx hx=>st3.blk x (by simp at hx;rcases hx with rfl;simp);have stc:aVa b w R w1.heap.size w2.heap.size [] w3:=⟨false,0,cJ _,cJ _,st3⟩;have hw3:w.heap.size<=w3.heap.size:=st3.below.size;have hw33:w2.heap.size<w3.heap.size:=by have:=HZ3.out;omega
 refine(wpIn_wide (n:=5)).1 (bU (n:=5) (b:=none) (λ_ e=>by cases e) rfl (by omega) (gf:=234) (lb:= #[pv w2.heap.size 0]) rfl trivial (enters_of func234 (by kernel_rfl) rfl)
  (λW hb=>HRS.out [(w2.heap.size,#[.string R],9)] w2.heap.size (by simp) W (hlie.below hb)) (λh k=>λx hx=>(k x hx).trans (h x hx)) ?kb (λ_=>rfl)
  (aVa b w R w1.heap.size w2.heap.size) (λc pre W=>False)
  (λ_ _ _ _ ⟨s,z,h1,h2,h⟩ hg hr=>⟨s,z,h1,h2,St.own h hg hr hw3⟩) (λc _ _ _ _ h _ _=>h)
  (λ_ _ _ ⟨s,z,h1,h2,h⟩ hg=>⟨s,z,h1,h2,St.grown h hg (λk e=>by cases e)⟩) (λc _ _ _ h _=>h) stc
  (λx _=>{tmps:= #[.agg #[.int .i64 b,.string R],pv w.heap.size 0,.int .u64 0,pv w1.heap.size 0,pv (w1.heap.size+1) 0,undef,.int .u8 (x.2:Int),undef,.agg #[.int .i64 b,.string R],.bool true,.bool false,pv w.heap.size 1,.string R,.func (.func 234) #[] #[pv w2.heap.size 0],.int .i64 x.1,.int .u8 (x.2:Int),undef,undef,undef,undef,undef,undef,undef,undef,undef,undef,undef,undef,undef,undef,undef,undef,undef,undef,undef,undef,undef,undef,undef,undef,undef],defers:=[]})
  (λx _ _=>x.2<=t) (λ_ _ _ _ _ _ h _ _=>h) ?assign ?body ?done ?stop)
 case kb=>
  intro W l o' hl' hlt x hx;have:=aC (hlie x hx);exact World.putObj_heap_other (by omega)
 case assign=>
  intro l pre x W K hI hP hK;have HK:=aA (hK 0 W (KeepsOthers.refl _) (λ_ _=>rfl) hI hP.2);clear hK;gi_wp2_with fail;exact HK.out
 case body=>
  rintro l pre ⟨x1,x2⟩ c W ⟨s,z,hz1,hz2,stI⟩ hP hN;simp only at hP;have hpre:pre.length<n:=by rw[<-HLN.out];exact hN
  have rl:=stI.rl;obtain⟨q,hq,hq1,hq2⟩:=aUx x2 (by omega);have hx64:(x2:Int)<=64:=by omega
  clear stc st3 hlie hN;cases s
  .gi_wp2_with fail;have st5:=(St.aW5 stI 2 (A:=w1.heap.size) rfl (o:=0) (v:=.bool ((x2:Int) !=0)) hw1).aW5 1 (A:=w1.heap.size+1) rfl (o:=0) (v:=.int .u64 ((z+q:Nat):Int)) (by omega);simp only[jP,List.modify_succ_cons,List.modify_zero_cons,List.setIfInBounds_toArray,List.set_cons_zero,Int.natCast_add] at st5;refine⟨(KeepsOthers.setCell _ _ _).trans (KeepsOthers.setCell _ _ _),λy hy=> ?_,((x2:Int) !=0),z+q,by simp;omega,by simp;omega,st5⟩;simp at hy;subst hy;exact(Below.heap_setCell _ ⟨w1.heap.size+1,0,none⟩ _ w2.heap.size (by show w2.heap.size≠w1.heap.size+1;omega)).trans (Below.heap_setCell _ ⟨w1.heap.size,0,none⟩ _ w2.heap.size (by show w2.heap.size≠w1.heap.size;omega))
  .gi_wp2_with fail;have st5:=(St.aW5 stI 2 (A:=w1.heap.size) rfl (o:=0) (v:=.bool true) hw1).aW5 1 (A:=w1.heap.size+1) rfl (o:=0) (v:=.int .u64 ((z+q:Nat):Int)) (by omega);simp only[jP,List.modify_succ_cons,List.modify_zero_cons,List.setIfInBounds_toArray,List.set_cons_zero,Int.natCast_add] at st5;refine⟨(KeepsOthers.setCell _ _ _).trans (KeepsOthers.setCell _ _ _),λy hy=> ?_,true,z+q,by simp;omega,by simp;omega,st5⟩;simp at hy;subst hy;exact(Below.heap_setCell _ ⟨w1.heap.size+1,0,none⟩ _ w2.heap.size (by show w2.heap.size≠w1.heap.size+1;omega)).trans (Below.heap_setCell _ ⟨w1.heap.size,0,none⟩ _ w2.heap.size (by show w2.heap.size≠w1.heap.size;omega))
 case done=>
  rintro D xs W hD rfl ⟨s,z,hz1,hz2,st9⟩ hK;have rl:=st9.rl;rw[HLN.out] at hz1 hz2;cases s
  .go_wp2_with fail;refine⟨by simp,.inl ⟨_,_,rfl,run_takeDeferred hK,?_⟩⟩;exact⟨_,by simp[results,results293,go_sem],⟨0,cJ _,rfl⟩,(st9.own (base:=w.heap.size) (grownBy_putObj' W D _) (λr e=>by cases e;exact⟨by omega,_,hK,rfl⟩) aH).below⟩
  .go_wp2_with fail;obtain⟨v9,hv9,hv8⟩:=aLd ((IntKind.u64.wrap (IntKind.u64.wrap (7*(n:Int)*(n:Int))*4294967296)).tdiv (10*(z:Int)));rw[hv9];refine⟨by simp,.inl ⟨_,_,rfl,run_takeDeferred hK,?_⟩⟩;exact⟨_,by simp[results,results293,go_sem],⟨v9,hv8,rfl⟩,(st9.own (base:=w.heap.size) (grownBy_putObj' W D _) (λr e=>by cases e;exact⟨by omega,_,hK,rfl⟩) aH).below⟩
 case stop=>
  rintro D c pre W hD hp h hK;exact h.elim
end Go.Proofs.YtmgdbfmlnmahpaaGreatDoor
