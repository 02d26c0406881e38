/- Part of TopAudits. -/
import Derived.Test.YtmgdbfmlnmahpaaGreatDoorG10
namespace Go.Proofs.YtmgdbfmlnmahpaaGreatDoor
set_option linter.unusedSimpArgs false
set_option linter.unusedVariables false
set_option maxRecDepth 100000
set_option maxHeartbeats 4000000
open Go.Proofs.Tryz
open Go.RowKit Go.Shelf
def aNe (B:Nat)(cs:Array Value)(h:Nat):Value->World->Prop:=λv W=>∃b,v=.func (.func 314) #[] #[pv b 0,pv (b+1) 0]/\B<=b/\W.heap[b]? =some (.cells cs 186 (0,0))/\W.heap[b+1]? =some (.cells #[.int .u64 h] 22 (0,0))
theorem aFz (B:Nat)(cs:Array Value)(h:Nat):bO (aNe B cs h):=λ_ _ _ ⟨b,h1,h2,h3,h4⟩ hb=>⟨b,h1,h2,(hb.block b (aC h3)).trans h3,(hb.block (b+1) (aC h4)).trans h4⟩
def aNn (B:Nat)(cs:Array Value):Value->World->Prop:=λv W=>∃b,v=.func (.func 315) #[] #[pv b 0]/\B<=b/\W.heap[b]? =some (.cells cs 186 (0,0))
theorem aAc (B:Nat)(cs:Array Value):bO (aNn B cs):=λ_ _ _ ⟨b,h1,h2,h3⟩ hb=>⟨b,h1,h2,(hb.block b (aC h3)).trans h3⟩
def kO (cw cn:Nat)(w:World)(e:Ending)(w':World):Prop:=∃L:List Nat,L.length=cn/\dK L/\aI1 cw cn w L e w'
theorem aKv {cw cn:Nat}(hIs:iF cw cn)(L:List Nat)(hl:L.length=cn)(hs:dK L)(s:Option Addr)(cap h n:Nat)(hh:h<=aJ)(hn:n<=aJ)(w:World)(hL:dH w s L):
  Calls prog 302 #[nM cw s cn cap,.int .u64 h,.int .u64 n] w (kO cw cn w):=by
 have st0:=(((St.start w).alloc (cs:= #[.int .i64 2,.int .i64 cw,.slice s cn cap]) (T:=98)).alloc (cs:= #[.int .u64 n]) (T:=22)).alloc (cs:= #[.int .i64 0,.int .i64 0,.slice none 0 0]) (T:=98);simp only[World.size_alloc] at st0;go_enter func302,ntmps302;go_wp2_with fail;refine(uI hIs L hl s cap _ (hL.aWu aH st0.below)).mono ?_;rintro e w5 ⟨A,rfl,hA,hN,hb2⟩;have hwA:w.heap.size+2<A:=by simp at hA;omega
 have st4:=(st0.aW8 (st0.to hb2) hA hN);have st5:=st4.alloc (cs:= #[.int .i64 2,.int .i64 cw,.slice (some ⟨A,0,none⟩) cn cn]) (T:=186);clear st0 hb2 hN hA st4;go_wp2_with fail;refine rS st5 5 [.val (.agg #[.int .i64 2,.int .i64 cw,.slice (some ⟨A,0,none⟩) cn cn]),.val (.agg #[.int .i64 2,.int .i64 cw,.slice (some ⟨A,0,none⟩) cn cn]),.val (.int .u64 h),.fct (aNe (w5.heap.size+1) #[.int .i64 2,.int .i64 cw,.slice (some ⟨A,0,none⟩) cn cn] h) (aFz _ _ _),.val (.func (.func 309) #[] #[pv (w.heap.size+1) 0])] ?spec ?endd
 case spec=>
  refine⟨?_,?_,?_,?_,?_,trivial⟩
  all_goals(intro ρ W kc kf hW sW rl hu hd;simp only[aI,World.size_alloc] at rl)
  have u8:ρ (.tmp 8)=pv w5.heap.size 0:=cR hu 8;rotate_left;have u8:ρ (.tmp 8)=pv w5.heap.size 0:=cR hu 8;rotate_left;have u1:ρ (.tmp 1)=.int .u64 h:=cR hu 1;rotate_left
  .have u21:ρ (.tmp 21)=_:=aK hd 1 21;have u22:ρ (.tmp 22)=_:=aK hd 2 22;refine aF rfl ?_;go_simp;refine⟨aW,(aFg (some ⟨A,0,none⟩) cn cn h W).mono ?_⟩;rintro e w' ⟨rfl,rfl⟩;have hb9:=((Below.refl W.heap.size W).alloc aH (.cells #[.int .i64 2,.int .i64 cw,.slice (some ⟨A,0,none⟩) cn cn] 186)).alloc (by simp) (.cells #[.int .u64 h] 22);exact⟨_,rfl,hb9,W.heap.size,rfl,(by have:=hW.size;simpa using this),(Below.heap_alloc _ _ _ (by simp)).trans (kH _ _),by have:=kH (W.alloc (.cells #[.int .i64 2,.int .i64 cw,.slice (some ⟨A,0,none⟩) cn cn] 186)) (.cells #[.int .u64 h] 22);rwa[World.size_alloc] at this⟩
  have u5:ρ (.tmp 5)=pv (w.heap.size+1) 0:=cR hu 5;rotate_left
  all_goals(refine aF rfl ?_;go_simp;exact aG rfl)
 case endd=>
  rintro v W hW sW rl ⟨h3,-⟩;simp only[aI,World.size_alloc] at rl;obtain⟨b,v3,hbB,hb1,hb2⟩:=h3;rw[v3];clear v3;have hlt:∀x∈[(w5.heap.size,#[.int .i64 2,.int .i64 cw,.slice (some ⟨A,0,none⟩) cn cn],186),(A,(L.flatMap cM).toArray,22),(w.heap.size+2,#[.int .i64 0,.int .i64 0,.slice none 0 0],98),(w.heap.size+1,#[.int .u64 n],22),(w.heap.size,#[.int .i64 2,.int .i64 cw,.slice s cn cap],98)],x.1<w5.heap.size+1:=λx hx=>by
   have:=aC (st5.blk x hx)
   simpa using this
  have st9:=((sW.cons hb2 (λx hx=>by have:=hlt x hx;omega)).cons hb1 (λx hx=>by
   rcases List.mem_cons.1 hx with rfl|hx
   .simp
   .have:=hlt x hx;omega))
  have st10:=st9.perm (((((List.Perm.refl _).cons _).cons _).trans (((List.Perm.swap _ _ _).cons _).cons _)).trans ((((List.Perm.swap _ _ _).cons _)).trans (List.Perm.swap _ _ _)));have HCH:=aA (qN (cw:=cw) A L hl hs st10 (by omega) 314 #[pv b 0,pv (b+1) 0] (gX cw h) (enters_of func314 (by kernel_rfl) rfl)
   (λW' hW'=>aDd hIs _ b (b+1) (.slice (some ⟨A,0,none⟩) cn cn) h hh (by simp) (by simp) 4 (by omega) W' (λx hx=>hW'.blk x (List.mem_cons_of_mem _ hx)))
   309 #[pv (w.heap.size+1) 0] (λ_ old=>jF old n) (λ_ m _=>lB _ _) (enters_of func309 (by kernel_rfl) rfl)
   (λW' _ hbl p old hp ho=>aOl p old n (w.heap.size+1) ho hn W' (aE (hbl (w.heap.size+1,#[.int .u64 n],22) (by simp)) 0)))
  have HE:=aA (show(uE (λ_ old=>jF old n) L (gX cw h)).length=cn/\dK (uE (λ_ old=>jF old n) L (gX cw h)) from⟨by rw[nA];exact hl,pK _ (λ_ m _=>lB _ _) _ _ hs⟩);clear st9 st10 sW st5 hlt hb1 hb2 hbB hW rl;generalize uE (λ_ old=>jF old n) L (gX cw h)=L' at*;go_wp2_with fail;refine HCH.out.mono ?_;rintro e w9 ⟨rfl,st9⟩;have rl:=st9.rl;clear HCH;go_wp2_with fail;have st11:=(((st9.sx 4 (A:=w.heap.size+1+1) rfl (o:=0) (v:=.int .i64 2) (by omega)).sx 4 (A:=w.heap.size+1+1) rfl (o:=1) (v:=.int .i64 cw) (by omega)).sx 4 (A:=w.heap.size+1+1) rfl (o:=2) (v:=.slice (some ⟨A,0,none⟩) cn cn) (by omega));exact bodyPost_ret (v:=.tuple #[.agg #[.int .i64 2,.int .i64 cw,.slice (some ⟨A,0,none⟩) cn cn],.int .i64 0]) (by simp[results,results302,go_sem,rl]) rfl ⟨L',HE.out.1,HE.out.2,A,rfl,by omega,st11.blk _ (bK (i:=0) rfl),st11.below⟩
theorem aDr {cw cn:Nat}(hIs:iF cw cn)(L M:List Nat)(hl:L.length=cn)(hs:dK L)(hm:M.length=cn)(hsm:dK M)(s t:Option Addr)(cap d:Nat)(hd:M.length<=d)(w:World)(hL:dH w s L)(hM:dH w t M):
  Calls prog 305 #[nM cw s cn cap,nM cw t cn d] w (kO cw cn w):=by
 have st0:=(((St.start w).alloc (cs:= #[.int .i64 2,.int .i64 cw,.slice s cn cap]) (T:=98)).alloc (cs:= #[.int .i64 2,.int .i64 cw,.slice t cn d]) (T:=98)).alloc (cs:= #[.int .i64 0,.int .i64 0,.slice none 0 0]) (T:=98);simp only[World.size_alloc] at st0;go_enter func305,ntmps305;go_wp2_with fail;refine(uI hIs L hl s cap _ (hL.aWu aH st0.below)).mono ?_;rintro e w5 ⟨A,rfl,hA,hN,hb2⟩;have hwA:w.heap.size+2<A:=by simp at hA;omega
 have st4:=(st0.aW8 (st0.to hb2) hA hN);have st5:=st4.alloc (cs:= #[.int .i64 2,.int .i64 cw,.slice (some ⟨A,0,none⟩) cn cn]) (T:=186);have rl:=st5.rs;clear st0 hb2 hN hA st4;go_wp2_with fail;refine(iX hIs t d _).mono ?_;rintro e w6 ⟨rfl,hb6⟩;have st6:=st5.to hb6;have rl:=st6.rl;have hz56:w5.heap.size<w6.heap.size:=by have:=hb6.size;simp at this;omega
 clear st5 hb6;go_wp2_with fail;clear rl;refine rS st6 4 [.val (.agg #[.int .i64 2,.int .i64 cw,.slice (some ⟨A,0,none⟩) cn cn]),.val (.agg #[.int .i64 2,.int .i64 cw,.slice (some ⟨A,0,none⟩) cn cn]),.fct (aNn w6.heap.size #[.int .i64 2,.int .i64 cw,.slice (some ⟨A,0,none⟩) cn cn]) (aAc _ _),.val (.func (.func 313) #[] #[pv (w.heap.size+1) 0])] ?spec ?endd
 case spec=>
  refine⟨?_,?_,?_,?_,trivial⟩
  all_goals(intro ρ W kc kf hW sW rl hu hd;simp only[aI] at rl)
  have u6:ρ (.tmp 6)=pv w5.heap.size 0:=cR hu 6;rotate_left;have u6:ρ (.tmp 6)=pv w5.heap.size 0:=cR hu 6;rotate_left
  .have u42:ρ (.tmp 42)=_:=aK hd 1 42;refine aF rfl ?_;go_simp;refine⟨aW,(aDy (some ⟨A,0,none⟩) cn cn W).mono ?_⟩;rintro e w' ⟨rfl,rfl⟩;exact⟨_,rfl,(Below.refl W.heap.size W).alloc aH _,W.heap.size,rfl,hW.size,kH _ _⟩
  have u3:ρ (.tmp 3)=pv (w.heap.size+1) 0:=cR hu 3;rotate_left
  all_goals(refine aF rfl ?_;go_simp;exact aG rfl)
 case endd=>
  rintro v W hW sW rl ⟨h2,-⟩;simp only[aI] at rl;obtain⟨b,v2,hbB,hb1⟩:=h2;rw[v2];clear v2;have hlt:∀x∈[(w5.heap.size,#[.int .i64 2,.int .i64 cw,.slice (some ⟨A,0,none⟩) cn cn],186),(A,(L.flatMap cM).toArray,22),(w.heap.size+2,#[.int .i64 0,.int .i64 0,.slice none 0 0],98),(w.heap.size+1,#[.int .i64 2,.int .i64 cw,.slice t cn d],98),(w.heap.size,#[.int .i64 2,.int .i64 cw,.slice s cn cap],98)],x.1<w6.heap.size:=λx hx=>aC (st6.blk x hx);have st9:=sW.cons hb1 (λx hx=>by have:=hlt x hx;omega);have st10:=st9.perm (((List.Perm.swap _ _ _).cons _).trans (List.Perm.swap _ _ _));have HCH:=aA (qN (cw:=cw) A L hl hs st10 (by omega) 315 #[pv b 0] (List.range cn) (enters_of func315 (by kernel_rfl) rfl)
   (λW' hW'=>aJq (cw:=cw) hIs.n _ b (some ⟨A,0,none⟩) cn (by simp) 4 (by omega) W' (λx hx=>hW'.blk x (List.mem_cons_of_mem _ hx)))
   313 #[pv (w.heap.size+1) 0] (λp old=>jF old (M.getD p 0)) (λ_ m _=>lB _ _) (enters_of func313 (by kernel_rfl) rfl)
   (λW' hb' hbl p old hp ho=>aGk hIs p old (w.heap.size+1) M t d hm hd hp ho hsm W' (hM.aWu aH hb') (by rw[hm];exact hbl (w.heap.size+1,#[.int .i64 2,.int .i64 cw,.slice t cn d],98) (by simp))))
  have HE:=aA (show(uE (λp old=>jF old (M.getD p 0)) L (List.range cn)).length=cn/\dK (uE (λp old=>jF old (M.getD p 0)) L (List.range cn)) from⟨by rw[nA];exact hl,pK _ (λ_ m _=>lB _ _) _ _ hs⟩);clear st9 st10 sW st6 hlt hb1 hbB hW rl;generalize uE (λp old=>jF old (M.getD p 0)) L (List.range cn)=L' at*;go_wp2_with fail;refine HCH.out.mono ?_;rintro e w9 ⟨rfl,st9⟩;have rl:=st9.rl;clear HCH;go_wp2_with fail;have st11:=(((st9.sx 3 (A:=w.heap.size+1+1) rfl (o:=0) (v:=.int .i64 2) (by omega)).sx 3 (A:=w.heap.size+1+1) rfl (o:=1) (v:=.int .i64 cw) (by omega)).sx 3 (A:=w.heap.size+1+1) rfl (o:=2) (v:=.slice (some ⟨A,0,none⟩) cn cn) (by omega));exact bodyPost_ret (v:=.tuple #[.agg #[.int .i64 2,.int .i64 cw,.slice (some ⟨A,0,none⟩) cn cn],.int .i64 0]) (by simp[results,results305,go_sem,rl]) rfl ⟨L',HE.out.1,HE.out.2,A,rfl,by omega,st11.blk _ (bK (i:=0) rfl),st11.below⟩
section
def dX (L:List Nat)(ps:List Nat):Nat:=ps.foldl (λm p=>min m (L.getD p 0)) aJ
theorem aE3 (L ps:List Nat)(p:Nat):dX L (ps++[p])=min (dX L ps) (L.getD p 0):=by simp[dX]
theorem aFs (L ps qs:List Nat)(h:ps<+:qs)(h0:dX L ps=0):dX L qs=0:=by
 obtain⟨r,rfl⟩:=h;unfold dX at h0⊢;rw[List.foldl_append,h0];clear h0
 induction r with
 |nil=>rfl
 |cons x r ih=>simpa using ih
theorem dH.cellAt {w:World}{g o:Nat}{L:List Nat}{x y:Nat}(h:dH w (some ⟨g,o,none⟩) L)(hy:L[x]? =some y):w.cell? ⟨g,o+x,none⟩=some (.int .u64 y):=by
 obtain⟨g',o',e,_,hc⟩:=h.at hy;cases e;exact hc
def aOa (cw cn:Nat)(w:World)(s:Option Addr)(cap b1 b:Nat)(h:Nat)(L:List Nat)(pre:List Nat)(W:World):Prop:=
 St w [(b+1,#[.int .u64 h],22),(b,#[.int .i64 2,.int .i64 cw,.slice s cn cap],186),(b1,#[.int .u64 (dX L pre:Nat)],22),(w.heap.size,#[.int .i64 2,.int .i64 cw,.slice s cn cap],98)] (λ_=>True) W
def aWc (cw cn:Nat)(w:World)(s:Option Addr)(cap b1 b:Nat)(h:Nat)(L:List Nat)(c:Code)(pre:List Nat)(W:World):Prop:=c=.exit 0/\dX L pre=0/\aOa cw cn w s cap b1 b h L pre W
attribute [local go_sem] Oper.semAt_some
theorem aDs {cw cn:Nat}(hIs:iF cw cn)(L:List Nat)(hl:L.length=cn)(hs:dK L)(s:Option Addr)(cap h:Nat)(hcap:cn<=cap)(hh:h<=aJ)(w:World)(hL:dH w s L):
  Calls prog 303 #[nM cw s cn cap,.int .u64 h] w λe w'=>e=.returned (.int .u64 (dX L (gX cw h):Nat))/\Below w.heap.size w w':=by
 have HL:=aA hl;clear hl;have st0:=(St.start w).alloc (cs:= #[.int .i64 2,.int .i64 cw,.slice s cn cap]) (T:=98);refine(callsIn_wide (n:=5)).1 ?_;refine callsIn_of_wp_marks func303 rfl trivial ?_ rfl;simp only[ntmps303,List.size_toArray,List.length_cons,List.length_nil,Nat.reduceAdd,Nat.reduceSub,Array.replicate_succ,Array.replicate_zero,List.push_toArray,List.append_toArray,List.nil_append,List.cons_append];refine wpIn_wide.2 ?_;go_wp2_with fail;refine wp_scope_straight ?_;go_wp2_with fail;refine(iX hIs s cap _).mono ?_;rintro e w1 ⟨rfl,hb1⟩;have st1:=st0.to hb1;have rl:=st1.rl;clear st0 hb1;go_wp2_with fail;refine wp_label ?_;have st2:=st1.alloc (cs:= #[.int .u64 (aJ:Nat)]) (T:=22);change St w _ _ (w1.alloc (.cells #[.int .u64 18446744073709551615] 22)) at st2;have rl:=st2.rl;have hz2:(w1.alloc (.cells #[.int .u64 18446744073709551615] 22)).heap.size=w1.heap.size+1:=by simp
 have hw1:=st1.below.size;clear st1;generalize w1.alloc (.cells #[.int .u64 18446744073709551615] 22)=w2 at*;have hc2:∀o,w2.cell? ⟨w.heap.size,o,none⟩=(#[.int .i64 2,.int .i64 cw,.slice s cn cap]:Array Value)[o]? :=rl.2.2.2.1;clear rl;go_wp2_with fail;refine(aFg s cn cap h w2).mono ?_;rintro e w3 ⟨rfl,rfl⟩;clear hc2;have HZ2:=aA hz2;clear hz2;go_wp2_with fail;have st3:=(st2.alloc (cs:= #[.int .i64 2,.int .i64 cw,.slice s cn cap]) (T:=186)).alloc (cs:= #[.int .u64 h]) (T:=22);simp only[World.size_alloc] at st3;have hz3:((w2.alloc (.cells #[.int .i64 2,.int .i64 cw,.slice s cn cap] 186)).alloc (.cells #[.int .u64 h] 22)).heap.size=w2.heap.size+2:=by simp
 clear st2;generalize(w2.alloc (.cells #[.int .i64 2,.int .i64 cw,.slice s cn cap] 186)).alloc (.cells #[.int .u64 h] 22)=w3 at*;have hlie:eR [(w2.heap.size+1,#[.int .u64 h],22),(w2.heap.size,#[.int .i64 2,.int .i64 cw,.slice s cn cap],186)] w3:=λx hx=>st3.blk x (by simp at hx;rcases hx with rfl|rfl<;>simp);have hz2:=HZ2.out;have hz12:w1.heap.size<w2.heap.size:=by omega
 clear hz2;have stc:aOa cw cn w s cap w1.heap.size w2.heap.size h L [] w3:=st3;refine(wpIn_wide (n:=5)).1 (bU (n:=5) (b:=none) (λ_ e=>by cases e) rfl (by omega) (gf:=314) (lb:= #[pv w2.heap.size 0,pv (w2.heap.size+1) 0]) rfl trivial (enters_of func314 (by kernel_rfl) rfl)
  (λW hb=>aDd hIs _ w2.heap.size (w2.heap.size+1) (.slice s cn cap) h hh (by simp) (by simp) 4 (by omega) W (hlie.below hb)) (λh k=>λx hx=>(k x hx).trans (h x hx)) ?kb (λ_=>rfl)
  (aOa cw cn w s cap w1.heap.size w2.heap.size h L) (aWc cw cn w s cap w1.heap.size w2.heap.size h L)
  (λ_ _ _ _ h hg hr=>St.own h hg hr (by rw[hz3];omega)) (λc _ _ _ _ h hg hr=>⟨h.1,h.2.1,St.own h.2.2 hg hr (by rw[hz3];omega)⟩)
  (λ_ _ _ h hg=>St.grown h hg (λk e=>by cases e)) (λc _ _ _ h hg=>⟨h.1,h.2.1,St.grown h.2.2 hg (λk e=>by cases e)⟩) stc
  (λx _=>{tmps:= #[nM cw s cn cap,.int .u64 h,pv w.heap.size 0,undef,.int .u64 0,pv w1.heap.size 0,.int .i64 x,.agg #[.int .i64 2,.int .i64 cw,.slice s cn cap],.bool true,.bool false,.agg #[.int .i64 2,.int .i64 cw,.slice s cn cap],.agg #[.int .i64 2,.int .i64 cw,.slice s cn cap],.int .u64 h,.func (.func 314) #[] #[pv w2.heap.size 0,pv (w2.heap.size+1) 0],.int .i64 x,undef,undef,undef,undef,undef,undef,undef,undef,undef,undef],defers:=[]})
  (λx _ _=>x<cn) (λ_ _ _ _ _ _ h _ _=>h) ?assign ?body ?done ?stop)
 case kb=>
  intro W l o' hl' hlt x hx;have:=aC (hlie x hx);exact World.putObj_heap_other (by omega)
 case assign=>
  intro l pre x W K hI hP hK;have HK:=aA (hK 0 W (KeepsOthers.refl _) (λ_ _=>rfl) hI hP);clear hK;gi_wp2_with fail;exact HK.out
 case body=>
  rintro l pre x c W stI hP hN;obtain⟨y,hy⟩:∃y,L[x]? =some y:=⟨_,cZ (by rw[HL.out];omega)⟩;obtain⟨g,o,rfl,hg,hc⟩:=hL.at hy;have hget:L.getD x 0=y:=by simp[List.getD,hy]
  have HS:Hid (dX L (pre++[x])=min (dX L pre) y):=by show _=_;rw[aE3,hget]
  have stI2:St w [(w2.heap.size+1,#[.int .u64 h],22),(w2.heap.size,#[.int .i64 2,.int .i64 cw,.slice (some ⟨g,o,none⟩) cn cap],186),(w1.heap.size,#[.int .u64 (dX L pre:Nat)],22),(w.heap.size,#[.int .i64 2,.int .i64 cw,.slice (some ⟨g,o,none⟩) cn cap],98)] (λ_=>True) W:=stI;have stW:=St.aXp stI2 (F:=λW'=>Below W.heap.size W W') aW (λ_ _ h hb=>h.trans (hb.mono h.size));have hmx:prog.follows .mixedOrders=true:=by kernel_rfl
  clear stI stc;gi_wp2_with fail;obtain⟨bl2,E2,hne2,sh2,rl,hEx,hbx,hst⟩:=stW.aW1;have hc1:∀z:Cs w bl2 E2,z.W.cell? ⟨w1.heap.size,0,none⟩=some (.int .u64 (dX L pre:Nat)):=λz=>(rl z).2.2.2.2.2.2.1 0;have hc2:∀z:Cs w bl2 E2,z.W.cell? ⟨w.heap.size,2,none⟩=some (.slice (some ⟨g,o,none⟩) cn cap):=λz=>(rl z).2.2.2.2.2.2.2.2.2.1 2;have hc3:∀z:Cs w bl2 E2,z.W.cell? ⟨g,o+x,none⟩=some (.int .u64 y):=λz=>dH.cellAt (hL.aWu aH (hbx z).out) hy;clear rl;refine kR sh2 7 (by kernel_rfl) (by kernel_rfl) (by kernel_rfl) ?_;simp only[List.take_succ_cons,List.take_zero,List.drop_succ_cons,List.drop_zero]
  repeat(first|go_big_quiet_step (fail)|quiet_step (fail))
  have hmn:(Value.int .u64 (if y<dX L pre then(y:Int) else(dX L pre:Nat)))=.int .u64 (dX L (pre++[x]):Nat):=by
   rw[HS.out]
   by_cases hy2:y<dX L pre
   .rw[if_pos hy2,Nat.min_eq_right (by omega)]
   .rw[if_neg hy2,Nat.min_eq_left (by omega)]
  rw[hmn];clear hmn HS;obtain⟨m,hm⟩:∃m,dX L (pre++[x])=m:=⟨_,rfl⟩;have HM:=aA hm;rw[hm];clear hm;refine wpQuiet_nil ?_;intro y';have st3:=(hst y').out;clear hc1 hc2 hc3 hbx hst sh2 hEx stW;generalize y'.W=w4 at*;have rl4:=st3.rl;have hcA:w4.cell? ⟨w1.heap.size,0,none⟩=some (.int .u64 (dX L pre:Nat)):=rl4.2.2.2.2.2.2.1 0;have hfA:w4.frozen? ⟨w1.heap.size,0,none⟩=false:=rl4.2.2.2.2.2.2.2.1 0;clear rl4;have hbW:=st3.ex.2;have st4:=(st3.aW3 (F:=λ_=>True) trivial (λ_ _ _ _=>trivial)).sx 2 rfl (o:=0) (v:=.int .u64 (m:Nat)) hw1;have hW2:w2.heap.size+1<W.heap.size:=aC (stI2.blk (w2.heap.size+1,#[.int .u64 h],22) (by simp));have hko:=(aX hbW).trans (KeepsOthers.setCell w4 ⟨w1.heap.size,0,none⟩ (.int .u64 (m:Nat)));have hkp:KpB [(w2.heap.size+1,#[.int .u64 h],22),(w2.heap.size,#[.int .i64 2,.int .i64 cw,.slice (some ⟨g,o,none⟩) cn cap],186)] W (w4.setCell ⟨w1.heap.size,0,none⟩ (.int .u64 (m:Nat))):=by
   intro z hz;have hz':z.1=w2.heap.size+1\/z.1=w2.heap.size:=by
    simp at hz;rcases hz with rfl|rfl<;>simp
   exact(Below.heap_setCell w4 ⟨w1.heap.size,0,none⟩ _ z.1 (by show z.1≠w1.heap.size;omega)).trans (hbW.block z.1 (by omega))
  clear stI2 st3 hbW
  by_cases h0:m=0
  .subst h0;gi_wp2_with fail;exact⟨hko,rfl,HM.out,by rw[aOa,HM.out];exact st4⟩
  .have h0':¬((m:Int)=0):=by omega
   gi_wp2_with fail;exact⟨hko,hkp,by rw[aOa,HM.out];exact st4⟩
 case done=>
  rintro D xs W hD rfl st9 hK;have st9':St w _ _ W:=st9;have rl:=st9'.rl;have hcr:W.cell? ⟨w1.heap.size,0,none⟩=some (.int .u64 (dX L (gX cw h):Nat)):=rl.2.2.2.2.2.2.1 0;clear rl;go_wp2_with fail;refine⟨by simp,.inl ⟨_,_,rfl,run_takeDeferred hK,?_⟩⟩;exact⟨_,by simp[results,results303,go_sem],rfl,(st9'.own (base:=w.heap.size) (grownBy_putObj' W D _) (λr e=>by cases e;exact⟨by omega,_,hK,rfl⟩) aH).below⟩
 case stop=>
  rintro D c pre W hD hp ⟨rfl,h0,st9⟩ hK;have st9':St w _ _ W:=st9;have rl:=st9'.rl;have hz:=aFs L pre _ hp h0;rw[h0,<-hz] at rl;have hcr:W.cell? ⟨w1.heap.size,0,none⟩=some (.int .u64 (dX L (gX cw h):Nat)):=rl.2.2.2.2.2.2.1 0;clear rl hz;refine wpIn_wide.2 ?_;go_wp2_with fail;refine⟨by simp,.inl ⟨_,_,rfl,run_takeDeferred hK,?_⟩⟩;exact⟨_,by simp[results,results303,go_sem],rfl,(st9'.own (base:=w.heap.size) (grownBy_putObj' W D _) (λr e=>by cases e;exact⟨by omega,_,hK,rfl⟩) aH).below⟩
end
section
variable {cv cx:Nat}
def rM (cv cx:Nat):Prop:=(cv=16/\cx=32)\/(cv=8/\cx=16)\/(cv=4/\cx=8)
theorem rM.lo (h:rM cv cx):iF cv cx:=by unfold rM at h;unfold iF;omega
theorem rM.hi (h:rM cv cx):iF cx (2*cx):=by unfold rM at h;unfold iF;omega
def qZ (cv p:Nat):Nat:=p/cv*(2*cv)+p%cv
def aIc (L:List Nat)(cv p:Nat):Nat:=jF (L.getD (qZ cv p) 0) (L.getD (qZ cv p+cv) 0)
theorem aHh (hc:rM cv cx)(p old Bw Bx:Nat)(L:List Nat)(s:Option Addr)(cap:Nat)(hl:L.length=2*cx)(hcap:L.length<=cap)(hp:p<cx)(hL:dK L)(u:Value)(w:World)(hN:dH w s L)
  (hBw:w.heap[Bw]? =some (.cells #[.int .i64 2,.int .i64 cv,u] 186 (0,0))) (hBx:w.heap[Bx]? =some (.cells #[.int .i64 2,.int .i64 cx,.slice s L.length cap] 98 (0,0))):
  Calls prog 312 (#[.int .i64 p,.int .u64 old]++ #[pv Bw 0,pv Bx 0]) w λe w'=>e=.returned (.int .u64 (aIc L cv p:Nat))/\Below w.heap.size w w':=by
 show Calls prog 312 #[.int .i64 p,.int .u64 old,pv Bw 0,pv Bx 0] w _;have hf0:qZ cv p+cv<L.length:=by
  unfold qZ;rcases hc with⟨rfl,rfl⟩|⟨rfl,rfl⟩|⟨rfl,rfl⟩<;>omega
 have hfv:Hid ((p:Int)/(cv:Int)*(cx:Int)+(p:Int)%(cv:Int)=(qZ cv p:Nat)):=by
  show _=_;unfold qZ;rcases hc with⟨rfl,rfl⟩|⟨rfl,rfl⟩|⟨rfl,rfl⟩<;>simp
 obtain⟨x,hx⟩:∃x,L[qZ cv p]? =some x:=⟨_,cZ (by omega)⟩;obtain⟨y,hy⟩:∃y,L[qZ cv p+cv]? =some y:=⟨_,cZ (by omega)⟩;obtain⟨g,o,rfl,hg,hc1⟩:=hN.at hx;obtain⟨g',o',he,_,hc2⟩:=hN.at hy;cases he;have hxm:=hL x (bK hx);have hym:=hL y (bK hy);have e0:aIc L cv p=jF x y:=by unfold aIc;simp[List.getD,hx,hy]
 rw[e0];have HT:=aA (λW:World=>lY W.heap.size x y hxm hym (W.alloc (.cells #[.int .u64 x,.int .u64 y] 22)) (kH _ _));generalize jF x y=r at*;generalize qZ cv p=f at*;clear hN hxm hym hx hy e0 hL;have hcap':(f:Int)+(cv:Int)<(L.length:Int):=by omega
 have hlm:(L.length:Int)<=64:=by unfold rM at hc;omega
 generalize L.length=n at*;have hfn:f+cv<n:=hf0;have hn64:n<=64:=by omega
 clear hl;have st0:=St.aX5 (w:=w) (E:=λW=>Below w.heap.size w W) aW (λ_ _ h hb=>h.trans (hb.mono h.size));obtain⟨bl2,E2,hne2,sh2,rl,hEx,hbx,hst⟩:=st0.aW1;have hz1:∀z:Cs w bl2 E2,∀o,z.W.cell? ⟨Bw,o,none⟩=(#[.int .i64 2,.int .i64 cv,u]:Array Value)[o]? :=λz=>aE (((hbx z).out.block _ (aC hBw)).trans hBw);have hz2:∀z:Cs w bl2 E2,∀o',z.W.cell? ⟨Bx,o',none⟩=(#[.int .i64 2,.int .i64 cx,.slice (some ⟨g,o,none⟩) n cap]:Array Value)[o']? :=λz=>aE (((hbx z).out.block _ (aC hBx)).trans hBx);have hz3:∀z:Cs w bl2 E2,z.W.cell? ⟨g,o+f,none⟩=some (.int .u64 x):=λz=>((hbx z).out.cell (p:=⟨g,o+f,none⟩) hg).trans hc1;have hz4:∀z:Cs w bl2 E2,z.W.cell? ⟨g,o+(f+cv),none⟩=some (.int .u64 y):=λz=>((hbx z).out.cell (p:=⟨g,o+(f+cv),none⟩) hg).trans hc2;have hp0:(p:Int)<64:=by unfold rM at hc;omega
 have hcc:=hc;clear hc1 hc2 rl hEx;rcases hc with⟨rfl,rfl⟩|⟨rfl,rfl⟩|⟨rfl,rfl⟩
 all_goals
  simp only[Int.cast_ofNat_Int] at*;go_enter func312,ntmps312;go_wp2_with fail;refine aZ sh2 (by kernel_rfl) (by kernel_rfl) ?_
  repeat(first|go_big_quiet_step (fail)|quiet_step (fail))
  refine wpQuiet_nil ?_;intro z;go_wp2_with fail;rw[hfv.out];refine bP z.st 14 (by kernel_rfl) (by kernel_rfl) ?_;simp only[List.take_succ_cons,List.take_zero,List.drop_succ_cons,List.drop_zero]
  repeat(first|go_big_quiet_step (fail)|quiet_step (fail))
  refine wpQuiet_nil ?_;intro z2;have hb2:=(hbx z2).out;clear hz1 hz2 hz3 hz4 hst hbx;generalize z2.W=w2 at*;have hb3:=hb2.trans (((Below.refl w2.heap.size w2).alloc aH (.cells #[.int .u64 x,.int .u64 y] 22)).mono hb2.size);go_wp2_with fail;refine(HT.out _).mono ?_;rintro e w3 ⟨rfl,rfl⟩;go_wp2_with fail;go_ret;exact⟨rfl,hb3⟩
theorem aC0 (hc:rM cv cx)(L:List Nat)(hl:L.length=2*cx)(hs:dK L)(s:Option Addr)(cap:Nat)(hcap:L.length<=cap)(w:World)(hL:dH w s L):
  Calls prog 304 #[nM cx s (2*cx) cap] w (kO cv cx w):=by
 have hlo:=hc.lo;have hhi:=hc.hi;have st0:=((St.start w).alloc (cs:= #[.int .i64 2,.int .i64 cx,.slice s (2*cx) cap]) (T:=98)).alloc (cs:= #[.int .i64 0,.int .i64 0,.slice none 0 0]) (T:=98);simp only[World.size_alloc] at st0;have hq:(cx:Int)/2=(cv:Int):=by unfold rM at hc;omega
 have h0:0<=(cx:Int):=by omega
 have h32:(cx:Int)<=32:=by unfold rM at hc;omega
 have HR:=aA (λW=>iX hhi s cap W);have HB:=aA (λW=>tX hlo W);go_enter func304,ntmps304;go_wp2_with fail;refine(HR.out _).mono ?_;rintro e w1 ⟨rfl,hb1⟩;have st1:=st0.to hb1;have rl:=st1.rl;clear st0 hb1 HR;go_wp2_with fail;refine(HB.out _).mono ?_;rintro e w2 ⟨A,rfl,hA,hN,hb2⟩;have hwA:w.heap.size+1<A:=by have:=aC (st1.blk (w.heap.size+1,#[.int .i64 0,.int .i64 0,.slice none 0 0],98) (by simp));omega
 have st4:=st1.aW8 (st1.to hb2) hA hN;have st5:=st4.alloc (cs:= #[.int .i64 2,.int .i64 cv,.slice (some ⟨A,0,none⟩) cx cx]) (T:=186);have hcz:=HB;clear st1 hb2 hN hA st4 HB rl hq;go_wp2_with fail;refine rS st5 4 [.val (.agg #[.int .i64 2,.int .i64 cv,.slice (some ⟨A,0,none⟩) cx cx]),.val (.agg #[.int .i64 2,.int .i64 cv,.slice (some ⟨A,0,none⟩) cx cx]),.fct (aNn (w2.heap.size+1) #[.int .i64 2,.int .i64 cv,.slice (some ⟨A,0,none⟩) cx cx]) (aAc _ _),.val (.func (.func 312) #[] #[pv w2.heap.size 0,pv w.heap.size 0])] ?spec ?endd
 case spec=>
  refine⟨?_,?_,?_,?_,trivial⟩
  all_goals(intro ρ W kc kf hW sW rl hu hd;simp only[aI,World.size_alloc] at rl)
  have u4:ρ (.tmp 4)=pv w2.heap.size 0:=cR hu 4;rotate_left;have u4:ρ (.tmp 4)=pv w2.heap.size 0:=cR hu 4;rotate_left
  .have u25:ρ (.tmp 25)=_:=aK hd 1 25;refine aF rfl ?_;go_simp;refine⟨aW,(aDy (some ⟨A,0,none⟩) cx cx W).mono ?_⟩;rintro e w' ⟨rfl,rfl⟩;exact⟨_,rfl,(Below.refl W.heap.size W).alloc aH _,W.heap.size,rfl,(by have:=hW.size;simp at this;omega),kH _ _⟩
  have u4:ρ (.tmp 4)=pv w2.heap.size 0:=cR hu 4;have u1:ρ (.tmp 1)=pv w.heap.size 0:=cR hu 1;rotate_left
  all_goals(refine aF rfl ?_;go_simp;exact aG rfl)
 case endd=>
  rintro v W hW sW rl ⟨h2,-⟩;simp only[aI,World.size_alloc] at rl;obtain⟨b,v2,hbB,hb1⟩:=h2;rw[v2];clear v2;have hlt:∀x∈[(w2.heap.size,#[.int .i64 2,.int .i64 cv,.slice (some ⟨A,0,none⟩) cx cx],186),(A,((fZ cx).flatMap cM).toArray,22),(w.heap.size+1,#[.int .i64 0,.int .i64 0,.slice none 0 0],98),(w.heap.size,#[.int .i64 2,.int .i64 cx,.slice s (2*cx) cap],98)],x.1<w2.heap.size+1:=λx hx=>by have:=aC (st5.blk x hx);simpa using this
  have st9:=sW.cons hb1 (λx hx=>by have:=hlt x hx;omega);have st10:=st9.perm (((List.Perm.swap _ _ _).cons _).trans (List.Perm.swap _ _ _));have HCH:=aA (qN (cw:=cv) A (fZ cx) (iE cx) (mF cx) st10 (by omega) 315 #[pv b 0] (List.range cx) (enters_of func315 (by kernel_rfl) rfl)
   (λW' hW'=>aJq (cw:=cv) hlo.n _ b (some ⟨A,0,none⟩) cx (by simp) 4 (by omega) W' (λx hx=>hW'.blk x (List.mem_cons_of_mem _ hx)))
   312 #[pv w2.heap.size 0,pv w.heap.size 0] (λp _=>aIc L cv p) (λ_ _ _=>lB _ _) (enters_of func312 (by kernel_rfl) rfl)
   (λW' hb' hbl p old hp ho=>aHh hc p old w2.heap.size w.heap.size L s cap hl hcap hp hs _ W' (hL.aWu aH hb') (hbl (w2.heap.size,#[.int .i64 2,.int .i64 cv,.slice (some ⟨A,0,none⟩) cx cx],186) (by simp)) (by rw[hl];exact hbl (w.heap.size,#[.int .i64 2,.int .i64 cx,.slice s (2*cx) cap],98) (by simp))))
  have HE:=aA (show(uE (λp _=>aIc L cv p) (fZ cx) (List.range cx)).length=cx/\dK (uE (λp _=>aIc L cv p) (fZ cx) (List.range cx)) from⟨by rw[nA];exact iE cx,pK _ (λ_ m _=>lB _ _) _ _ (mF cx)⟩);clear st9 st10 sW st5 hlt hb1 hbB hW rl;generalize uE (λp _=>aIc L cv p) (fZ cx) (List.range cx)=L' at*;go_wp2_with fail;refine HCH.out.mono ?_;rintro e w9 ⟨rfl,st9⟩;have rl:=st9.rl;clear HCH;go_wp2_with fail;have st11:=(((st9.sx 3 (A:=w.heap.size+1) rfl (o:=0) (v:=.int .i64 2) (by omega)).sx 3 (A:=w.heap.size+1) rfl (o:=1) (v:=.int .i64 cv) (by omega)).sx 3 (A:=w.heap.size+1) rfl (o:=2) (v:=.slice (some ⟨A,0,none⟩) cx cx) (by omega));exact bodyPost_ret (v:=.tuple #[.agg #[.int .i64 2,.int .i64 cv,.slice (some ⟨A,0,none⟩) cx cx],.int .i64 0]) (by simp[results,results304,go_sem,rl]) rfl ⟨L',HE.out.1,HE.out.2,A,rfl,by omega,st11.blk _ (bK (i:=0) rfl),st11.below⟩
end
end Go.Proofs.YtmgdbfmlnmahpaaGreatDoor
