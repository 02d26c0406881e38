/- Part of TopAudits. -/
import Derived.Test.YtmgdbfmlnmahpaaGreatDoorG22
import Derived.Test.YtmgdbfmlnmahpaaGreatDoorG23
namespace Go.Proofs.YtmgdbfmlnmahpaaGreatDoor
set_option linter.unusedSimpArgs false
set_option linter.unusedVariables false
set_option maxRecDepth 100000
set_option maxHeartbeats 4000000
open Go.Proofs.Tryz
open Go.RowKit Go.Shelf
structure aQ (W:World):Prop where
 e:lP W
 u:Lib.Utf8Tabs 2 3 W
theorem aQ.aWu {W W':World}(h:aQ W)(hb:Below W.heap.size W W'):aQ W':=by
 refine⟨h.e.aWu hb,λc hc=> ?_,λi hi=>⟨?_,?_⟩⟩
 .have h1:=h.u.1 c hc;exact(hb.cell (p:=⟨2,c,none⟩) (World.block_lt_of_cell? _ _ h1)).trans h1
 .have h1:=(h.u.2 i hi).1;exact(hb.cell (p:=⟨3,2*i,none⟩) (World.block_lt_of_cell? _ _ h1)).trans h1
 .have h1:=(h.u.2 i hi).2;exact(hb.cell (p:=⟨3,2*i+1,none⟩) (World.block_lt_of_cell? _ _ h1)).trans h1
theorem tK (s:ByteArray)(hs:s.size<=1000000)(w:World)(hG:aQ w):Calls prog 148 #[.string s] w λe w'=>
  (∃(n:Nat) (b:Bool),e=.returned (.tuple #[.int .i64 n,.bool b])/\n<=s.size/\((∀c∈bY s 0,c≠65533)->b=true/\n=(bY s 0).length))/\Below w.heap.size w w':=by
 have HG:=aA hG;clear hG;go_enter func148,ntmps148;go_wp2_with fail
 go_loopw [4] (λt wr=>∃pos n:Nat,t=.int .i64 n/\wr.heap[w.heap.size]? =some (.stringIter s pos)/\Below w.heap.size w wr/\n<=pos/\n<=s.size/\(∀c∈bY s pos,c∈bY s 0)/\((∀c∈bY s 0,c≠65533)->n+(bY s pos).length=(bY s 0).length)) (λ_ wr=>s.size-wr.iterPos w.heap.size)
 case atStart=>exact⟨0,0,rfl,World.iter_heap _ _ _,aW.alloc aH _,aH,cJ _,λ_ h=>h,λ_=>Nat.zero_add _⟩
 case round=>
  obtain⟨pos,n,rfl,hit,hbw,hn1,hn2,hsub,hlen⟩:=hrel
  by_cases hp:pos<s.size
  .have hnx:∀ty,(Instr.next (pv w.heap.size 0) true ty).run prog wr=_:=λty=>Lib.run_next_any_at wr w.heap.size s pos ty hit hp;have hwd:=jR s pos hp;have hit2:=Lib.iterAt_heap wr w.heap.size s pos (pos+(Utf8.decode s pos).2) hit;have hbw2:=Lib.below_iterAt hbw (Nat.le_refl w.heap.size) s (pos+(Utf8.decode s pos).2);have hst:=kT s pos hp;obtain⟨hc0,hsub2⟩:=qQ s pos hp _ hsub;generalize wr.iterAt w.heap.size s (pos+(Utf8.decode s pos).2)=w2 at*;rw[hst,List.length_cons] at hlen;generalize(Utf8.decode s pos).2=wd at*;generalize(Utf8.decode s pos).1=rn at*;clear hst hsub;have HI2:=aA hit2;have HB2:=aA hbw2;have HC0:=aA hc0;have HLEN:=aA hlen;have hmp:w2.iterPos w.heap.size=pos+wd:=by simp[World.iterPos,hit2]
   have hm0:wr.iterPos w.heap.size=pos:=by simp[World.iterPos,hit]
   by_cases he:rn=65533
   .have hez:(rn:Int)=65533:=by omega
    have hzs:(pos:Int)<=(s.size:Int):=by omega
    clear hit hbw hit2 hbw2 hc0 hlen;go_wp2_with fail;refine(Tryz.utf8_DecodeRuneInString _ _ ((HG.out.aWu HB2.out).u)).mono ?_;rintro e w3 ⟨rfl,hb3⟩;generalize(Lib.decodeGo _).2=sz at*
    by_cases hsz:sz=1
    .have hsz':(sz:Int)=1:=by omega
     go_wp2_with fail;go_ret2;exact⟨⟨0,false,rfl,cJ _,λh=>absurd he (h _ HC0.out)⟩,HB2.out.trans (hb3.mono HB2.out.size)⟩
    .have hsz':¬(sz:Int)=1:=by omega
     have hi3:=(hb3.block _ (Array.getElem?_eq_some_iff.1 HI2.out).1).trans HI2.out;have hm3:w3.iterPos w.heap.size=pos+wd:=by simp[World.iterPos,hi3]
     go_wp2_with fail;go_roundw
     case rel=>exact⟨pos+wd,n+1,by go_num,hi3,HB2.out.trans (hb3.mono HB2.out.size),by omega,by omega,hsub2,λh=>absurd he (h _ HC0.out)⟩
     case measure=>rw[hm3,hm0];omega
   .have hez:¬(rn:Int)=65533:=by omega
    clear hit hbw hit2 hbw2 hc0 hlen;go_wp2_with fail;go_roundw
    case rel=>exact⟨pos+wd,n+1,by go_num,HI2.out,HB2.out,by omega,by omega,hsub2,λh=>by have:=HLEN.out h;omega⟩
    case measure=>rw[hmp,hm0];omega
  .have hnx:∀ty,(Instr.next (pv w.heap.size 0) true ty).run prog wr=_:=λty=>Lib.run_next_end_at wr w.heap.size s pos ty hit hp;rw[qT s pos hp] at hlen;have HLEN:=aA hlen;clear hlen;go_wp2_with fail;go_ret2;exact⟨⟨n,true,rfl,hn2,λh=>⟨rfl,by have:=HLEN.out h;simpa using this⟩⟩,hbw⟩
theorem qP {s:ByteArray}(h:s≠⟨#[]⟩):s.toList.isEmpty=false:=by
 rw[Lib.toList_data];cases e:s.data.toList with
 |nil=>
  refine absurd ?_ h;cases s with
  |mk d=>exact congrArg ByteArray.mk (Array.toList_eq_nil_iff.1 e)
 |cons _ _=>rfl
theorem fM (c:Int)(w:World):Calls prog 195 #[.int .i32 c] w λe w'=>e=.returned (.bool (decide (97<=c)&&decide (c<=122)))/\w'=w:=by
 by_cases h1:97<=c
 .by_cases h2:c<=122
  all_goals
   go_enter func195,ntmps195;go_wp2_with fail;go_ret;exact⟨by simp[h1,h2],rfl⟩
 .go_enter func195,ntmps195;go_wp2_with fail;go_ret;exact⟨by simp;omega,rfl⟩
theorem eX (c:Int)(w:World):Calls prog 196 #[.int .i32 c] w λe w'=>e=.returned (.bool (decide (32<=c)&& !decide (c=127)))/\w'=w:=by
 by_cases h1:32<=c
 .by_cases h2:c=127
  all_goals
   go_enter func196,ntmps196;go_wp2_with fail;go_ret;exact⟨by simp[h1,h2],rfl⟩
 .go_enter func196,ntmps196;go_wp2_with fail;go_ret;exact⟨by simp;omega,rfl⟩
theorem aIq (s:ByteArray)(hs:s.size<=1000000)(w:World):Calls prog 155 #[.string s] w λe w'=>
  (∃b:Bool,e=.returned (.bool b)/\(s=⟨#[97]⟩->b=true))/\Below w.heap.size w w':=by
 have hr:s=⟨#[97]⟩->∀c∈bY s 0,c=97:=by rintro rfl;rw[aQm];simp
 by_cases h0:s=⟨#[]⟩
 .subst h0;go_enter func155,ntmps155;go_wp2_with fail;go_ret;exact⟨⟨false,rfl,λh=>by cases h⟩,aW⟩
 have hie:=qP h0
 by_cases h1:12<s.size
 .have h1':12<(s.size:Int):=by omega
  go_enter func155,ntmps155;go_wp2_with fail;go_ret;exact⟨⟨false,rfl,λh=>by rw[h] at h1;exact absurd h1 (by decide)⟩,aW⟩
 have h1':¬12<(s.size:Int):=by omega
 have HR:=aA hr;have H0:=aA h0;clear hr;go_enter func155,ntmps155;go_wp2_with fail
 go_loopw [] (λwr=>∃pos:Nat,wr.heap[w.heap.size]? =some (.stringIter s pos)/\Below w.heap.size w wr/\(∀c∈bY s pos,c∈bY s 0)) (λwr=>s.size-wr.iterPos w.heap.size)
 case atStart=>exact⟨0,World.iter_heap _ _ _,aW.alloc aH _,λ_ h=>h⟩
 case round=>
  obtain⟨pos,hit,hbw,hsub⟩:=hrel
  by_cases hp:pos<s.size
  .have hnx:∀ty,(Instr.next (pv w.heap.size 0) true ty).run prog wr=_:=λty=>Lib.run_next_any_at wr w.heap.size s pos ty hit hp;have hwd:=jR s pos hp;have hit2:=Lib.iterAt_heap wr w.heap.size s pos (pos+(Utf8.decode s pos).2) hit;have hbw2:=Lib.below_iterAt hbw (Nat.le_refl w.heap.size) s (pos+(Utf8.decode s pos).2);obtain⟨hc0,hsub2⟩:=qQ s pos hp _ hsub;generalize wr.iterAt w.heap.size s (pos+(Utf8.decode s pos).2)=w2 at*;generalize(Utf8.decode s pos).2=wd at*;generalize(Utf8.decode s pos).1=rn at*;have HC0:=aA hc0;have hmp:w2.iterPos w.heap.size=pos+wd:=by simp[World.iterPos,hit2]
   have hm0:wr.iterPos w.heap.size=pos:=by simp[World.iterPos,hit]
   clear hsub hit hbw hc0
   by_cases hq:97<=(rn:Int)/\(rn:Int)<=122
   .have hv:(decide (97<=(rn:Int))&&decide ((rn:Int)<=122))=true:=by simp[hq]
    clear h0 hie;go_wp2_with fail;refine(fM _ _).mono ?_;rw[hv];rintro e w3 ⟨rfl,rfl⟩;go_wp2_with fail;go_roundw
    case rel=>exact⟨pos+wd,hit2,hbw2,hsub2⟩
    case measure=>rw[hmp,hm0];omega
   .have hv:(decide (97<=(rn:Int))&&decide ((rn:Int)<=122))=false:=by
     rcases Classical.not_and_iff_not_or_not.1 hq with h|h<;>simp[h]
    clear h0 hq hie;go_wp2_with fail;refine(fM _ _).mono ?_;rw[hv];rintro e w3 ⟨rfl,rfl⟩;go_wp2_with fail;go_ret;refine⟨⟨false,rfl,λh=> ?_⟩,hbw2⟩;have:=HR.out h _ HC0.out;subst this;simp at hv
  .have hnx:∀ty,(Instr.next (pv w.heap.size 0) true ty).run prog wr=_:=λty=>Lib.run_next_end_at wr w.heap.size s pos ty hit hp;clear h0 hie;go_wp2_with fail;go_ret;exact⟨⟨true,rfl,λ_=>rfl⟩,hbw⟩
def aLk (s:ByteArray):Prop:=s=⟨#[120]⟩\/s=⟨#[]⟩
theorem aLk.aXu {s:ByteArray}(h:aLk s):(∀c∈bY s 0,c=120)/\(bY s 0).length<=1:=by
 rcases h with rfl|rfl
 .rw[aDl];simp
 .rw[aR2];simp
theorem aC3 (s:ByteArray)(hs:s.size<=1000000)(w:World)(hG:aQ w):Calls prog 156 #[.string s] w λe w'=>
  (∃b:Bool,e=.returned (.bool b)/\(aLk s->b=true))/\Below w.heap.size w w':=by
 have HU:=aA (tK s hs w hG);clear hG;go_enter func156,ntmps156;go_wp2_with fail;refine HU.out.mono ?_;rintro e w0 ⟨⟨n,b,rfl,hn,hb⟩,hb0⟩;have HB:=aA hb;clear hb HU;cases b with
 |false=>
  go_wp2_with fail;go_ret;exact⟨⟨false,rfl,λh=>by have:=(HB.out (λc hc e=>by have:=h.aXu.1 c hc;omega)).1;cases this⟩,hb0⟩
 |true=>
 by_cases h1:24<n
 .have h1':24<(n:Int):=by omega
  go_wp2_with fail;go_ret;exact⟨⟨false,rfl,λh=>by have:=(HB.out (λc hc e=>by have:=h.aXu.1 c hc;omega)).2;have:=h.aXu.2;omega⟩,hb0⟩
 have h1':¬24<(n:Int):=by omega
 have hz:=hb0.size;go_wp2_with fail
 go_loopw [] (λwr=>∃pos:Nat,wr.heap[w0.heap.size]? =some (.stringIter s pos)/\Below w.heap.size w wr/\(∀c∈bY s pos,c∈bY s 0)) (λwr=>s.size-wr.iterPos w0.heap.size)
 case atStart=>exact⟨0,World.iter_heap _ _ _,hb0.trans ((Below.refl w0.heap.size w0).alloc aH _|>.mono hz),λ_ h=>h⟩
 case round=>
  obtain⟨pos,hit,hbw,hsub⟩:=hrel
  by_cases hp:pos<s.size
  .have hnx:∀ty,(Instr.next (pv w0.heap.size 0) true ty).run prog wr=_:=λty=>Lib.run_next_any_at wr w0.heap.size s pos ty hit hp;have hwd:=jR s pos hp;have hit2:=Lib.iterAt_heap wr w0.heap.size s pos (pos+(Utf8.decode s pos).2) hit;have hbw2:=Lib.below_iterAt hbw hz s (pos+(Utf8.decode s pos).2);obtain⟨hc0,hsub2⟩:=qQ s pos hp _ hsub;generalize wr.iterAt w0.heap.size s (pos+(Utf8.decode s pos).2)=w2 at*;generalize(Utf8.decode s pos).2=wd at*;generalize(Utf8.decode s pos).1=rn at*;have HC0:=aA hc0;have hmp:w2.iterPos w0.heap.size=pos+wd:=by simp[World.iterPos,hit2]
   have hm0:wr.iterPos w0.heap.size=pos:=by simp[World.iterPos,hit]
   clear hsub hit hbw hc0
   by_cases hq:32<=(rn:Int)/\¬(rn:Int)=127
   .have hv:(decide (32<=(rn:Int))&& !decide ((rn:Int)=127))=true:=by simp[hq]
    go_wp2_with fail;refine(eX _ _).mono ?_;rw[hv];rintro e w3 ⟨rfl,rfl⟩;go_wp2_with fail;go_roundw
    case rel=>exact⟨pos+wd,hit2,hbw2,hsub2⟩
    case measure=>rw[hmp,hm0];omega
   .have hv:(decide (32<=(rn:Int))&& !decide ((rn:Int)=127))=false:=by
     rcases Classical.not_and_iff_not_or_not.1 hq with h|h
     .simp[h]
     .simp[Classical.not_not.1 h]
    clear hq;go_wp2_with fail;refine(eX _ _).mono ?_;rw[hv];rintro e w3 ⟨rfl,rfl⟩;go_wp2_with fail;go_ret;refine⟨⟨false,rfl,λh=> ?_⟩,hbw2⟩;have:=h.aXu.1 _ HC0.out;subst this;simp at hv
  .have hnx:∀ty,(Instr.next (pv w0.heap.size 0) true ty).run prog wr=_:=λty=>Lib.run_next_end_at wr w0.heap.size s pos ty hit hp;go_wp2_with fail;go_ret;exact⟨⟨true,rfl,λ_=>rfl⟩,hbw⟩
section
theorem aEl (s:Option Addr)(n cap:Nat)(w:World):
  Calls prog 161 #[.slice s n cap] w λe w'=>e=.returned (.func (.func 197) #[] #[pv w.heap.size 0])/\w'=w.alloc (.cells #[.slice s n cap] 161):=by
 go_enter func161,ntmps161;go_wp2_with fail;go_ret;exact⟨rfl,rfl⟩
theorem tQ (s:Option Addr)(n cap:Nat)(w:World):
  Calls prog 120 #[.slice s n cap] w λe w'=>e=.returned (.func (.func 197) #[] #[pv w.heap.size 0])/\w'=w.alloc (.cells #[.slice s n cap] 161):=by
 go_enter func120,ntmps120;go_wp2_with fail;refine(aEl s n cap w).mono ?_;rintro e w1 ⟨rfl,rfl⟩;go_wp2_with fail;go_ret;exact⟨rfl,rfl⟩
theorem uA {W:World}{s:Option Addr}{L:List dQ}(h:Rd 2 cO W s L){i:Nat}{x:dQ}(hx:L[i]? =some x):∃g o,s=some ⟨g,o,none⟩/\g<W.heap.size/\W.cell? ⟨g,o+i*2,none⟩=some (.string x.name)/\W.cell? ⟨g,o+i*2+1,none⟩=some (.string x.val):=by
 obtain⟨g,o,e,hg,hc⟩:=h i x hx;exact⟨g,o,e,hg,hc 0 _ rfl,hc 1 _ rfl⟩
def KpL (bl:List cH)(s:Option Addr)(L:List dQ)(A B:World):Prop:=KpB bl A B/\(Rd 2 cO A s L->Rd 2 cO B s L)
abbrev aIt (x:dQ):Value:=.agg #[.string x.name,.string x.val]
theorem aLa (bl:List cH)(Bw:Nat)(L:List dQ)(hlen:L.length<=1000000)(s:Option Addr)(cap:Nat)(hBw:(Bw,#[.slice s L.length cap],161)∈bl)
  (n:Nat) (hn:1<=n) (lb:Nat) (J Jx:List dQ->World->Prop) (bJ:jJ none J)
  (hY:∀(pre:List dQ) (x:dQ) (W:World),J pre W->x∈L->pre.length<L.length->YieldAt Fence.wide (n-1) prog lb #[aIt x] W λe W'=>
   (e=.returned (.bool true)/\J (pre++[x]) W'/\KpL bl s L W W')\/(e=.returned (.bool false)/\Jx (pre++[x]) W'))
  (W:World) (hW:eR bl W) (hRd:Rd 2 cO W s L) (h0:J [] W):
  CallsIn Fence.wide n prog 197 #[.func (.yield lb) #[] #[],pv Bw 0] W λe W'=>(∃v,e=.returned v)/\
   ((∃xs,xs=L/\J xs W')\/(∃pre,pre<+:L/\Jx pre W')):=by
 have hcw:=aE (hW _ hBw) 0;refine callsIn_of_wp func197 rfl trivial ?_ rfl;simp only[ntmps197,List.size_toArray,List.length_cons,List.length_nil,Nat.reduceAdd,Nat.reduceSub,Array.replicate_succ,Array.replicate_zero,List.push_toArray,List.append_toArray,List.nil_append,List.cons_append];gi_wp2_with fail;clear hcw
 gi_loopw [7] (λi wr=>∃k:Nat,k<=L.length/\i=.int .i64 k/\eR bl wr/\Rd 2 cO wr s L/\J (L.take k) wr) (λi _=>L.length-(intOf i).toNat)
 case atStart=>exact⟨0,by omega,rfl,hW,hRd,h0⟩
 case round=>
  clear hW h0 hRd;obtain⟨k,hk,rfl,hb,hRd,hJ⟩:=hrel
  by_cases hlt:k<L.length
  .obtain⟨x,hx⟩:∃x,L[k]? =some x:=⟨_,cZ hlt⟩;obtain⟨g,o,rfl,hg,hc1,hc2⟩:=uA hRd hx;have HN:Hid (L.take k++[x]=L.take (k+1)):=by show _=_;rw[List.take_add_one,hx];rfl
   have hb2:Below wr.heap.size wr (wr.alloc (.cells #[.string x.name,.string x.val] 229)):=aW.alloc aH _;have hJ4:=bJ _ _ _ hJ (aU hb2 none);have hl4:=hb.below hb2;have hr4:=hRd.aWu aH hb2;obtain⟨fn,tmps,assign,body,hy,hR⟩:=hY (L.take k) x _ hJ4 (bK hx) (by rw[List.length_take];omega);obtain⟨xa,xn⟩:=x;simp only[aIt] at hc1 hc2 HN hy hR hJ4 hl4 hr4;clear hx hJ hb hRd hY hb2;gi_wp2_with fail;refine hR.mono ?_;rintro e W3 (⟨rfl,hJ3,hk3⟩|⟨rfl,hJx3⟩)
   .have hJ5:J (L.take (k+1)) W3:=by rw[<-HN.out];exact hJ3
    have hb3:=hl4.keep hk3.1;have hr3:=hk3.2 hr4;clear hy hR hJ4 hl4 hJ3 hr4 hc1 hc2;gi_wp2_with fail;go_roundw
    case rel=>exact⟨k+1,hlt,by go_num,hb3,hr3,hJ5⟩
    case measure=>simp[intOf];omega
   .have hJ5:Jx (L.take (k+1)) W3:=by rw[<-HN.out];exact hJx3
    clear hy hR hJ4 hl4 hJx3 hr4 hc1 hc2;gi_wp2_with fail;refine bodyPost_ret (results_none rfl _ _ _) rfl ?_;exact⟨⟨_,rfl⟩,.inr ⟨_,List.take_prefix _ _,hJ5⟩⟩
  .obtain rfl:k=L.length:=by omega
   rw[List.take_length] at hJ;clear hY;gi_wp2_with fail;go_end0;exact⟨⟨_,rfl⟩,.inl ⟨_,rfl,hJ⟩⟩
theorem aMt (bl:List cH)(Bw:Nat)(L:List dQ)(hlen:L.length<=1000000)(s:Option Addr)(cap:Nat)(hBw:(Bw,#[.slice s L.length cap],161)∈bl)(n:Nat)(hn:1<=n)(W:World)(hW:eR bl W)(hRd:Rd 2 cO W s L):
  aBd Fence.wide n prog 197 #[pv Bw 0] (λx:dQ=> #[aIt x]) (λx _=>x∈L) (KpL bl s L) (λxs=>xs=L) (λpre=>pre<+:L) L.length none W:=λlb J Jx bJ _ hY h0=>
 aLa bl Bw L hlen s cap hBw n hn lb J Jx bJ hY W hW hRd h0
abbrev slB (Bw:Nat)(s:Option Addr)(n cap:Nat):cH:=(Bw,#[.slice s n cap],161)
abbrev aVd (c:Nat)(x:dQ):cH:=(c,#[.string x.name,.string x.val],229)
def aEj (B:Nat)(A:World)(row:Option Nat):Prop:=∀r,row=some r->B<=r/\∃o:Obj,A.heap[r]? =some o/\o.isCells=false
def aU8 {δ:Type}(w0:World)(x:cH)(bl:δ->List cH)(X:List dQ->δ->World->Prop)(Xx:Code->List dQ->δ->World->Prop)(xs:List dQ)(W:World):Exit->Act->World->Prop
 | .normal,_,W'=>KeepsOthers W W'/\∃d,X xs d W'/\St w0 (x::bl d) (λ_=>True) W'
 | .ret,_,W'=>KeepsOthers W W'/\∃d,Xx .ret xs d W'/\St w0 (x::bl d) (λ_=>True) W'
 | .exit id,_,W'=>KeepsOthers W W'/\∃d,Xx (.exit id) xs d W'/\St w0 (x::bl d) (λ_=>True) W'
 |_,_,_=>False
theorem uG {δ:Type}{g:Operand}{ps:Array Tmp}{assign body:Code}{Q:Exit->Act->World->Prop}{a:Act}{w w0:World}(hw0:w0.heap.size<=w.heap.size)(L:List dQ)(hlen:L.length<=1000000)(s:Option Addr)(cap:Nat)(hR0:Rd 2 cO w0 s L)(Bw:Nat)
  (hg:a.eval g=.func (.func 197) #[] #[pv Bw 0]) (hps:ps.size=1) (X:List dQ->δ->World->Prop) (Xx:Code->List dQ->δ->World->Prop) (bl:δ->List cH)
  (hX:∀pre d A B row,X pre d A->A.grownBy B row->aEj w0.heap.size A row->X pre d B) (hXx:∀c pre d A B row,Xx c pre d A->A.grownBy B row->aEj w0.heap.size A row->Xx c pre d B)
  (hT:∀d,∀y∈bl d,y.2.2≠229) (d0:δ) (h0:X [] d0 w) (st0:St w0 (slB Bw s L.length cap::bl d0) (λ_=>True) w) (a₁:dQ->Nat->Act)
  (hassign:∀(l:Nat) (x:dQ) (W:World) (K:Act->World->Prop),K (a₁ x W.heap.size) (W.alloc (.cells #[.string x.name,.string x.val] 229))->assign.wpIn (Fence.wide.inRound l) 3 prog (Exit.then K (λ_ _ _=>False)) {tmps:=(ps.zip #[aIt x]).foldl (λt (p,v)=>t.setIfInBounds p v) a.tmps,defers:=[]} W)
  (hbody:∀(l:Nat) (pre:List dQ) (x:dQ) (c:Nat) (d:δ) (W:World),x∈L->pre.length<L.length->w0.heap.size<=c->X pre d W->St w0 (aVd c x::slB Bw s L.length cap::bl d) (λ_=>True) W->body.wpIn (Fence.wide.inRound l) 3 prog (aU8 w0 (slB Bw s L.length cap) bl X Xx (pre++[x]) W) (a₁ x c) W)
  (hdone:∀(D:Nat) (d:δ) (W:World),w0.heap.size<=D->X L d W->St w0 (bl d) (λ_=>True) W->W.heap[D]? =some (.deferred (some []))->(∀o',St w0 (bl d) (λ_=>True) (W.putObj D o'))->Q .normal {a with defers:={target:=.collected D,args:= #[]}::a.defers} W)
  (hstop:∀(D:Nat) (c:Code) (pre:List dQ) (d:δ) (W:World),w0.heap.size<=D->Xx c pre d W->St w0 (bl d) (λ_=>True) W->W.heap[D]? =some (.deferred (some []))->(∀o',St w0 (bl d) (λ_=>True) (W.putObj D o'))->c.wp prog Q {a with defers:={target:=.collected D,args:= #[]}::a.defers} W):
  (Code.rangeFunc g ps assign body).wp prog Q a w:=by
 have hlie:eR [slB Bw s L.length cap] w:=λx hx=>st0.blk x (by simp at hx;subst hx;simp);have hr2:=hR0.aWu aH st0.below;have tR:∀(d:δ) (D:Nat) (W:World),w0.heap.size<=D->St w0 (bl d) (λ_=>True) W->W.heap[D]? =some (.deferred (some []))->∀o',St w0 (bl d) (λ_=>True) (W.putObj D o'):=
  λd D W hD st hK o'=>st.own (base:=w0.heap.size) (grownBy_putObj' W D o') (λr e=>by cases e;exact⟨hD,_,hK,rfl⟩) aH
 refine(wpIn_wide (n:=5)).1 (bU (n:=5) (b:=none) (λ_ e=>by cases e) rfl (by omega) (gf:=197) (lb:= #[pv Bw 0]) hg trivial (enters_of func197 (by kernel_rfl) rfl)
  (λW hb=>aMt [slB Bw s L.length cap] Bw L hlen s cap (by simp) 4 (by omega) W (hlie.below hb) (hr2.aWu aH hb)) (λh k=>⟨λx hx=>(k.1 x hx).trans (h.1 x hx),λr=>k.2 (h.2 r)⟩) ?kb (λ_=>by rw[hps];rfl)
  (λpre W=>∃d,X pre d W/\St w0 (slB Bw s L.length cap::bl d) (λ_=>True) W) (λc pre W=>∃d,Xx c pre d W/\St w0 (slB Bw s L.length cap::bl d) (λ_=>True) W)
  (λ_ _ _ _ ⟨d,h,st⟩ hg hr=>⟨d,hX _ _ _ _ _ h hg (λr e=>⟨dR hw0 (hr r e).1,(hr r e).2⟩),st.own hg hr hw0⟩) (λc _ _ _ _ ⟨d,h,st⟩ hg hr=>⟨d,hXx _ _ _ _ _ _ h hg (λr e=>⟨dR hw0 (hr r e).1,(hr r e).2⟩),st.own hg hr hw0⟩)
  (λ_ _ _ ⟨d,h,st⟩ hg=>⟨d,hX _ _ _ _ _ h hg (λr e=>by cases e),st.grown hg (λk e=>by cases e)⟩) (λc _ _ _ ⟨d,h,st⟩ hg=>⟨d,hXx _ _ _ _ _ _ h hg (λr e=>by cases e),st.grown hg (λk e=>by cases e)⟩) ⟨d0,h0,st0⟩
  a₁ (λx c W=>x∈L/\w0.heap.size<=c/\W.heap[c]? =some (.cells #[.string x.name,.string x.val] 229 (0,0))) ?own ?assign ?body ?done ?stop)
 case kb=>
  intro W l' o' hl' hlt;refine⟨λx hx=> ?_,λr=> ?_⟩
  .have:=aC (hlie x hx);exact World.putObj_heap_other (by omega)
  .intro i x hx;obtain⟨g0,o0,e0,hg0,_⟩:=hr2 i x hx;obtain⟨g,o,e,hg,hc⟩:=r i x hx;rw[e0] at e;cases e;refine⟨g0,o0,e0,by simpa[World.putObj] using hg,λj u hu=> ?_⟩;rw[<-hc j u hu];simp only[World.cell?,World.putObj_heap_other (show g0≠l' by omega)]
 case own=>
  rintro x c _ A B row ⟨h1,h2,h3⟩ hg hr;refine⟨h1,h2,(hg.block c (aC h3) (λe=>by
   obtain⟨_,o,ho,hc⟩:=hr _ e.symm;rw[h3] at ho;cases ho;simp[Obj.isCells] at hc)).trans h3⟩
 case assign=>
  rintro l' pre x W K ⟨d,h,st⟩ hP hK;have hal:=Below.alloc (Below.refl W.heap.size W) aH (.cells #[.string x.name,.string x.val] 229);refine hassign l' x W K (hK W.heap.size _ (aX hal) ⟨λy hy=> ?_,λr=>r.aWu aH hal⟩ ⟨d,hX _ _ _ (W.alloc (.cells #[.string x.name,.string x.val] 229)) none h (aU hal none) (λr e=>by cases e),st.to hal⟩ ⟨hP,st.below.size,kH W _⟩);have hy':y=slB Bw s L.length cap:=by simpa using hy
  subst hy';exact hal.block _ (aC (st.blk _ (List.mem_cons_self ..)))
 case body=>
  rintro l' pre x c W ⟨d,h,st⟩ ⟨h1,h2,h3⟩ hN;have stc:=st.cons h3 (λy hy e=>by
   have hb:=st.blk y hy;rw[e,h3] at hb;have ht:y.2.2=229:=by injection hb with hb;injection hb with _ hb;exact hb.symm
   rcases List.mem_cons.1 hy with rfl|hy
   .exact absurd ht (show(161:TypeId)≠229 by decide)
   .exact hT d y hy ht)
  refine wpIn_mono (hbody l' pre x c d W h1 hN h2 h stc) ?_;have hB:=st.blk _ (List.mem_cons_self ..);have fin:∀W',(∃d,X (pre++[x]) d W'/\St w0 (slB Bw s L.length cap::bl d) (λ_=>True) W')->KpL [slB Bw s L.length cap] s L W W':=λW' ⟨d',_,st'⟩=>⟨λy hy=>by
   have hy':y=slB Bw s L.length cap:=by simpa using hy
   subst hy';exact(st'.blk _ (List.mem_cons_self ..)).trans hB.symm,λ_=>hR0.aWu aH st'.below⟩
  intro e a' W' hq;cases e with
  |normal=>exact⟨hq.1,fin W' hq.2,hq.2⟩
  |ret=>exact hq
  |exit id=>exact hq
  |goto t=>exact hq.elim
  |panic ch=>exact hq.elim
  |outgrown=>exact hq.elim
 case done=>
  rintro D xs W hD rfl ⟨d,h,st⟩ hK;have st':=st.less _ (List.sublist_cons_self _ _);exact hdone D d W (dR hw0 hD) h st' hK (tR d D W (dR hw0 hD) st' hK)
 case stop=>
  rintro D c pre W hD hp ⟨d,h,st⟩ hK;have st':=st.less _ (List.sublist_cons_self _ _);exact wpIn_wide.2 (hstop D c pre d W (dR hw0 hD) h st' hK (tR d D W (dR hw0 hD) st' hK))
def aNb (L:List dQ):Prop:=∃v,L=[⟨⟨#[97]⟩,v⟩]/\aLk v
def dQ.Sm (x:dQ):Prop:=x.name.size<=100000/\x.val.size<=100000
attribute [local go_sem] Oper.semAt_some
theorem gG (L:List dQ)(hS:∀x∈L,x.Sm)(hlen:L.length<=1000000)(s:Option Addr)(cap:Nat)(w:World)(hG:aQ w)(hL:Rd 2 cO w s L):
  Calls prog 109 #[.slice s L.length cap] w λe w'=>(∃b:Bool,e=.returned (.bool b)/\(aNb L->b=true))/\Below w.heap.size w w':=by
 obtain⟨n,hn⟩:∃n,L.length=n:=⟨_,rfl⟩;have HN:=aA hn;rw[hn]
 by_cases h0:n=0
 .subst h0;go_enter func109,ntmps109;go_wp2_with fail;refine wp_scope_straight ?_;go_wp2_with fail;rw[Exit.noGoto_ret];go_ret;exact⟨⟨false,rfl,λ⟨v,h,_⟩=>by rw[h] at hn;cases hn⟩,aW⟩
 have h0':¬(n:Int)=0:=by omega
 by_cases h6:6<n
 .have h6':6<(n:Int):=by omega
  go_enter func109,ntmps109;go_wp2_with fail;refine wp_scope_straight ?_;go_wp2_with fail;rw[Exit.noGoto_ret];go_ret;exact⟨⟨false,rfl,λ⟨v,h,_⟩=>by rw[h] at hn;simp at hn;omega⟩,aW⟩
 have hq0:((n:Int)==0)=false:=by simp;exact h0
 have hq6:decide (6<(n:Int))=false:=by simp;omega
 have HG:=aA hG;have HS:=aA hS;have hL':=aA hL;have st0:=((St.start w).alloc (cs:= #[.bool true]) (T:=4)).alloc (cs:= #[.string ⟨#[]⟩]) (T:=9);simp only[World.size_alloc] at st0;clear hG hS hL hn h0 h0' h6;refine(callsIn_wide (n:=5)).1 ?_;refine callsIn_of_wp_marks func109 rfl trivial ?_ rfl;simp only[ntmps109,List.size_toArray,List.length_cons,List.length_nil,Nat.reduceAdd,Nat.reduceSub,Array.replicate_succ,Array.replicate_zero,List.push_toArray,List.append_toArray,List.nil_append,List.cons_append];refine wpIn_wide.2 ?_;go_wp2_with fail;refine wp_scope_straight ?_;go_wp2_with fail;refine wp_label ?_;have hz1:((w.alloc (.cells #[.bool true] 4)).alloc (.cells #[.string ⟨#[]⟩] 9)).heap.size=w.heap.size+2:=by simp
 generalize(w.alloc (.cells #[.bool true] 4)).alloc (.cells #[.string ⟨#[]⟩] 9)=w1 at*;have HZ1:=aA hz1;clear hz1;go_wp2_with fail;refine(tQ s n cap w1).mono ?_;rintro e w2 ⟨rfl,rfl⟩;have st2:=st0.alloc (cs:= #[.slice s n cap]) (T:=161);go_wp2_with fail;rw[<-HN.out] at st2⊢;refine uG (w0:=w) (by have:=st2.below.size;simpa using this) L hlen s cap hL'.out w1.heap.size rfl rfl (λpre (d:ByteArray×Bool) _=>(pre=[]->d.1=⟨#[]⟩)/\d.2=true) (λc _ d _=>c=Code.exit 0/\¬aNb L/\d.2=false)
  (λd=>[(w.heap.size+1,#[.string d.1],9),(w.heap.size,#[.bool d.2],4)]) (λ_ _ _ _ _ h _ _=>h) (λ_ _ _ _ _ _ h _ _=>h) (λd y hy=>by simp at hy;rcases hy with rfl|rfl<;>simp) (⟨#[]⟩,true) ⟨λ_=>rfl,rfl⟩ st2
  (λx c=>{tmps:= #[.slice s L.length cap,undef,.bool false,pv w.heap.size 0,pv (w.heap.size+1) 0,pv c 0,.slice s L.length cap,.int .i64 L.length,.bool false,.bool false,.slice s L.length cap,.int .i64 L.length,.bool false,.bool false,.slice s L.length cap,.func (.func 197) #[] #[pv w1.heap.size 0],aIt x,undef,undef,undef,undef,undef,undef,undef,undef,undef,undef,undef,undef,undef,undef,undef,undef,undef,undef,undef],defers:=[]}) ?assign ?body ?done ?stop
 case assign=>
  intro l x W K hK;have HK:=aA hK;clear hK;gi_wp2_with fail;exact HK.out
 case body=>
  rintro l pre ⟨xn,xv⟩ c ⟨d,dt⟩ W hx hN hc0 ⟨hX,hdt⟩ st;simp only at hX hdt;subst hdt;have hs:=HS.out _ hx;have HX:=aA (show aNb L->pre=[]/\xn=⟨#[97]⟩/\aLk xv/\d=⟨#[]⟩ from λ⟨v,h,hv⟩=>by
   rw[h] at hN hx;have hp:pre=[]:=List.eq_nil_of_length_eq_zero (by simpa using hN);simp at hx;obtain⟨rfl,rfl⟩:=hx;exact⟨hp,rfl,hv,hX hp⟩)
  have hz:w.heap.size+1<W.heap.size:=aC (st.blk (w.heap.size+1,#[.string d],9) (by simp));clear hx hN hX st2;have rl:=st.rl;have HNM:=aA (λW'=>aIq xn (by have:=hs.1;simp only at this;omega) W');have HVL:=aA (λW' (hW:Below w.heap.size w W')=>aC3 xv (by have:=hs.2;simp only at this;omega) W' (HG.out.aWu hW));clear hs;gi_wp2_with fail;refine⟨trivial,(CallsIn.inRound l (callsIn_wide.2 (HNM.out _))).mono ?_⟩;rintro e w3 ⟨⟨b,rfl,hb⟩,hb3⟩;have st3:=st.to hb3;have HB:=aA hb;clear hb rl;have rl:=st3.rl;have hstop:∀W',Below W.heap.size W W'->St w [aVd c ⟨xn,xv⟩,slB w1.heap.size s L.length cap,(w.heap.size+1,#[.string d],9),(w.heap.size,#[.bool true],4)] (λ_=>True) W'->¬aNb L->KeepsOthers W (W'.setCell ⟨w.heap.size,0,none⟩ (.bool false))/\∃d':ByteArray×Bool,(¬aNb L/\d'.2=false)/\St w (slB w1.heap.size s L.length cap::[(w.heap.size+1,#[.string d'.1],9),(w.heap.size,#[.bool d'.2],4)]) (λ_=>True) (W'.setCell ⟨w.heap.size,0,none⟩ (.bool false)):=λW' hW st' hno=>by
   have st5:=St.sx (st'.less _ (List.sublist_cons_self _ _)) 2 (A:=w.heap.size) rfl (o:=0) (v:=.bool false) aH;exact⟨(aX hW).trans (KeepsOthers.setCell W' ⟨w.heap.size,0,none⟩ (.bool false)),(d,false),⟨hno,rfl⟩,st5⟩
  have HST:=aA hstop;have HB3:=aA hb3;have HT3:=aA st3;clear hstop hb3 st;cases b with
  |false=>
   gi_wp2_with fail;refine⟨trivial,?_⟩;gi_wp2_with fail;obtain⟨k1,d',⟨k2,k3⟩,k4⟩:=HST.out _ HB3.out HT3.out (λh=>by have:=HB.out (HX.out h).2.1;cases this);exact⟨k1,d',⟨rfl,k2,k3⟩,k4⟩
  |true=>
  obtain⟨q,hq⟩:∃q,(Op.bytesLess xn.toList d.toList||xn.toList==d.toList)=q:=⟨_,rfl⟩;cases q with
  |true=>
   gi_wp2_with fail;refine⟨trivial,?_⟩;gi_wp2_with fail;obtain⟨k1,d',⟨k2,k3⟩,k4⟩:=HST.out _ HB3.out HT3.out (λh=>by obtain⟨-,h1,-,h2⟩:=HX.out h;subst h1;subst h2;revert hq;decide+kernel);exact⟨k1,d',⟨rfl,k2,k3⟩,k4⟩
  |false=>
   gi_wp2_with fail;refine⟨trivial,(CallsIn.inRound l (callsIn_wide.2 (HVL.out _ st3.below))).mono ?_⟩;rintro e w4 ⟨⟨b2,rfl,hb2⟩,hb4⟩;have st4:=st3.to hb4;have HB2:=aA hb2;have HB4:=aA (HB3.out.trans (hb4.mono HB3.out.size));have HT4:=aA st4;clear hb2 rl st3 hb4 hq;have rl:=st4.rl;cases b2 with
   |false=>
    gi_wp2_with fail;obtain⟨k1,d',⟨k2,k3⟩,k4⟩:=HST.out _ HB4.out HT4.out (λh=>by have:=HB2.out (HX.out h).2.2.1;cases this);exact⟨k1,d',⟨rfl,k2,k3⟩,k4⟩
   |true=>
    gi_wp2_with fail;have st5:=St.sx (HT4.out.less _ (List.sublist_cons_self _ _)) 1 (A:=w.heap.size+1) rfl (o:=0) (v:=.string xn) (Nat.le_succ _);exact⟨(aX HB4.out).trans (KeepsOthers.setCell w4 ⟨w.heap.size+1,0,none⟩ (.string xn)),(xn,true),⟨λh=>by simp at h,rfl⟩,st5⟩
 case done=>
  rintro D ⟨d,dt⟩ W hD ⟨-,hdt⟩ st9 hK hput;simp only at hdt;subst hdt;have rl:=st9.rl;go_wp2_with fail;refine⟨by simp,.inl ⟨_,_,rfl,run_takeDeferred hK,?_⟩⟩;exact⟨_,by simp[results,results109,go_sem],⟨true,rfl,λ_=>rfl⟩,(hput _).below⟩
 case stop=>
  rintro D c pre ⟨d,dt⟩ W hD ⟨rfl,hno,hdt⟩ st9 hK hput;simp only at hdt;subst hdt;have rl:=st9.rl;go_wp2_with fail;refine⟨by simp,.inl ⟨_,_,rfl,run_takeDeferred hK,?_⟩⟩;exact⟨_,by simp[results,results109,go_sem],⟨false,rfl,λh=>absurd h hno⟩,(hput _).below⟩
end
section
def bA :dQ:=⟨⟨#[97]⟩,⟨#[120]⟩⟩
def mW (Q:Bool->Prop)(e:Ending):Prop:=∃b:Bool,e=.returned (.bool b)/\Q b
def aV5 (L:List dQ)(nm v:ByteArray)(b:Bool):Prop:=(b=true->∃x∈L,v=x.val)/\(L=[bA]/\nm=⟨#[97]⟩->v=⟨#[120]⟩/\b=true)
def aVz (L:List dQ)(nm:ByteArray)(e:Ending):Prop:=∃(v:ByteArray) (b:Bool),e=.returned (.tuple #[.string v,.bool b])/\aV5 L nm v b
def aVw (L:List dQ)(nm:ByteArray)(pre:List dQ)(d:ByteArray×Bool)(_:World):Prop:=d=(⟨#[]⟩,false)/\(L=[bA]/\nm=⟨#[97]⟩->pre=[])
def aUp (L:List dQ)(c:Code)(_:List dQ)(d:ByteArray×Bool)(_:World):Prop:=c=Code.ret/\d.2=true/\(∃x∈L,d.1=x.val)/\(L=[bA]->d.1=⟨#[120]⟩)
attribute [local go_sem] Oper.semAt_some
theorem aMj (L:List dQ)(hlen:L.length<=1000000)(s:Option Addr)(cap:Nat)(nm:ByteArray)(w:World)(hL:Rd 2 cO w s L):
  Calls prog 200 #[.slice s L.length cap,.string nm] w λe w'=>aVz L nm e/\Below w.heap.size w w':=by
 have hL':=aA hL;have st0:=((((St.start w).alloc (cs:= #[.string nm]) (T:=9)).alloc (cs:= #[.string ⟨#[]⟩]) (T:=9)).alloc (cs:= #[.bool false]) (T:=4)).alloc (cs:= #[.slice s L.length cap]) (T:=161);simp only[World.size_alloc] at st0;clear hL;refine(callsIn_wide (n:=5)).1 ?_;refine callsIn_of_wp_marks func200 rfl trivial ?_ rfl;simp only[ntmps200,List.size_toArray,List.length_cons,List.length_nil,Nat.reduceAdd,Nat.reduceSub,Array.replicate_succ,Array.replicate_zero,List.push_toArray,List.append_toArray,List.nil_append,List.cons_append];refine wpIn_wide.2 ?_;go_wp2_with fail;have hz1:(((w.alloc (.cells #[.string nm] 9)).alloc (.cells #[.string ⟨#[]⟩] 9)).alloc (.cells #[.bool false] 4)).heap.size=w.heap.size+1+1+1:=by simp
 have HZ1:=aA hz1;clear hz1;generalize((w.alloc (.cells #[.string nm] 9)).alloc (.cells #[.string ⟨#[]⟩] 9)).alloc (.cells #[.bool false] 4)=w1 at*;refine(tQ s L.length cap w1).mono ?_;rintro e w2 ⟨rfl,rfl⟩;rw[HZ1.out];go_wp2_with fail;refine uG (w0:=w) (by simpa using st0.below.size) L hlen s cap hL'.out (w.heap.size+1+1+1) rfl rfl
  (aVw L nm) (aUp L)
  (λd=>[(w.heap.size+1+1,#[.bool d.2],4),(w.heap.size+1,#[.string d.1],9),(w.heap.size,#[.string nm],9)]) (λ_ _ _ _ _ h _ _=>h) (λ_ _ _ _ _ _ h _ _=>h) (λd y hy=>by simp at hy;rcases hy with rfl|rfl|rfl<;>simp) (⟨#[]⟩,false) ⟨rfl,λ_=>rfl⟩ st0
  (λx c=>{tmps:= #[.slice s L.length cap,.string nm,undef,pv w.heap.size 0,pv (w.heap.size+1) 0,pv (w.heap.size+1+1) 0,pv c 0,.slice s L.length cap,.func (.func 197) #[] #[pv (w.heap.size+1+1+1) 0],aIt x,undef,undef,undef,undef,undef,undef],defers:=[]}) ?assign ?body ?done ?stop
 case assign=>
  intro l x W K hK;have HK:=aA hK;clear hK;gi_wp2_with fail;exact HK.out
 case body=>
  rintro l pre ⟨xn,xv⟩ c ⟨d,dt⟩ W hx hN hc0 ⟨hX,hp⟩ st;cases hX;have HX:=aA hx;have HONE:=aA (show L=[bA]->xn=⟨#[97]⟩/\xv=⟨#[120]⟩ from λh=>by
   rw[h] at hx;simp[bA] at hx;exact hx)
  have hz:w.heap.size+1+1<W.heap.size:=aC (st.blk (w.heap.size+1+1,#[.bool false],4) (by simp));clear hx hN hp st0;have rl:=st.rl;obtain⟨q,hq⟩:∃q,(xn.toList==nm.toList)=q:=⟨_,rfl⟩;have HQ:=aA hq;cases q with
  |true=>
   gi_wp2_with fail;have st5:=St.sx (st.less _ (List.sublist_cons_self _ _)) 2 (A:=w.heap.size+1) rfl (o:=0) (v:=.string xv) (by omega);have st6:=st5.sx 1 (A:=w.heap.size+1+1) rfl (o:=0) (v:=.bool true) (by omega);exact⟨(KeepsOthers.setCell W ⟨w.heap.size+1,0,none⟩ (.string xv)).trans (KeepsOthers.setCell _ ⟨w.heap.size+1+1,0,none⟩ (.bool true)),(xv,true),⟨rfl,rfl,⟨_,HX.out,rfl⟩,λh=>(HONE.out h).2⟩,st6⟩
  |false=>
   gi_wp2_with fail;exact⟨KeepsOthers.refl _,(⟨#[]⟩,false),⟨rfl,λh=>by have h1:=HQ.out;rw[(HONE.out h.1).1,h.2] at h1;exact absurd h1 (by decide+kernel)⟩,st.less _ (List.sublist_cons_self _ _)⟩
 case done=>
  rintro D ⟨d,dt⟩ W hD ⟨hX,hp⟩ st9 hK hput;cases hX;have rl:=st9.rl;go_wp2_with fail;have st5:=st9.aW5 1 (A:=w.heap.size+1) rfl (o:=0) (v:=.string ⟨#[]⟩) (by omega);have st6:=st5.sx 0 (A:=w.heap.size+1+1) rfl (o:=0) (v:=.bool false) (by omega);have hDD:((W.setCell ⟨w.heap.size+1,0,none⟩ (.string ⟨#[]⟩)).setCell ⟨w.heap.size+1+1,0,none⟩ (.bool false)).heap[D]? =some (.deferred (some [])):=((KeepsOthers.setCell W ⟨w.heap.size+1,0,none⟩ (.string ⟨#[]⟩)).trans (KeepsOthers.setCell _ ⟨w.heap.size+1+1,0,none⟩ (.bool false))).same _ _ hK rfl;have hput6:∀o',St w _ (λ_=>True) (World.putObj _ D o'):=λo'=>st6.own (base:=w.heap.size) (grownBy_putObj' _ D o') (λr e=>by cases e;exact⟨hD,_,hDD,rfl⟩) aH;have rl6:=λo'=>(hput6 o').rl;refine⟨by simp,.inl ⟨_,_,rfl,run_takeDeferred hDD,?_⟩⟩;exact⟨_,by simp[results,results200,go_sem,rl6],⟨⟨#[]⟩,false,rfl,λh=>(by cases h),λh=>(by have:=hp h;rw[h.1] at this;cases this)⟩,(hput6 _).below⟩
 case stop=>
  rintro D c pre ⟨d,dt⟩ W hD ⟨rfl,hdt,hm,hone⟩ st9 hK hput;simp only at hdt hm hone;subst hdt;have rl:=st9.rl;go_wp2_with fail;have rl9:=λo'=>(hput o').rl;refine⟨by simp,.inl ⟨_,_,rfl,run_takeDeferred hK,?_⟩⟩;exact⟨_,by simp[results,results200,go_sem,rl9],⟨d,true,rfl,λ_=>hm,λh=>⟨hone h.1,rfl⟩⟩,(hput _).below⟩
theorem wW (L M:List dQ)(hl:L.length<=1000000)(hm:M.length<=1000000)(s t:Option Addr)(c d:Nat)(w:World)(hL:Rd 2 cO w s L)(hM:Rd 2 cO w t M):
  Calls prog 110 #[.slice s L.length c,.slice t M.length d] w λe w'=>mW (λ_=>True) e/\Below w.heap.size w w':=by
 have HL:=aA hL;have HM:=aA hM;clear hL hM;go_enter func110,ntmps110;go_wp2_with fail
 go_loopw [10] (λi wr=>∃k:Nat,k<=L.length/\k<=M.length/\i=.int .i64 k/\Below w.heap.size w wr) (λi _=>L.length-(intOf i).toNat)
 case atStart=>exact⟨0,cJ _,cJ _,rfl,aW⟩
 case round=>
  obtain⟨k,hk,hkm0,rfl,hb⟩:=hrel
  by_cases hlt:k<L.length
  .obtain⟨x,hx⟩:∃x,L[k]? =some x:=⟨_,cZ hlt⟩;obtain⟨g,o,rfl,hg,hc1,hc2⟩:=uA (HL.out.aWu aH hb) hx;have hb2:=hb.alloc hb.size (.cells #[.string x.name,.string x.val] 229)
   by_cases hkm:k=M.length
   .subst hkm;go_wp2_with fail;go_ret;exact⟨⟨_,rfl,trivial⟩,hb2⟩
   .have hkl:k<M.length:=by omega
    obtain⟨y,hy⟩:∃y,M[k]? =some y:=⟨_,cZ hkl⟩;obtain⟨g',o',rfl,hg',hd1,hd2⟩:=uA (HM.out.aWu aH hb2) hy;have hkm':¬(k:Int)=(M.length:Int):=by omega
    have hb3:=hb2.alloc hb2.size (.cells #[.string y.name,.string y.val] 229);obtain⟨xn,xv⟩:=x;obtain⟨yn,yv⟩:=y;clear hx hy;go_wp2_with fail
    .refine⟨⟨k+1,by omega,by omega,by go_num,hb3⟩,?_⟩;simp[intOf];omega
    .go_ret;exact⟨⟨_,rfl,trivial⟩,hb3⟩
    .go_ret;exact⟨⟨_,rfl,trivial⟩,hb3⟩
  .obtain rfl:k=L.length:=by omega
   go_wp2_with fail;go_ret;exact⟨⟨_,rfl,trivial⟩,hb⟩
end
theorem aF9 (s:ByteArray)(hs:s.size<=100000)(w:World)(hG:aQ w):Calls prog 79 #[.string s] w λe w'=>mW (λb=>s=⟨#[97]⟩->b=true) e/\Below w.heap.size w w':=by
 have hal:=(Below.refl w.heap.size w).alloc aH (.cells #[.string s,.string ⟨#[]⟩] 229);have hR:=aA (gG [⟨s,⟨#[]⟩⟩] (by intro x hx;simp at hx;subst hx;exact⟨hs,by show(0:Nat)<=100000;omega⟩) (by simp) (some ⟨w.heap.size,0,none⟩) 1 _ (hG.aWu hal) (Rd.aW2 (L:=[⟨s,⟨#[]⟩⟩]) cE (kH w (.cells #[.string s,.string ⟨#[]⟩] 229)) rfl));clear hG;go_enter func79,ntmps79;go_wp2_with fail;refine hR.out.mono ?_;rintro e w1 ⟨⟨b,rfl,hb⟩,hb1⟩;have h:=hal.trans (hb1.mono hal.size);have HB:=aA hb;clear hR hb;go_wp2_with fail;go_ret;exact⟨⟨b,rfl,λe=>HB.out (by subst e;exact⟨_,rfl,.inr rfl⟩)⟩,h⟩
theorem aFj (s:ByteArray)(hs:s.size<=100000)(w:World)(hG:aQ w):Calls prog 170 #[.string s] w λe w'=>mW (λb=>aLk s->b=true) e/\Below w.heap.size w w':=by
 have hal:=(Below.refl w.heap.size w).alloc aH (.cells #[.string ⟨#[97]⟩,.string s] 229);have hR:=aA (gG [⟨⟨#[97]⟩,s⟩] (by intro x hx;simp at hx;subst hx;exact⟨by show(1:Nat)<=100000;omega,hs⟩) (by simp) (some ⟨w.heap.size,0,none⟩) 1 _ (hG.aWu hal) (Rd.aW2 (L:=[⟨⟨#[97]⟩,s⟩]) cE (kH w (.cells #[.string ⟨#[97]⟩,.string s] 229)) rfl));clear hG;go_enter func170,ntmps170;go_wp2_with fail;refine hR.out.mono ?_;rintro e w1 ⟨⟨b,rfl,hb⟩,hb1⟩;have h:=hal.trans (hb1.mono hal.size);have HB:=aA hb;clear hR hb;go_wp2_with fail;go_ret;exact⟨⟨b,rfl,λe=>HB.out ⟨_,rfl,e⟩⟩,h⟩
inductive Sg where
 |any|one|that (c:Nat)
def gH :Sg->List Value
 | .any=>[.iface 319 (.agg #[])]
 | .one=>[.iface 320 (.agg #[])]
 | .that c=>[.iface 317 (.agg #[.int .i32 (c:Int)])]
theorem eY (x:Sg):(gH x).length=1:=by cases x<;>rfl
theorem pI (x:Sg):∀v∈gH x,v.oneCell'=true:=by intro v hv;cases x<;>(simp[gH] at hv;subst hv;rfl)
theorem aCa :eM prog 251 410 1 16:=eM.mk (z:=.nilIface) underlying251 (by kernel_rfl) rfl (by decide)
def SgP (p:ByteArray)(e:Ending)(w':World):Prop:=∃(d:Hd) (S:List Sg) (ok:Bool),e=.returned (.tuple #[d.v S.length,.bool ok])/\bS 1 gH w' d S/\S.length<=p.size/\(p=⟨#[120]⟩->ok=true/\S=[.that 120])
def SgI (p:ByteArray)(w1:World)(t u:Value)(wr:World):Prop:=∃(v:Value) (pos:Nat) (S:List Sg) (q:Bool),v=t/\u=.bool q/\wr.heap[w1.heap.size]? =some (.stringIter p pos)/\Below w1.heap.size w1 wr/\S.length<=pos/\S.length<=p.size/\aL 1 gH 410 wr (w1.heap.size+1) t S/\(p=⟨#[120]⟩->q=false/\(pos=0->S=[])/\(0<pos->S=[.that 120]))
theorem aAn (p:ByteArray)(hs:p.size<=100000)(w:World)(hG:aQ w):Calls prog 126 #[.string p] w λe w'=>SgP p e w'/\Below w.heap.size w w':=by
 have HV:=aA (aFj p hs w hG);clear hG;go_enter func126,ntmps126;go_wp2_with fail;refine HV.out.mono ?_;rintro e w1 ⟨⟨b,rfl,hb⟩,hb1⟩;have HB:=aA hb;clear HV hb;cases b with
 |false=>
  go_wp2_with fail;go_ret2;exact⟨⟨⟨none,0⟩,[],false,rfl,bS.none _,cJ _,λh=>by have:=HB.out (.inl h);cases this⟩,hb1⟩
 |true=>
 go_wp2_with fail
 go_loopw [4,5] (λt u wr=>SgI p w1 t u wr) (λ_ _ wr=>p.size-wr.iterPos w1.heap.size)
 case atStart=>exact⟨_,0,[],false,rfl,rfl,World.iter_heap _ _ _,aW.alloc aH _,aH,cJ _,aL.nil _ _,λ_=>⟨rfl,λ_=>rfl,λh=>absurd h (by decide)⟩⟩
 case round=>
  obtain⟨t,pos,S,q,rfl,rfl,hit,hbw,hl1,hl2,hown,hx⟩:=hrel
  by_cases hp:pos<p.size
  .have hnx:∀ty,(Instr.next (pv w1.heap.size 0) true ty).run prog wr=_:=λty=>Lib.run_next_any_at wr w1.heap.size p pos ty hit hp;have hwd:=jR p pos hp;have hit2:=Lib.iterAt_heap wr w1.heap.size p pos (pos+(Utf8.decode p pos).2) hit;have hbw2:=Lib.below_iterAt hbw (Nat.le_refl w1.heap.size) p (pos+(Utf8.decode p pos).2);have hown2:aL 1 gH 410 (wr.iterAt w1.heap.size p (pos+(Utf8.decode p pos).2)) (w1.heap.size+1) t S:=hown.other ⟨rfl,rfl,rfl,by rw[Lib.iterAt_size];exact aH,λj _ hj=>Lib.iterAt_other wr w1.heap.size j p _ (λe=>hj (by rw[e]))⟩ (by omega);have hz2:w1.heap.size+1<=(wr.iterAt w1.heap.size p (pos+(Utf8.decode p pos).2)).heap.size:=aC hit2;have hk:p=⟨#[120]⟩->(Utf8.decode p pos).1=120/\q=false/\S=[]:=by
    rintro rfl;obtain⟨h1,h2,h3⟩:=hx rfl;have:pos=0:=by have:(⟨#[120]⟩:ByteArray).size=1:=rfl;omega
    subst this;exact⟨by decide,h1,h2 rfl⟩
   generalize wr.iterAt w1.heap.size p (pos+(Utf8.decode p pos).2)=w2 at*;generalize(Utf8.decode p pos).2=wd at*;generalize(Utf8.decode p pos).1=rn at*;have HK:=aA hk;have hm0:wr.iterPos w1.heap.size=pos:=by simp[World.iterPos,hit]
   have hsl:S.length+1<=pos+wd:=by omega
   have hsz:S.length+1<=p.size:=by omega
   have HP:=aA (aB hb1 (aB hl1 (aB hl2 (aB hsl (aB hsz hs)))));have FIN:∀(c:Sg) (v':Value) (w':World) (S':List Sg),(p=⟨#[120]⟩->S=[]/\c=.that 120)->S'=S++[c]->aL 1 gH 410 w' (w1.heap.size+1) v' S'->KeepsOthers w2 w'->Below w1.heap.size w1 w'->SgI p w1 v' (.bool false) w'/\p.size-w'.iterPos w1.heap.size<p.size-wr.iterPos w1.heap.size:=by
    intro c v' w' S' hc e o k b;subst e;have hi:=k.same _ _ hit2 rfl;refine⟨⟨v',pos+wd,_,false,rfl,rfl,hi,b,by simp;omega,by simp;omega,o,λh=>⟨rfl,λh0=>by omega,λ_=>by rw[(hc h).1,(hc h).2];rfl⟩⟩,?_⟩;simp[World.iterPos,hi,hit];omega
   have HF:=aA FIN;have stw:=(St.start w1).to hbw2;have HST:=aA stw;have HO:=aA hown2;have HI2:=aA hit2;clear FIN hbw hk hx hit hit2 hown hown2 stw hl1 hl2 hsl hsz hs hb1;cases q with
   |true=>
    go_wp2_with(at_builtin;refine fI aCa eY pI rfl (.tmp 24) (.tmp 28) rfl (w1.heap.size+1) t S (.that rn) rfl HST.out HO.out (by omega) (by simp) hz2 _ rfl w2.heap.size rfl rfl (by have:=HP.out;omega) (by decide) ?_;intro v' w' ap);have HAP:=aA ap;clear ap;go_wp2_with fail;go_roundw
    case rel=>exact(HF.out (.that rn) v' w' _ (λh=>by have:=(HK.out h).2.1;cases this) rfl HAP.out.own HAP.out.others HAP.out.st.below).1
    case measure=>exact(HF.out (.that rn) v' w' _ (λh=>by have:=(HK.out h).2.1;cases this) rfl HAP.out.own HAP.out.others HAP.out.st.below).2
   |false=>
    by_cases h42:rn=42
    .subst h42;go_wp2_with(at_builtin;refine fI aCa eY pI rfl (.tmp 33) (.tmp 36) rfl (w1.heap.size+1) t S (.any) rfl HST.out HO.out (by omega) (by simp) hz2 _ rfl w2.heap.size rfl rfl (by have:=HP.out;omega) (by decide) ?_;intro v' w' ap);have HAP:=aA ap;clear ap;go_wp2_with fail;go_roundw
     case rel=>exact(HF.out (.any) v' w' _ (λh=>by have:=(HK.out h).1;omega) rfl HAP.out.own HAP.out.others HAP.out.st.below).1
     case measure=>exact(HF.out (.any) v' w' _ (λh=>by have:=(HK.out h).1;omega) rfl HAP.out.own HAP.out.others HAP.out.st.below).2
    by_cases h63:rn=63
    .subst h63;go_wp2_with(at_builtin;refine fI aCa eY pI rfl (.tmp 41) (.tmp 44) rfl (w1.heap.size+1) t S (.one) rfl HST.out HO.out (by omega) (by simp) hz2 _ rfl w2.heap.size rfl rfl (by have:=HP.out;omega) (by decide) ?_;intro v' w' ap);have HAP:=aA ap;clear ap;go_wp2_with fail;go_roundw
     case rel=>exact(HF.out (.one) v' w' _ (λh=>by have:=(HK.out h).1;omega) rfl HAP.out.own HAP.out.others HAP.out.st.below).1
     case measure=>exact(HF.out (.one) v' w' _ (λh=>by have:=(HK.out h).1;omega) rfl HAP.out.own HAP.out.others HAP.out.st.below).2
    by_cases h126:rn=126
    .subst h126;go_wp2_with fail;go_roundw
     case rel=>exact⟨t,pos+wd,S,true,rfl,rfl,HI2.out,HST.out.below,by have:=HP.out;omega,by have:=HP.out;omega,HO.out,λh=>by have:=(HK.out h).1;omega⟩
     case measure=>rw[hm0,show w2.iterPos w1.heap.size=pos+wd by simp[World.iterPos,HI2.out]];omega
    have h42':¬(rn:Int)=42:=by omega
    have h63':¬(rn:Int)=63:=by omega
    have h126':¬(rn:Int)=126:=by omega
    go_wp2_with(at_builtin;refine fI aCa eY pI rfl (.tmp 16) (.tmp 20) rfl (w1.heap.size+1) t S (.that rn) rfl HST.out HO.out (by omega) (by simp) hz2 _ rfl w2.heap.size rfl rfl (by have:=HP.out;omega) (by decide) ?_;intro v' w' ap);have HAP:=aA ap;clear ap;go_wp2_with fail;go_roundw
    case rel=>exact(HF.out (.that rn) v' w' _ (λh=>⟨(HK.out h).2.2,by rw[(HK.out h).1]⟩) rfl HAP.out.own HAP.out.others HAP.out.st.below).1
    case measure=>exact(HF.out (.that rn) v' w' _ (λh=>⟨(HK.out h).2.2,by rw[(HK.out h).1]⟩) rfl HAP.out.own HAP.out.others HAP.out.st.below).2
  .have hnx:∀ty,(Instr.next (pv w1.heap.size 0) true ty).run prog wr=_:=λty=>Lib.run_next_end_at wr w1.heap.size p pos ty hit hp;have HBW:=aA (hb1.trans (hbw.mono hb1.size));obtain⟨d,rfl,hd,_⟩:=bS.aXa eY hown;have HD:=aA hd;have HX:=aA hx;have hp0:p=⟨#[120]⟩->0<pos:=by rintro rfl;have:(⟨#[120]⟩:ByteArray).size=1:=rfl;omega
   clear hit hbw hown hd hx hs hb1 hl1;simp only[Hd.v];cases q with
   |true=>
    go_wp2_with fail;go_ret2;exact⟨⟨⟨none,0⟩,[],false,rfl,bS.none _,cJ _,λh=>by have:=(HX.out h).1;cases this⟩,HBW.out⟩
   |false=>
    go_wp2_with fail;go_ret2;exact⟨⟨d,S,true,rfl,HD.out,hl2,λh=>⟨rfl,(HX.out h).2.2 (hp0 h)⟩⟩,HBW.out⟩
theorem yP (p:ByteArray)(hs:p.size<=100000)(w:World)(hG:aQ w):Calls prog 80 #[.string p] w λe w'=>mW (λb=>p=⟨#[120]⟩->b=true) e/\Below w.heap.size w w':=by
 have HS:=aA (aAn p hs w hG);clear hG;go_enter func80,ntmps80;go_wp2_with fail;refine HS.out.mono ?_;rintro e w1 ⟨⟨d,S,ok,rfl,_,_,h⟩,hb⟩;have H:=aA h;clear HS h;simp only[Hd.v];go_wp2_with fail;go_ret;exact⟨⟨ok,rfl,λe=>(H.out e).1⟩,hb⟩
section
variable {len m:Nat} {W:World}
theorem aC4 :prog.underlying 381=some (.map 3 318):=underlying381
theorem aTe (w:World):(zeroValue 318).run prog w=.ok (.agg #[]) w:=by kernel_rfl
abbrev aVe (W:World)(m n:Nat)(D:DataW Unit):Prop:=W.ownsMap prog 3 unitElem m n D
abbrev kI (z:Nat):Lit:=.int .i64 z
theorem aS2 (z:Nat)(hz:z<=1000000):keyOf prog 3 (.int .i64 z)=some (kI z):=Maps.keyOf_int_mk underlying3 (WalkArith.wf_i64 (by omega))
def Pl (len:Nat)(D:DataW Unit):Prop:=∃es,D=.map es/\∀p∈es,∃z:Nat,z<len+1/\p.1=kI z
theorem pig :∀(n:Nat) (l:List Lit),l.Pairwise (·≠·)->(∀x∈l,∃z:Nat,z<n/\x=kI z)->l.length<=n
 |0,[],_,_=>aH
 |0,x::_,_,h=>by obtain⟨z,hz,_⟩:=h x (by simp);omega
 |n+1,l,hp,h=>by
  by_cases hm:kI n∈l
  .obtain⟨s,t,rfl⟩:=List.append_of_mem hm;have hp2:(s++t).Pairwise (·≠·):=hp.sublist (List.Sublist.append (List.Sublist.refl s) (List.sublist_cons_self _ _));have:=pig n (s++t) hp2 (λx hx=>by
    obtain⟨z,hz,e⟩:=h x (by simp at hx⊢;rcases hx with hx|hx<;>simp[hx]);refine⟨z,?_,e⟩;have hne:x≠kI n:=by
     rw[List.pairwise_append] at hp;simp at hx;rcases hx with hx|hx
     .exact hp.2.2 x hx _ (by simp)
     .exact λe=>(List.pairwise_cons.1 hp.2.1).1 x hx e.symm
    have:z≠n:=λez=>hne (by rw[e,ez]);omega)
   simp at this⊢;omega
  .have:=pig n l hp (λx hx=>by
    obtain⟨z,hz,e⟩:=h x hx;refine⟨z,?_,e⟩;have:z≠n:=λez=>hm (by rw[<-ez,<-e];exact hx);omega)
   omega
theorem aQx (z:Nat)(hz:z<=1000000):WideAt.IsKeyLit (kI z):=bQ.key (aS2 z hz)
def PM (W:World)(m len:Nat)(D:DataW Unit):Prop:=aVe W m (len+1) D/\Pl len D
theorem PM.fit {n:Nat}{D:DataW Unit}(h:aVe W m n D)(hp:Pl len D):PM W m len D:=by
 obtain⟨es,clock,hb,F,hs,hD⟩:=h;refine⟨⟨es,clock,hb,F,?_,hD⟩,hp⟩;obtain⟨es0,hD0,hpl⟩:=hp;obtain⟨es',h1,h2,_⟩:=(World.ownsMap.entries (P:=prog) (w:=W) (b:=m) (n:=n) (D:=D) ⟨es,clock,hb,F,hs,hD⟩ bQ);have e0:es0=es':=by rw[h1] at hD0;cases hD0;rfl
 subst e0;have hl:es0.length=es.size:=by
  have:es0=(es.toList.map (WideElems.rg prog 3 unitElem)).foldr DataW.insert []:=by rw[hD] at h1;cases h1;rfl
  rw[this,Go.length_sorted];simp
 have:=pig (len+1) (es0.map (·.1)) (List.pairwise_map.2 h2) (λx hx=>by
  obtain⟨p,hp,rfl⟩:=List.mem_map.1 hx;exact hpl p hp)
 simp at this;omega
theorem Pl.put {D:DataW Unit}(h:Pl len D)(z:Nat)(hz:z<=len)(d:DataW Unit):Pl len (D.put (kI z) d):=by
 obtain⟨es,rfl,hp⟩:=h;refine⟨_,rfl,λp hm=> ?_⟩;rcases List.mem_cons.1 ((WideShapes.insert_perm _ _).mem_iff.1 hm) with rfl|hm
 .exact⟨z,by omega,rfl⟩
 .exact hp p (List.mem_filter.1 hm).1
theorem PM.upd {D:DataW Unit}(h:PM W m len D)(z:Nat)(hz:z<=len)(hlen:len<=1000000):∃W',(Instr.mapUpdate 381 (.map (some m)) (.int .i64 z) (.agg #[])).run prog W=.ok () W'/\PM W' m len (D.put (kI z) (.agg []))/\W.grownBy W' (some m):=by
 obtain⟨w1,h1,o1,g1⟩:=h.1.update bQ aC4 (by unfold maxLen;omega) (aS2 z (by omega)) (val:=.agg #[]) unitElem_mk;exact⟨w1,h1,PM.fit o1 (h.2.put z hz _),g1⟩
theorem PM.kept {W':World}{D:DataW Unit}{row:Option Nat}(h:PM W m len D)(hg:W.grownBy W' row)(hr:some m≠row):PM W' m len D:=⟨World.ownsMap.kept h.1 hg hr,h.2⟩
theorem PM.aWu {W':World}{D:DataW Unit}(h:PM W m len D)(hb:Below W.heap.size W W'):PM W' m len D:=h.kept (aU hb none) (by simp)
theorem PM.made (W:World)(len:Nat):PM (W.alloc (.map #[] 0)) W.heap.size len (.map []):=⟨(World.ownsMap_made W prog 3 (unitElem (H:=Unit))).mono (cJ _),[],rfl,by simp⟩
theorem PM.blk {D:DataW Unit}(h:PM W m len D):∃es c,W.heap[m]? =some (.map es c):=by
 obtain⟨⟨es,clock,hb,_⟩,_⟩:=h;exact⟨es,clock,hb⟩
theorem PM.lt {D:DataW Unit}(h:PM W m len D):m<W.heap.size:=by
 obtain⟨es,c,hb⟩:=h.blk;exact aC hb
theorem PM.key {D:DataW Unit}(h:PM W m len D){x:Int}(hx:Maps.has D (.int .i64 x)=true):∃z:Nat,z<=len/\x=(z:Int):=by
 obtain⟨es,rfl,hp⟩:=h.2;rw[Maps.has_eq] at hx;obtain⟨p,hm,hk⟩:=List.any_eq_true.1 hx;obtain⟨z,hz,e⟩:=hp p hm;rw[e] at hk;have:=WideAt.sameKey_eq hk;cases this;exact⟨z,by omega,rfl⟩
theorem PM.aX9 {D:DataW Unit}(h:PM W m len D):Maps.IsMap D:=h.2.imp λ_ h=>h.1
theorem PM.aXz {D:DataW Unit}(h:PM W m len D)(z:Nat)(hz:z<=1000000):Maps.has (D.put (kI z) (.agg [])) (kI z)=true:=Maps.has_put_same h.aX9 (aQx z hz) _
theorem PM.aXj {D:DataW Unit}(h:PM W m len D)(z:Nat)(hz:z<=1000000)(k:Lit)(hk:Maps.has D k=true):Maps.has (D.put (kI z) (.agg [])) k=true:=by
 by_cases e:k=kI z
 .rw[e];exact h.aXz z hz
 .rw[Maps.has_put_other e];exact hk
theorem Rd.aXg {α:Type}{k:Nat}{enc:α->List Value}(hk:∀x,0<(enc x).length){W W':World}{s:Option Addr}{L:List α}{m:Nat}(r:Rd k enc W s L)(hm:∃es c,W.heap[m]? =some (.map es c))(hg:W.grownBy W' (some m)):Rd k enc W' s L:=by
 intro i x hx;obtain⟨g,o,e,hlt,hc⟩:=r i x hx;refine⟨g,o,e,kG hlt hg.size,λj u hj=> ?_⟩;have hc0:=hc j u hj;rw[<-hc0];have hne:g≠m:=by
  rintro rfl;obtain⟨es,c,hb⟩:=hm;simp[World.cell?,hb] at hc0
 simp only[World.cell?,hg.block g hlt (by simpa using hne)]
def sgV :Sg->Value
 | .any=>.iface 319 (.agg #[])
 | .one=>.iface 320 (.agg #[])
 | .that c=>.iface 317 (.agg #[.int .i32 (c:Int)])
theorem aSe {s:Option Addr}{S:List Sg}(h:Rd 1 gH W s S){i:Nat}{y:Sg}(hy:S[i]? =some y):∃g o,s=some ⟨g,o,none⟩/\W.cell? ⟨g,o+i,none⟩=some (sgV y):=by
 obtain⟨g,o,e,hg,hc⟩:=h i y hy;refine⟨g,o,e,?_⟩;have:=hc 0 (sgV y) (by cases y<;>rfl)
 simpa using this
def Sg.isA :Sg->Bool
 | .any=>true
 |_=>false
@[go_sem] theorem aWp (w:World):(Instr.typeAssert (.iface 319 (.agg #[])) 410 319 true).run prog w=.ok (.tuple #[.agg #[],.bool true]) w:=by kernel_rfl
@[go_sem] theorem aWi (w:World):(Instr.typeAssert (.iface 320 (.agg #[])) 410 319 true).run prog w=.ok (.tuple #[.agg #[],.bool false]) w:=by kernel_rfl
@[go_sem] theorem aWj (v:Value)(w:World):(Instr.typeAssert (.iface 317 v) 410 319 true).run prog w=.ok (.tuple #[.agg #[],.bool false]) w:=by kernel_rfl
@[go_sem] theorem aWo (w:World):(Instr.typeAssert (.iface 320 (.agg #[])) 410 320 true).run prog w=.ok (.tuple #[.agg #[],.bool true]) w:=by kernel_rfl
@[go_sem] theorem aWn (v:Value)(w:World):(Instr.typeAssert (.iface 317 v) 410 320 true).run prog w=.ok (.tuple #[.agg #[],.bool false]) w:=by kernel_rfl
@[go_sem] theorem aWt (v:Value)(w:World):(Instr.typeAssert (.iface 317 v) 410 317 false).run prog w=.ok v w:=by kernel_rfl
@[go_sem] theorem aU7 (c:Int)(w:World):(Instr.field 317 (.agg #[.int .i32 c]) 0).run prog w=.ok (.int .i32 c) w:=by kernel_rfl
theorem pE (y:Sg)(w:World):Calls prog 236 #[sgV y] w λe w'=>e=.returned (.bool y.isA)/\w'=w:=by
 cases y<;>simp only[sgV,Sg.isA]
 all_goals
  go_enter func236,ntmps236;go_wp2_with fail;go_ret;exact⟨rfl,rfl⟩
theorem aKc (y:Sg)(hy:y.isA=false)(c:Nat)(w:World):Calls prog 237 #[sgV y,.int .i32 (c:Int)] w λe w'=>mW (λb=>y=.that c->b=true) e/\Below w.heap.size w w':=by
 cases y with
 |any=>cases hy
 |one=>
  simp only[sgV];go_enter func237,ntmps237;go_wp2_with fail;exact bodyPost_ret (v:=.bool true) (by simp[results,results237,go_sem]) rfl ⟨⟨_,rfl,λ_=>rfl⟩,aW.alloc aH _⟩
 |that d=>
  simp only[sgV];go_enter func237,ntmps237;go_wp2_with fail;refine bodyPost_ret (v:=.bool (decide ((d:Int)=(c:Int)))) (by simp[results,results237,go_sem];exact(by by_cases h:(d:Int)=(c:Int)<;>simp[h])) rfl ⟨⟨_,rfl,λh=> ?_⟩,aW.alloc aH _⟩;cases h;simp
def aRx (W:World)(m len at_:Nat)(D:DataW Unit):Prop:=∃D',PM W m len D'/\(∀k,Maps.has D k=true->Maps.has D' k=true)/\Maps.has D' (kI at_)=true
theorem tN (S:List Sg)(hlen:S.length<=100000)(m at_:Nat)(hat:at_<=S.length)(D:DataW Unit)(s:Option Addr)(cap:Nat)(w:World)(hM:PM w m S.length D)(hR:Rd 1 gH w s S):
  Calls prog 226 #[.map (some m),.slice s S.length cap,.int .i64 at_] w λe w'=>e=.returned (.tuple #[])/\aRx w' m S.length at_ D/\w.grownBy w' (some m):=by
 obtain⟨w1,h1,o1,g1⟩:=hM.upd at_ hat (by omega);have hR1:=Rd.aXg (λx=>by rw[eY];decide) hR hM.blk g1;have H0:aRx w1 m S.length at_ D:=⟨_,o1,λk hk=>hM.aXj at_ (by omega) k hk,hM.aXz at_ (by omega)⟩;clear hM hR o1;go_enter func226,ntmps226;go_wp2_with fail
 go_loopw [2] (λi wr=>∃k:Nat,k<=S.length/\i=.int .i64 k/\aRx wr m S.length at_ D/\Rd 1 gH wr s S/\w.grownBy wr (some m)) (λi _=>S.length-(intOf i).toNat)
 case atStart=>exact⟨at_,hat,rfl,H0,hR1,g1⟩
 case round=>
  clear H0 hR1 g1 h1;obtain⟨k,hk,rfl,HD,hR,hg⟩:=hrel
  by_cases hlt:k<S.length
  .obtain⟨y,hy⟩:∃y,S[k]? =some y:=⟨_,cZ hlt⟩;obtain⟨g,o,rfl,hc⟩:=aSe hR hy;obtain⟨q,hq⟩:∃q,y.isA=q:=⟨_,rfl⟩;cases q with
   |true=>
    obtain⟨D',o2,h2,h3⟩:=HD;obtain⟨w2,u1,u2,u3⟩:=o2.upd (k+1) (by omega) (by omega);have HN:aRx w2 m S.length at_ D:=⟨_,u2,λx hx=>o2.aXj (k+1) (by omega) x (h2 x hx),o2.aXj (k+1) (by omega) _ h3⟩;have HR2:=Rd.aXg (λx=>by rw[eY];decide) hR o2.blk u3;have HG2:w.grownBy w2 (some m):=hg.andThen u3 (λj e=>.inr e);rw[Int.natCast_add,Int.cast_ofNat_Int] at u1;have HH:=aA (aB HN (aB HR2 HG2));clear HN HR2 HG2 o2 h2 h3 u2 u3 hR hg hy;go_wp2_with fail;refine(pE y _).mono ?_;rw[hq];rintro e w3 ⟨rfl,rfl⟩;go_wp2_with fail;go_roundw
    case rel=>exact⟨k+1,hlt,by go_num,HH.out⟩
    case measure=>simp[intOf];omega
   |false=>
    have HH:=aA (aB HD hg);clear HD hg hR hy;go_wp2_with fail;refine(pE y _).mono ?_;rw[hq];rintro e w3 ⟨rfl,rfl⟩;go_wp2_with fail
    first|go_end0|refine bodyPost_ret (results_none rfl _ _ _) rfl ?_
    exact⟨rfl,HH.out⟩
  .obtain rfl:k=S.length:=by omega
   have HH:=aA (aB HD hg);clear HD hg hR;go_wp2_with fail
   first|go_end0|refine bodyPost_ret (results_none rfl _ _ _) rfl ?_
   exact⟨rfl,HH.out⟩
end
theorem aS0 {W W':World}{m r n:Nat}{D:DataW Unit}{left:Lit->Bool}{cnt:Nat}(h:W.ranges prog 3 unitElem m r n D left cnt)(hb:W'.heap[m]? =W.heap[m]?)(hr:W'.heap[r]? =W.heap[r]?):W'.ranges prog 3 unitElem m r n D left cnt:=by
 obtain⟨es,clock,since,seen,c0,h1,h2,h3,h4,h5,h6⟩:=h;exact⟨es,clock,since,seen,c0,hb.trans h1,h2,h3,h4,hr.trans h5,h6⟩
def aWf (S:List Sg)(D:DataW Unit)(c:Nat)(e:Ending)(w':World):Prop:=∃m' D',e=.returned (.map (some m'))/\PM w' m' S.length D'/\(S=[.that c]/\Maps.has D (kI 0)=true->Maps.has D' (kI 1)=true)
theorem vC {W0 W W':World}{m:Nat}(h:Below W0.heap.size W0 W)(hg:W.grownBy W' (some m))(hm:W0.heap.size<=m):Below W0.heap.size W0 W':=h.grown hg h.size (λk e=>by cases e;exact hm)
theorem aGx (S:List Sg)(hlen:S.length<=100000)(m:Nat)(D:DataW Unit)(s:Option Addr)(cap c:Nat)(w:World)(hM:PM w m S.length D)(hR:Rd 1 gH w s S):
  Calls prog 227 #[.map (some m),.slice s S.length cap,.int .i32 (c:Int)] w λe w'=>aWf S D c e w'/\Below w.heap.size w w':=by
 have hmm:= @run_makeMap prog;have o0:=PM.made w S.length;have b0:=(Below.refl w.heap.size w).alloc aH (.map #[] 0);have hM1:=hM.aWu b0;have hR1:=hR.aWu aH b0;have hz0:(w.alloc (.map #[] 0)).heap.size=w.heap.size+1:=by simp
 have hmw:m<w.heap.size:=hM.lt;clear hM hR;go_enter func227,ntmps227;go_wp2_with(first
  |(at_range;refine wpList_range_own _ rfl _ 381 rfl 3 318 bQ aC4 _ m (S.length+1) _ rfl hM1.1 ?_;intro w2 hrg2 hg2 hs2)
  |fail)
 rw[hz0] at hrg2 hs2;have o2:PM w2 w.heap.size S.length (.map []):=o0.kept hg2 (by simp);have b2:Below w.heap.size w w2:=b0.grown hg2 b0.size (λk e=>by cases e);have hR2:Rd 1 gH w2 s S:=hR1.aWu aH (aW.grown hg2 aH (λk e=>by cases e));have HMK:=aA hM1;clear o0 hM1 b0 hg2 hR1 hmm;go_frame;simp only[World.size_alloc];clear hz0
 go_loopw [] (λwr=>∃(left:Lit->Bool) (cnt:Nat) (D':DataW Unit),wr.ranges prog 3 unitElem m (w.heap.size+1) (S.length+1) D left cnt/\(∀k,left k=true->Maps.has D k=true)/\PM wr w.heap.size S.length D'/\Rd 1 gH wr s S/\Below w.heap.size w wr/\(S=[.that c]/\Maps.has D (kI 0)=true->left (kI 0)=true\/Maps.has D' (kI 1)=true)) (λwr=>wr.rangeLeft m (w.heap.size+1))
 case atStart=>exact⟨_,_,_,hrg2,λ_ h=>h,o2,hR2,b2,λh=>.inl h.2⟩
 case round=>
  clear hrg2 o2 hR2 b2 hs2;obtain⟨left,cnt,D',hrg,hsub,o2,hR,b2,hx⟩:=hrel;go_wp2_with(first
   |(at_next;refine wpList_next_ranges _ rfl _ rfl 3 bQ unitElem (Value.int .i64) (λ_:Unit=>Value.agg #[]) (λkey kl hkey=>by obtain⟨x,rfl,_⟩:=Maps.keyOf_int_inv underlying3 hkey;exact⟨x,rfl⟩) (λv y hv=>⟨(),(unitElem_inv hv).1⟩) m (w.heap.size+1) (S.length+1) _ _ _ rfl hrg ?_ ?_)
   |fail)
  .intro _ hl;have HX:=aA (aB hx hl);clear hrg hsub hR hx hl;go_wp2_with fail;go_ret;exact⟨⟨_,_,rfl,o2,λh=>by
    have h1:=HX.out.1 h;rw[HX.out.2 (kI 0)] at h1;rcases h1 with h1|h1
    .cases h1
    .exact h1⟩,b2⟩
  .intro x _ kl y w3 cnt3 hkey hleft hv hat hrg3 hlt hg3 hs3 hen;obtain⟨x',ex,rfl,hwx⟩:=Maps.keyOf_int_inv underlying3 hkey;cases ex;obtain⟨z,hz,rfl⟩:=HMK.out.key (hsub _ hleft);have hms:wr.rangeLeft m (w.heap.size+1)=cnt:=hrg.left_eq;have o3:PM w3 w.heap.size S.length D':=o2.kept hg3 (by simp);have b3:Below w.heap.size w w3:=b2.grown hg3 b2.size (λk e=>by cases e;omega);have hR3:Rd 1 gH w3 s S:=by
    intro i u hu;obtain⟨g,o,e,hg,hc⟩:=hR i u hu;refine⟨g,o,e,kG hg hg3.size,λj v hj=> ?_⟩;have hc0:=hc j v hj;rw[<-hc0];have hne:g≠w.heap.size+1:=by
     rintro rfl;obtain⟨es,clock,since,seen,c0,h1,h2,h3,h4,h5,h6⟩:=hrg;simp[World.cell?,h5] at hc0
    simp only[World.cell?,hg3.block g hg (by simpa using hne)]
   have hsub3:∀k,(left k&& !k.sameKey (.int .i64 z))=true->Maps.has D k=true:=λk hk=>hsub k (by simp at hk;exact hk.1);have hx3:z≠0->(S=[.that c]/\Maps.has D (kI 0)=true->(left (kI 0)&& !(kI 0).sameKey (.int .i64 z))=true\/Maps.has D' (kI 1)=true):=by
    intro hz0 h;rcases hx h with h1|h1
    .left;rw[h1,Maps.sameKey_ne (by intro e;cases e;exact hz0 rfl)];rfl
    .exact .inr h1
   have HX3:=aA hx3;have FIN:∀(w6:World) (D6:DataW Unit),PM w6 w.heap.size S.length D6->Rd 1 gH w6 s S->Below w.heap.size w w6->w6.heap[m]? =w3.heap[m]? ->w6.heap[w.heap.size+1]? =w3.heap[w.heap.size+1]? ->(∀k,Maps.has D' k=true->Maps.has D6 k=true)->(z=0->S=[.that c]->Maps.has D6 (kI 1)=true)->
     (∃(left:Lit->Bool) (cnt:Nat) (D':DataW Unit),w6.ranges prog 3 unitElem m (w.heap.size+1) (S.length+1) D left cnt/\(∀k,left k=true->Maps.has D k=true)/\PM w6 w.heap.size S.length D'/\Rd 1 gH w6 s S/\Below w.heap.size w w6/\(S=[.that c]/\Maps.has D (kI 0)=true->left (kI 0)=true\/Maps.has D' (kI 1)=true))/\w6.rangeLeft m (w.heap.size+1)<wr.rangeLeft m (w.heap.size+1):=by
    intro w6 D6 p6 r6 b6 hm6 hr6 hD6 hz6;have g6:=aS0 hrg3 hm6 hr6;refine⟨⟨_,_,D6,g6,hsub3,p6,r6,b6,λh=> ?_⟩,by rw[g6.left_eq,hms];exact hlt⟩
    by_cases h0:z=0
    .exact .inr (hz6 h0 h.1)
    .exact(HX3.out h0 h).imp id (hD6 _)
   have HF:=aA FIN;have HO3:=aA (aB o3 (aB b3 hR3));have hms3:w.heap.size+1<w3.heap.size:=hrg3.lt;clear FIN hms hrg hrg3 hsub hsub3 hx hx3 hkey hleft hv hat hwx o2 o3 b2 b3 hR hg3 hs3 hlt
   by_cases hze:z=S.length
   .have hze':(z:Int)=(S.length:Int):=by omega
    clear hR3;go_wp2_with fail;have FF:=HF.out w3 D' HO3.out.1 HO3.out.2.2 HO3.out.2.1 rfl rfl (λ_ h=>h) (λh0 hS=>by rw[hS] at hze;simp at hze;omega);go_roundw
    case rel=>exact FF.1
    case measure=>exact FF.2
   have hze':¬(z:Int)=(S.length:Int):=by omega
   have hzl:z<S.length:=by omega
   obtain⟨y,hy⟩:∃y,S[z]? =some y:=⟨_,cZ hzl⟩;obtain⟨g,o,rfl,hc⟩:=aSe hR3 hy;have HY:=aA hy;obtain⟨q,hq⟩:∃q,y.isA=q:=⟨_,rfl⟩;clear hR3 hy;cases q with
   |true=>
    go_wp2_with fail;refine(pE y _).mono ?_;rw[hq];rintro e w4 ⟨rfl,rfl⟩;go_wp2_with fail;refine(tN S hlen w.heap.size z (by omega) D' _ _ _ HO3.out.1 HO3.out.2.2).mono ?_;rintro e w6 ⟨rfl,⟨D6,p6,hD6,hz6⟩,g6⟩;have FF:=HF.out w6 D6 p6 (Rd.aXg (λx=>by rw[eY];decide) HO3.out.2.2 HO3.out.1.blk g6) (vC HO3.out.2.1 g6 aH) (g6.block m (by omega) (by simp;omega)) (g6.block _ hms3 (by simp)) hD6 (λh0 hS=>by have:=HY.out;rw[hS,h0] at this;simp at this;subst this;cases hq);have HFF:=aA FF;clear FF p6 hD6 hz6 g6 hc;go_wp2_with fail;go_roundw
    case rel=>exact HFF.out.1
    case measure=>exact HFF.out.2
   |false=>
    go_wp2_with fail;refine(pE y _).mono ?_;rw[hq];rintro e w4 ⟨rfl,rfl⟩;go_wp2_with fail;refine(aKc y hq c _).mono ?_;rintro e w5 ⟨⟨b,rfl,hb⟩,hb5⟩;have HB:=aA hb;have HO5:=aA (aB (HO3.out.1.aWu hb5) (aB (HO3.out.2.1.trans (hb5.mono HO3.out.2.1.size)) (HO3.out.2.2.aWu aH hb5)));have hm5:w5.heap[m]? =w4.heap[m]? :=hb5.block m (by omega);have hr5:w5.heap[w.heap.size+1]? =w4.heap[w.heap.size+1]? :=hb5.block _ hms3;have hz5:=hb5.size;have HM5:=aA (aB hm5 hr5);clear hb hb5 hc hm5 hr5;cases b with
    |false=>
     go_wp2_with fail;have FF:=HF.out w5 D' HO5.out.1 HO5.out.2.2 HO5.out.2.1 HM5.out.1 HM5.out.2 (λ_ h=>h) (λh0 hS=>by have:=HY.out;rw[hS,h0] at this;simp at this;have:=HB.out this.symm;cases this);go_roundw
     case rel=>exact FF.1
     case measure=>exact FF.2
    |true=>
     go_wp2_with fail;have hcast:((z:Int)+1)=((z+1:Nat):Int):=by omega
     try rw[hcast]
     refine(tN S hlen w.heap.size (z+1) (by omega) D' _ _ _ HO5.out.1 HO5.out.2.2).mono ?_;rintro e w6 ⟨rfl,⟨D6,p6,hD6,hz6⟩,g6⟩;have FF:=HF.out w6 D6 p6 (Rd.aXg (λx=>by rw[eY];decide) HO5.out.2.2 HO5.out.1.blk g6) (vC HO5.out.2.1 g6 aH) ((g6.block m (by omega) (by simp;omega)).trans HM5.out.1) ((g6.block _ (by omega) (by simp)).trans HM5.out.2) hD6 (λh0 hS=>by subst h0;exact hz6);have HFF:=aA FF;clear FF p6 hD6 hz6 g6;go_wp2_with fail;go_roundw
     case rel=>exact HFF.out.1
     case measure=>exact HFF.out.2
def aVi (p v:ByteArray)(S:List Sg)(s:Option Addr)(w:World)(k:Nat)(t:Value)(wr:World):Prop:=∃(m' pos:Nat) (D':DataW Unit),t=.map (some m')/\wr.heap[k]? =some (.stringIter v pos)/\PM wr m' S.length D'/\Rd 1 gH wr s S/\Below w.heap.size w wr/\(p=⟨#[120]⟩/\v=⟨#[120]⟩->(pos=0->Maps.has D' (kI 0)=true)/\(0<pos->Maps.has D' (kI S.length)=true))
theorem aPq (p v:ByteArray)(hs:p.size<=100000)(hv:v.size<=100000)(w:World)(hG:aQ w):
  Calls prog 201 #[.string p,.string v] w λe w'=>mW (λb=>p=⟨#[120]⟩/\v=⟨#[120]⟩->b=true) e/\Below w.heap.size w w':=by
 have hmm:= @run_makeMap prog;have HS:=aA (aAn p hs w hG);have HG:=aA hG;clear hG;go_enter func201,ntmps201;go_wp2_with fail;refine wp_scope_straight ?_;go_wp2_with fail;refine HS.out.mono ?_;rintro e w1 ⟨⟨⟨s,cap⟩,S,ok,rfl,hd,hl,hx⟩,hb1⟩;have HRn:=aA (tK v (by omega) w1 (HG.out.aWu hb1));have HX:=aA hx;clear HS hx;simp only[Hd.v];cases ok with
 |false=>
  clear hd hl hs hv;go_wp2_with fail;rw[Exit.noGoto_ret];go_ret;exact⟨⟨false,rfl,λh=>by have:=(HX.out h.1).1;cases this⟩,hb1⟩
 |true=>
 go_wp2_with fail;refine HRn.out.mono ?_;rintro e w2 ⟨⟨n,b,rfl,hn,hr⟩,hb2⟩;have HR:=aA hr;have hb:=hb1.trans (hb2.mono hb1.size);have hrd:Rd 1 gH w2 s S:=hd.rd.aWu aH hb2;clear HRn hr hd hn;cases b with
 |false=>
  clear hrd hl hs hv;go_wp2_with fail;rw[Exit.noGoto_ret];go_ret;exact⟨⟨false,rfl,λh=>by
   have:=(HR.out (λc hc e=>by rw[h.2,aDl] at hc;simp at hc;omega)).1;cases this⟩,hb⟩
 |true=>
 have hbm:=(Below.refl w2.heap.size w2).alloc aH (.map #[] 0);have HP:=aA (tN S (by omega) w2.heap.size 0 (cJ _) (.map []) s cap _ (PM.made w2 S.length) (hrd.aWu aH hbm));have HQ:=aA (aB hbm (aB hb hrd));clear hb1 hb2 hb hrd hbm;go_wp2_with fail;refine HP.out.mono ?_;rintro e w3 ⟨rfl,⟨D3,p3,_,h3⟩,g3⟩;have hbB:Below w.heap.size w w3:=HQ.out.2.1.trans ((HQ.out.1.grown g3 HQ.out.1.size (λk e=>by cases e;exact aH)).mono HQ.out.2.1.size);have hr3:Rd 1 gH w3 s S:=Rd.aXg (λx=>by rw[eY];decide) (HQ.out.2.2.aWu aH HQ.out.1) (PM.made w2 S.length).blk g3;have hal:Below w3.heap.size w3 (w3.iter v 0):=(Below.refl w3.heap.size w3).alloc aH (.stringIter v 0);have hkw:w.heap.size<=w3.heap.size:=hbB.size;have HI:aVi p v S s w w3.heap.size (.map (some w2.heap.size)) (w3.iter v 0):=⟨_,0,D3,rfl,World.iter_heap _ _ _,p3.aWu hal,hr3.aWu aH hal,hbB.trans (hal.mono hkw),λ_=>⟨λ_=>h3,λh=>absurd h (by decide)⟩⟩;clear HP p3 h3 g3 hbB hr3 hal HQ;go_wp2_with fail;refine wp_label ?_;go_wp2_with fail;generalize w3.iter v 0=v0 at*;generalize w3.heap.size=k at*;have TAIL:∀(m' pos:Nat) (D':DataW Unit) (W:World),PM W m' S.length D'->∃b,(Instr.lookup 381 (.map (some m')) (.int .i64 S.length) true).run prog W=.ok (.tuple #[.agg #[],.bool b]) W/\b=Maps.has D' (kI S.length):=by
  intro m' pos D' W hM;obtain⟨u,ps,hlk,hu⟩:=World.ownsMap.look_ok hM.1 bQ aC4 (aTe _) (zp:=[]) unitElem_mk (aS2 S.length (by omega));obtain⟨rfl,_⟩:=unitElem_inv hu;exact⟨_,hlk,rfl⟩
 have HT:=aA TAIL;clear TAIL hmm
 go_loopw [9] (λt wr=>aVi p v S s w k t wr) (λ_ wr=>v.size-wr.iterPos k)
 case atStart=>exact HI
 case round=>
  clear HI;obtain⟨m,pos,D,rfl,hit,hM,hR,hb,hx⟩:=hrel
  by_cases hp:pos<v.size
  .have hnx:∀ty,(Instr.next (pv k 0) true ty).run prog wr=_:=λty=>Lib.run_next_any_at wr k v pos ty hit hp;have hwd:=jR v pos hp;have hit2:=Lib.iterAt_heap wr k v pos (pos+(Utf8.decode v pos).2) hit;have hb2:=Lib.below_iterAt hb hkw v (pos+(Utf8.decode v pos).2);have hgI:wr.grownBy (wr.iterAt k v (pos+(Utf8.decode v pos).2)) (some k):=⟨rfl,rfl,rfl,by rw[Lib.iterAt_size];exact aH,λj _ hj=>Lib.iterAt_other wr k j v _ (λe=>hj (by rw[e]))⟩;have hmk:m≠k:=by rintro rfl;obtain⟨es,c,hm⟩:=hM.blk;rw[hit] at hm;cases hm
   have hM2:=hM.kept hgI (by simpa using hmk);have hR2:Rd 1 gH (wr.iterAt k v (pos+(Utf8.decode v pos).2)) s S:=by
    intro i u hu;obtain⟨g,o,e,hg,hc⟩:=hR i u hu;refine⟨g,o,e,kG hg hgI.size,λj z hj=> ?_⟩;have hc0:=hc j z hj;rw[<-hc0];have hne:g≠k:=by rintro rfl;simp[World.cell?,hit] at hc0
    simp only[World.cell?,hgI.block g hg (by simpa using hne)]
   have hk:p=⟨#[120]⟩/\v=⟨#[120]⟩->S=[.that (Utf8.decode v pos).1]/\Maps.has D (kI 0)=true:=by
    rintro⟨h1,rfl⟩;have:pos=0:=by have:(⟨#[120]⟩:ByteArray).size=1:=rfl;omega
    subst this;exact⟨by rw[(HX.out h1).2];rfl,(hx ⟨h1,rfl⟩).1 rfl⟩
   have hm0:wr.iterPos k=pos:=by simp[World.iterPos,hit]
   generalize wr.iterAt k v (pos+(Utf8.decode v pos).2)=w4 at*;generalize(Utf8.decode v pos).2=wd at*;generalize(Utf8.decode v pos).1=rn at*;have HBH:=aA (aGx S (by omega) m D s cap rn w4 hM2 hR2);have HH:=aA (aB hit2 (aB hb2 (aB hR2 (aB hk (aB hwd (aB hm0 hp))))));clear hit hM hR hb hx hit2 hb2 hgI hM2 hR2 hk hwd;go_wp2_with fail;refine HBH.out.mono ?_;rintro e w5 ⟨⟨m5,D5,rfl,p5,h5⟩,hb5⟩;have hi5:=(hb5.block k (aC HH.out.1)).trans HH.out.1;have hbW:=HH.out.2.1.trans (hb5.mono HH.out.2.1.size);have HE:Hid (p=⟨#[120]⟩/\v=⟨#[120]⟩->Maps.has D5 (kI S.length)=true):=λh=>by
    have h1:=HH.out.2.2.2.1 h;have h2:=h5 h1;rw[h1.1];exact h2
   have HI5:=aA (aB hi5 (aB hbW (HH.out.2.2.1.aWu aH hb5)));have P5:=aA p5;obtain⟨b5,hlk5,hbe5⟩:=HT.out m5 0 D5 w5 p5;have HBE:=aA hbe5;clear HBH h5 hb5 hi5 hbW hbe5
   by_cases hz:Maps.size D5=0
   .have hz':((Maps.size D5:Nat):Int)=0:=by omega
    go_wp2_with(first
     |(at_len;refine wpList_len_own _ rfl _ 381 rfl 3 318 aC4 _ m5 (S.length+1) _ rfl p5.1 ?_)
     |fail)
    rw[Exit.noGoto_ret];go_ret;exact⟨⟨_,rfl,λh=>by rw[HBE.out];exact HE h⟩,HI5.out.2.1⟩
   .have hz':¬((Maps.size D5:Nat):Int)=0:=by omega
    clear hlk5;go_wp2_with(first
     |(at_len;refine wpList_len_own _ rfl _ 381 rfl 3 318 aC4 _ m5 (S.length+1) _ rfl p5.1 ?_)
     |fail)
    go_roundw
    case rel=>exact⟨m5,pos+wd,D5,rfl,HI5.out.1,P5.out,HI5.out.2.2,HI5.out.2.1,λh=>⟨λh0=>by have:=HH.out.2.2.2.2.1;omega,λ_=>HE h⟩⟩
    case measure=>rw[show w5.iterPos k=pos+wd by simp[World.iterPos,HI5.out.1],HH.out.2.2.2.2.2.1];have:=HH.out;omega
  .have hnx:∀ty,(Instr.next (pv k 0) true ty).run prog wr=_:=λty=>Lib.run_next_end_at wr k v pos ty hit hp;obtain⟨b5,hlk5,hbe5⟩:=HT.out m 0 D wr hM;have HBE:=aA hbe5;have HE:Hid (p=⟨#[120]⟩/\v=⟨#[120]⟩->Maps.has D (kI S.length)=true):=λh=>(hx h).2 (by
    have h2:=h.2;subst h2;have:(⟨#[120]⟩:ByteArray).size=1:=rfl;omega)
   clear hbe5 hit hM hR hx;go_wp2_with fail;rw[Exit.noGoto_ret];go_ret;exact⟨⟨_,rfl,λh=>by rw[HBE.out];exact HE h⟩,hb⟩
end Go.Proofs.YtmgdbfmlnmahpaaGreatDoor
