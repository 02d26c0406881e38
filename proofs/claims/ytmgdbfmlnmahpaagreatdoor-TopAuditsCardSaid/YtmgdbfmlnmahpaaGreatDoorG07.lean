/- Part of TopAudits. -/
import Derived.Test.YtmgdbfmlnmahpaaGreatDoorG05
import Derived.Test.YtmgdbfmlnmahpaaGreatDoorG06
import Derived.LoopNIn
import Derived.LoopIn
import Derived.TacticsInMore
namespace Go.Proofs.YtmgdbfmlnmahpaaGreatDoor
set_option linter.unusedSimpArgs false
set_option linter.unusedVariables false
set_option maxRecDepth 100000
set_option maxHeartbeats 4000000
open Go.Proofs.Tryz
open Go.RowKit Go.Shelf
section
theorem aMg (w0:World)(L:List Nat)(s:Option Addr)(cap:Nat)(hlen:L.length<=1000000)(hL:dH w0 s L)(n:Nat)(hn:1<=n)(l Bl:Nat)(J Jx:List Nat->World->Prop)
  (hY:∀(pre:List Nat) (x:Nat) (W:World),J pre W->pre.length<L.length->YieldAt Fence.wide (n-1) prog l #[.int .u64 x] W λe W'=>
   (e=.returned (.bool true)/\J (pre++[x]) W'/\Below w0.heap.size W W')\/(e=.returned (.bool false)/\Jx (pre++[x]) W'))
  (W:World) (hW:Below w0.heap.size w0 W) (hB:W.cell? ⟨Bl,0,none⟩=some (.slice s L.length cap)) (h0:J [] W):
  CallsIn Fence.wide n prog 282 #[.func (.yield l) #[] #[],pv Bl 0] W λe W'=>(∃v,e=.returned v)/\
   ((∃xs,xs=L/\J xs W')\/(∃pre,pre<+:L/\Jx pre W')):=by
 refine callsIn_of_wp func282 rfl trivial ?_ rfl;simp only[ntmps282,List.size_toArray,List.length_cons,List.length_nil,Nat.reduceAdd,Nat.reduceSub,Array.replicate_succ,Array.replicate_zero,List.push_toArray,List.append_toArray,List.nil_append,List.cons_append];gi_wp2_with fail
 gi_loopw [7] (λi wr=>∃k:Nat,k<=L.length/\i=.int .i64 k/\Below w0.heap.size w0 wr/\J (L.take k) wr) (λi _=>L.length-(intOf i).toNat)
 case atStart=>exact⟨0,cJ _,rfl,hW,h0⟩
 case round=>
  clear hB;obtain⟨k,hk,rfl,hb,hJ⟩:=hrel
  by_cases hlt:k<L.length
  .obtain⟨x,hx⟩:∃x,L[k]? =some x:=⟨_,cZ hlt⟩;obtain⟨g,o,rfl,hg,hc⟩:=hL.at hx;have hc1:=(hb.cell (p:=⟨g,o+k,none⟩) hg).trans hc;have HS:Hid (L.take k++[x]=L.take (k+1)):=by show _=_;rw[List.take_add_one,hx];rfl
   obtain⟨fn,tmps,assign,body,hy,hR⟩:=hY (L.take k) x wr hJ (by rw[List.length_take];omega);clear hx hc;gi_wp2_with fail;refine hR.mono ?_;rintro e W3 (⟨rfl,hJ3,hk3⟩|⟨rfl,hJx3⟩)
   .rw[HS.out] at hJ3;have hb3:=hb.trans hk3;clear hy hR hc1 hJ hY HS hb hk3;gi_wp2_with fail;go_roundw
    case rel=>exact⟨k+1,hlt,by go_num,hb3,hJ3⟩
    case measure=>simp[intOf];omega
   .rw[HS.out] at hJx3;clear hy hR hc1 hJ hY HS;gi_wp2_with fail;refine bodyPost_ret (results_none rfl _ _ _) rfl ?_;exact⟨⟨_,rfl⟩,.inr ⟨_,List.take_prefix _ _,hJx3⟩⟩
  .obtain rfl:k=L.length:=by omega
   rw[List.take_of_length_le aH] at hJ;clear hY;gi_wp2_with fail;go_end0;exact⟨⟨_,rfl⟩,.inl ⟨_,rfl,hJ⟩⟩
theorem uJ (s:Option Addr)(n cap:Nat)(w:World):
  Calls prog 277 #[.slice s n cap] w λe w'=>e=.returned (.func (.func 282) #[] #[pv w.heap.size 0])/\w.alloc (.cells #[.slice s n cap] 41)=w':=by
 go_enter func277,ntmps277;go_wp2_with fail;go_ret;exact⟨rfl,rfl⟩
theorem aLb (s:Option Addr)(n cap:Nat)(w:World):
  Calls prog 274 #[.slice s n cap] w λe w'=>e=.returned (.func (.func 282) #[] #[pv w.heap.size 0])/\w.alloc (.cells #[.slice s n cap] 41)=w':=by
 go_enter func274,ntmps274;go_wp2_with fail;refine(uJ s n cap w).mono ?_;rintro e w1 ⟨rfl,rfl⟩;go_wp2_with fail;go_ret;exact⟨rfl,rfl⟩
theorem aCy (w0:World)(L:List Nat)(s:Option Addr)(cap:Nat)(hlen:L.length<=1000000)(hL:dH w0 s L)(n:Nat)(hn:1<=n)(Bl:Nat)(w:World)(hw:Below w0.heap.size w0 w)(hB:w.heap[Bl]? =some (.cells #[.slice s L.length cap] 41 (0,0))):
  SeqStopsK Fence.wide n prog 282 #[pv Bl 0] (λx:Nat=> #[Value.int .u64 x]) (λA B=>Below w0.heap.size A B) (λxs=>xs=L) (λpre=>pre<+:L) L.length w:=λl J Jx W hb _ _ hY h0=>
 aMg w0 L s cap hlen hL n hn l Bl J Jx hY W (hw.trans (hb.mono hw.size)) (aE ((hb.block _ (aC hB)).trans hB) 0) h0
theorem aBi {α:Type}{k:Nat}{enc:α->List Value}{W:World}{s:Option Addr}{L:List α}{b:Nat}{v:Value}{T:TypeId}(h:Rd k enc W s L)(hb:W.heap[b]? =some (.cells #[v] T (0,0)))(hv:∀x,∀u∈enc x,u≠v)(u:Value):Rd k enc (W.setCell ⟨b,0,none⟩ u) s L:=by
 intro i x hx;obtain⟨g,o,e,hg,hc⟩:=h i x hx;refine⟨g,o,e,by simpa[World.setCell] using hg,λj y hy=> ?_⟩;have hcy:=hc j y hy
 by_cases e':g=b
 .exfalso;subst e';rw[aE hb] at hcy;have hlt:=(Array.getElem?_eq_some_iff.1 hcy).1;simp at hlt;rw[hlt.1.1,hlt.1.2,hlt.2] at hcy;simp at hcy;exact hv x y (bK hy) hcy.symm
 .rw[<-hcy];simp only[World.cell?,Below.heap_setCell W ⟨b,0,none⟩ u g e']
theorem wV {α:Type}{k:Nat}{enc:α->List Value}(hk:∀x,(enc x).length=k)(hk0:0<k){W W':World}{row:Option Nat}{s:Option Addr}{L:List α}(h:Rd k enc W s L)(hg:W.grownBy W' row)(hrow:∀r,row=some r->∃o:Obj,W.heap[r]? =some o/\o.isCells=false):Rd k enc W' s L:=by
 intro i x hx;obtain⟨g,o,e,hgl,hc⟩:=h i x hx;have hne:some g≠row:=by
  intro e';obtain⟨ob,ho,hcl⟩:=hrow g e'.symm;obtain⟨u,hu⟩:∃u,(enc x)[0]? =some u:=⟨_,cZ (by rw[hk];exact hk0)⟩;have:=hc 0 u hu;simp only[World.cell?,ho] at this;cases ob<;>simp_all [Obj.isCells]
 have hb:=hg.block g hgl hne;exact⟨g,o,e,kG hgl hg.size,λj u hu=>by rw[<-hc j u hu];simp only[World.cell?,hb]⟩
def aTr (w:World)(L:List Nat)(e:Ending)(w':World):Prop:=
 ∃s cap,e=.returned (.tuple #[.agg #[.slice s L.length cap],.nilIface])/\L.length<=cap/\cap<=9223372036854775807/\(s=none->cap=0)/\uD w.heap.size s/\dH w' s L/\Below w.heap.size w w'
def StG (w:World)(b:Nat)(L:List Nat)(pre:List Nat)(W:World):Prop:=
 ∃s cap,St w [(b+1,#[.nilIface],137),(b,#[.slice s (aO L pre).length cap],41),(w.heap.size,#[.slice none 0 0],94)] (λ_=>True) W/\(aO L pre).length<=cap/\cap<=9223372036854775807/\(s=none->cap=0)/\uD w.heap.size s/\dH W s (aO L pre)
theorem StG.own (w:World)(b n:Nat)(L:List Nat)(hn:w.heap.size<=n):OwnFrom n (StG w b L):=by
 rintro pre A B row ⟨s,cap,h1,h2,h3,h4,h5,h6⟩ hg hr;exact⟨s,cap,h1.own hg hr hn,h2,h3,h4,h5,wV aY (by decide) h6 hg (λr e=>(hr r e).2)⟩
attribute [local go_sem] Oper.semAt_some
end
def yF (w:World)(L:List Nat)(e:Ending)(w':World):Prop:=
 ∃s cap,e=.returned (.tuple #[.agg #[.slice s L.length cap],.int .i64 0])/\L.length<=cap/\cap<=9223372036854775807/\(s=none->cap=0)/\uD w.heap.size s/\dH w' s L/\Below w.heap.size w w'
theorem aHw (L M:List Nat)(hl:L.length<=1000000)(hm:M.length<=1000000)(s t:Option Addr)(c d:Nat)(w:World)(hL:dH w s L)(hM:dH w t M)(r:Bool)(hr:r=true↔L=M):
  Calls prog 135 #[.agg #[.slice s L.length c],.agg #[.slice t M.length d]] w λe w'=>e=.returned (.bool r)/\Below w.heap.size w w':=by
 have st0:=((St.start w).alloc (cs:= #[.slice s L.length c]) (T:=94)).alloc (cs:= #[.slice t M.length d]) (T:=94);have hb0:=st0.below;have HR:=aA (aJp L M hl hm s t c d _ (hL.aWu aH hb0) (hM.aWu aH hb0) r hr);clear st0 hr;go_enter func135,ntmps135;go_wp2_with fail;refine HR.out.mono ?_;rintro e w1 ⟨rfl,hb1⟩;have hb2:=hb0.trans (hb1.mono hb0.size);clear HR hb0 hb1;go_wp2_with fail;go_ret;exact⟨rfl,hb2⟩
section
abbrev aAq :ByteArray:=⟨#[116,111,111,32,109,97,110,121,32,110,117,109,98,101,114,115]⟩
theorem aUc (n:Nat):∀l:List Nat,yM l->l.length<=(gT n l).length:=λl h=>by
 by_cases hm:n∈l
 .rw[oC n l h hm];exact aH
 .rw[oM n l hm];exact Nat.le_succ _
theorem xP :∀(b l:List Nat),yM l->l.length<=(aO l b).length
 |[],_,_=>aH
 |x::b,l,h=>dR (aUc x l h) (xP b (gT x l) (vO x l h))
theorem aLe (l:List Nat)(h:yM l)(a b:List Nat)(hp:a<+:b):(aO l a).length<=(aO l b).length:=by
 obtain⟨r,rfl⟩:=hp;have e:aO l (a++r)=aO (aO l a) r:=by simp[aO]
 rw[e];exact xP r _ (qX l h a)
def aQy (w:World)(L:List Nat)(e:Ending)(w':World):Prop:=
 (L.length<=64/\aTr w L e w')\/(64<L.length/\e=.returned (.tuple #[.agg #[.slice none 0 0],.iface 447 (.agg #[.string aAq])])/\Below w.heap.size w w')
def aQo (w:World)(b:Nat)(L:List Nat)(pre:List Nat)(W:World):Prop:=(aO L pre).length<=64/\StG w b L pre W
theorem aQo.own (w:World)(b n:Nat)(L:List Nat)(hn:w.heap.size<=n):OwnFrom n (aQo w b L):=by
 rintro pre A B row ⟨h0,h⟩ hg hr;exact⟨h0,StG.own w b n L hn pre A B row h hg hr⟩
def aRn (w:World)(b:Nat)(L:List Nat)(c:Code)(pre:List Nat)(W:World):Prop:=
 c=.exit 0/\64<(aO L pre).length/\∃s cap,St w [(b+1,#[.iface 447 (.agg #[.string aAq])],137),(b,#[.slice s (aO L pre).length cap],41),(w.heap.size,#[.slice none 0 0],94)] (λ_=>True) W
theorem aRn.own (w:World)(b n:Nat)(L:List Nat)(c:Code)(hn:w.heap.size<=n):OwnFrom n (aRn w b L c):=by
 rintro pre A B row ⟨h0,h1,s,cap,h⟩ hg hr;exact⟨h0,h1,s,cap,h.own hg hr hn⟩
attribute [local go_sem] Oper.semAt_some
theorem aJx (L M:List Nat)(ha:yM L)(s t:Option Addr)(c d:Nat)(hll:L.length<=64)(hml:M.length<=64)(hc:L.length<=c)(w:World)(hL:dH w s L)(hM:dH w t M):
  Calls prog 268 #[.slice s L.length c,.slice t M.length d] w (aQy w (aO L M)):=by
 refine(callsIn_wide (n:=5)).1 ?_;refine callsIn_of_wp_marks func268 rfl trivial ?_ rfl;simp only[ntmps268,List.size_toArray,List.length_cons,List.length_nil,Nat.reduceAdd,Nat.reduceSub,Array.replicate_succ,Array.replicate_zero,List.push_toArray,List.append_toArray,List.nil_append,List.cons_append];refine wpIn_wide.2 ?_;have st0:=(St.start w).alloc (cs:= #[.slice none 0 0]) (T:=94);go_wp2_with fail;refine wp_scope_straight ?_;go_wp2_with(first
  |(at_make;refine aT8 oK rfl (.tmp 10) (.tmp 10) rfl L.length rfl rfl st0 (by omega) (by decide) ?_;intro cs w2 st2 hb2 hcs;simp only[World.size_alloc] at st2;have st3:=st2.alloc (cs:= #[.slice (some ⟨w.heap.size+1,0,none⟩) L.length L.length]) (T:=41);have hL2:=hL.aWu aH st3.below;have rl3:=st3.rules;simp only[aI,World.size_alloc] at rl3)
  |(refine aPk (bl1:=[(w2.heap.size,#[.slice (some ⟨w.heap.size+1,0,none⟩) L.length L.length],41)]) (bl2:=[(w.heap.size,#[.slice none 0 0],94)]) oK aY fF rfl (.tmp 12) (.tmp 13) rfl (w.heap.size+1) cs L L.length rfl hcs rfl s c rfl st3 (by omega) hL2 ?_;intro w4 st4 hk4 hz4))
 refine wp_label ?_;have st5:=st4.alloc (cs:= #[.nilIface]) (T:=137);have hz5:(w4.alloc (.cells #[.nilIface] 137)).heap.size=w2.heap.size+2:=by rw[World.size_alloc,hz4,World.size_alloc]
 rw[hz4,World.size_alloc] at st5;have hA2:w.heap.size+2<=w2.heap.size:=by have:=hb2.size;simp at this;have:=st2.blk _ (bK (i:=0) rfl);have:=aC this;omega
 have hR0:dH (w4.alloc (.cells #[.nilIface] 137)) (some ⟨w.heap.size+1,0,none⟩) L:=by
  have:=st5.blk _ (bK (i:=2) rfl);intro i x hx;refine⟨w.heap.size+1,0,rfl,aC this,λj u hu=> ?_⟩;rw[Nat.zero_add,aE this,List.getElem?_toArray];exact nB aY L i x hx j u hu
 have st6:=st5.less [(w2.heap.size+1,#[.nilIface],137),(w2.heap.size,#[.slice (some ⟨w.heap.size+1,0,none⟩) L.length L.length],41),(w.heap.size,#[.slice none 0 0],94)] (by exact List.Sublist.cons_cons _ (List.Sublist.cons_cons _ (List.Sublist.cons _ (List.Sublist.refl _))));clear st0 st2 st3 st4 st5 hk4 hb2 hL2 rl3 hcs hz4;generalize w4.alloc (.cells #[.nilIface] 137)=w6 at*;go_wp2_with fail;refine(aLb t M.length d w6).mono ?_;rintro e w7 ⟨rfl,rfl⟩;go_wp2_with fail;have st7:=st6.alloc (cs:= #[.slice t M.length d]) (T:=41);rw[hz5] at st7;have hR7:=hR0.keep _ _ ((Below.refl w6.heap.size w6).alloc aH (.cells #[.slice t M.length d] 41));have hz7:(w6.alloc (.cells #[.slice t M.length d] 41)).heap.size=w2.heap.size+3:=by rw[World.size_alloc,hz5]
 have hB7:=st7.blk _ (bK (i:=0) rfl);have st8:=st7.less [(w2.heap.size+1,#[.nilIface],137),(w2.heap.size,#[.slice (some ⟨w.heap.size+1,0,none⟩) L.length L.length],41),(w.heap.size,#[.slice none 0 0],94)] (List.sublist_cons_self _ _);clear st6 st7 hR0;generalize w6.alloc (.cells #[.slice t M.length d] 41)=w7 at*;have hb7:=st8.below;clear hz5;refine(wpIn_wide (n:=5)).1 (wpIn_rangeFunc_ownF (n:=5) rfl (by omega) (gf:=282) (lb:= #[pv (w2.heap.size+2) 0]) rfl trivial (enters_of func282 (by kernel_rfl) rfl)
  (aCy w M t d (by omega) hM 4 (by omega) (w2.heap.size+2) w7 hb7 hB7) (λh k=>h.trans k) ?kb aW (λ_=>rfl)
  (aQo w w2.heap.size L) (aRn w w2.heap.size L) (aQo.own _ _ _ _ (by rw[hz7];omega)) (λ_=>aRn.own _ _ _ _ _ (by rw[hz7];omega))
  ⟨hll,_,_,st8,aH,by show L.length<=_;omega,(λh=>by cases h),⟨dJ.some _ _,λg o e=>by cases e;exact Nat.le_succ _⟩,hR7⟩
  ?a1 ?assign ?body ?done ?stop)
 case kb=>exact λW l o o'=>belowK_b (by rw[hz7];omega) W l o o'
 case assign=>
  intro l x W K hK
  gi_wp2
  exact hK
 case body=>
  rintro l pre x W ⟨hlp,s1,cap1,st,h1,h2,h3,h4,h5⟩ hlen;have hle2:(aO L (pre++[x])).length<=65:=by rw[nS];have:=aS5 x (aO L pre);omega
  have HS:=aA (nS L pre x);have HBW:=aA st.below.size;have HW:=aA (aP1 (aO L pre) (qX L ha pre) s1 cap1 x (by omega) h1 h2 h3 h4.1 W h5);rw[<-HS.out] at HW;have rl:=st.rl;clear hB7 st8 hb7 hR7 hL hM ha;gi_wp2_with fail;refine⟨trivial,(CallsIn.inRound l (callsIn_wide.2 HW.out)).mono ?_⟩;intro e w9 hg9;obtain⟨s9,c9,rfl,g1,g2,g3,g4,g5,g6⟩:=hg9;have st9:=st.to g6;have rl9:=st9.rl;have st10:=st9.sx 1 rfl (o:=0) (v:=.slice s9 (aO L (pre++[x])).length c9) (by omega);have hko:KeepsOthers W (w9.setCell ⟨w2.heap.size,0,none⟩ (.slice s9 (aO L (pre++[x])).length c9)):=(aX g6).trans (KeepsOthers.setCell _ _ _);have hbb:Below w.heap.size W (w9.setCell ⟨w2.heap.size,0,none⟩ (.slice s9 (aO L (pre++[x])).length c9)):=(g6.mono st.below.size).setCell (p:=⟨w2.heap.size,0,none⟩) (by show w.heap.size<=w2.heap.size;omega) _;have g5':dH (w9.setCell ⟨w2.heap.size,0,none⟩ (.slice s9 (aO L (pre++[x])).length c9)) s9 (aO L (pre++[x])):=by
   exact aBi g5 (st9.blk _ (bK (i:=1) rfl)) (λy u hu=>by simp[cM] at hu;subst hu;intro e;cases e) _
  clear rl st HW g6;have hfin:∀g o,s9=some ⟨g,o,none⟩->w.heap.size<=g:=λg o e=>by
   rcases g4.2 with h|h
   .exact h4.2 g o (h▸e)
   .exact dR HBW.out (h g o e)
  have HF9:=aA hfin;clear hfin
  by_cases hfull:(aO L (pre++[x])).length<=64
  .have hd:decide (64<((aO L (pre++[x])).length:Int))=false:=decide_eq_false (by omega);gi_wp2_with fail;exact⟨hko,hbb,hfull,s9,c9,st10,g1,g2,g3,⟨g4.1,HF9.out⟩,g5'⟩
  .have hd:decide (64<((aO L (pre++[x])).length:Int))=true:=decide_eq_true (by omega);have st11:=st10.sx 0 rfl (o:=0) (v:=.iface 447 (.agg #[.string aAq])) (by omega);gi_wp2_with fail;exact⟨hko.trans (KeepsOthers.setCell _ _ _),rfl,by omega,s9,c9,st11⟩
 case done=>
  rintro D xs W hD rfl ⟨hlp,s1,cap1,st,h1,h2,h3,h4,h5⟩ hK;have hDw:w.heap.size<D:=by rw[hz7] at hD;omega
  have rl:=st.rl;clear hB7 st8 hb7 hR7 hL hM ha hz7 hA2;obtain⟨N,hN⟩:∃N,aO L xs=N:=⟨_,rfl⟩;rw[hN] at h1 h5 st rl hlp;have HN:=aA hN;clear hN;go_wp2_with fail;have st11:=st.sx 2 rfl (o:=0) (v:=.slice s1 N.length cap1) aH;have h5':=aBi h5 (st.blk _ (bK (i:=2) rfl)) (λy u hu=>by simp[cM] at hu;subst hu;intro e;cases e) (.slice s1 N.length cap1);have hK':(W.setCell ⟨w.heap.size,0,none⟩ (.slice s1 N.length cap1)).heap[D]? =some (.deferred (some [])):=(Below.heap_setCell W ⟨w.heap.size,0,none⟩ _ D (by show D≠w.heap.size;omega)).trans hK;generalize W.setCell ⟨w.heap.size,0,none⟩ (.slice s1 N.length cap1)=W' at*;refine⟨by simp,.inl ⟨_,_,rfl,run_takeDeferred hK',?_⟩⟩;rw[HN.out];have hc:(W'.putObj D (.deferred none)).cell? ⟨w.heap.size,0,none⟩=some (.slice s1 N.length cap1):=aE ((World.putObj_heap_other (by omega)).trans (st11.blk _ (bK (i:=2) rfl))) 0;refine⟨.tuple #[.agg #[.slice s1 N.length cap1],.nilIface],by simp[results,results268,go_sem,hc],.inl ⟨hlp,s1,cap1,rfl,h1,h2,h3,h4,wV aY (by decide) h5' (grownBy_putObj' W' D _) (λr e=>by cases e;exact⟨_,hK',rfl⟩),?_⟩⟩;exact st11.below.grown (grownBy_putObj' W' D _) st11.below.size (λk e=>by cases e;omega)
 case stop=>
  rintro D c pre W hD hp ⟨rfl,h0,s1,cap1,st⟩ hK;have HG0:=aA (kG h0 (aLe L ha pre M hp));have hDw:w.heap.size<D:=by rw[hz7] at hD;omega
  have rl:=st.rl;clear hB7 st8 hb7 hR7 hL hM ha hz7;have hlt:w.heap.size<w2.heap.size:=by omega
  have hn1:w2.heap.size+1≠w.heap.size:=by omega
  have hn2:w.heap.size≠w2.heap.size+1:=by omega
  refine wpIn_wide.2 ?_;go_wp2_with fail
  go_region
  all_goals
   go_wp2_with fail;have st11:=(st.aW5 2 rfl (o:=0) (v:=.slice none 0 0) aH).drew;simp only[jP,List.modify_succ_cons,List.modify_zero_cons,List.setIfInBounds_toArray,List.set_cons_zero] at st11;have hK':(W.setCell ⟨w.heap.size,0,none⟩ (.slice none 0 0)).drew.heap[D]? =some (.deferred (some [])):=(Below.heap_setCell W ⟨w.heap.size,0,none⟩ _ D (by show D≠w.heap.size;omega)).trans hK;generalize(W.setCell ⟨w.heap.size,0,none⟩ (.slice none 0 0)).drew=W' at*;refine⟨by simp,.inl ⟨_,_,rfl,run_takeDeferred hK',?_⟩⟩;have hc:(W'.putObj D (.deferred none)).cell? ⟨w.heap.size,0,none⟩=some (.slice none 0 0):=aE ((World.putObj_heap_other (by omega)).trans (st11.blk _ (bK (i:=2) rfl))) 0;exact⟨_,by simp[results,results268,go_sem,hc],.inr ⟨HG0.out,rfl,st11.below.grown (grownBy_putObj' W' D _) st11.below.size (λk e=>by cases e;omega)⟩⟩
end
@[go_sem] theorem aUh (w:World):(Instr.typeAssert (.iface 447 (.agg #[.string aAq])) 137 447 true).run prog w=.ok (.tuple #[.agg #[.string aAq],.bool true]) w:=by kernel_rfl
theorem jT (w:World):Calls prog 269 #[.iface 447 (.agg #[.string aAq])] w λe w'=>e=.returned (.int .i64 60)/\Below w.heap.size w w':=by
 go_enter func269,ntmps269;go_wp2_with fail;go_ret;exact⟨rfl,aW.alloc aH _⟩
def aI9 (w:World)(L:List Nat)(e:Ending)(w':World):Prop:=
 (L.length<=64/\yF w L e w')\/(64<L.length/\e=.returned (.tuple #[.agg #[.slice none 0 0],.int .i64 60])/\Below w.heap.size w w')
theorem aOb (L:List Nat)(ha:yM L)(s:Option Addr)(c n:Nat)(hl:L.length<=64)(hc:L.length<=c)(w:World)(hL:dH w s L):
  Calls prog 263 #[.agg #[.slice s L.length c],.int .u64 n] w (aI9 w (gT n L)):=by
 have st0:=((St.start w).alloc (cs:= #[.slice s L.length c]) (T:=94)).alloc (cs:= #[.slice none 0 0]) (T:=94);simp only[World.size_alloc] at st0;have HR:=aA (iN L ha s c (by omega) hc _ (hL.aWu aH st0.below));have HIN:Hid (aO L [n]=gT n L):=rfl;go_enter func263,ntmps263;go_wp2_with fail;refine HR.out.mono ?_;rintro e w1 ⟨rfl,hb1⟩;have st1:=st0.to hb1;have rl:=st1.rl;have hLb:=hL.aWu aH st1.below;clear st0 HR hb1;go_wp2_with fail;have hN1:dH (w1.alloc (.cells #[.int .u64 n] 22)) (some ⟨w1.heap.size,0,none⟩) [n]:=
  Rd.aW2 aY (kH _ _) rfl
 have hb2:=(Below.refl w1.heap.size w1).alloc aH (.cells #[.int .u64 n] 22);have HG:=aA (aJx L [n] ha s (some ⟨w1.heap.size,0,none⟩) c 1 hl (by simp) hc _ (hLb.keep _ _ hb2) hN1);rw[HIN.out] at HG;refine(HG.out).mono ?_;intro e w3 hg;rcases hg with⟨hz64,hg⟩|hg
 .obtain⟨s3,c3,rfl,g1,g2,g3,g4,g5,g6⟩:=hg;have HZ3:=aA (dR st1.below.size hb2.size);have st3:=st1.to (hb2.trans (g6.mono hb2.size));have rl3:=st3.rl;clear HG hLb st1 rl hb2 hN1;go_wp2_with fail;have st4:=st3.alloc (cs:= #[.slice s3 (gT n L).length c3]) (T:=94);have st4:=st4.aXp (F:=λW=>dH W s3 (gT n L)) (g5.keep _ _ ((Below.refl w3.heap.size w3).alloc aH _)) Rd.keep;clear st3 rl3 g5 g6;obtain⟨bl5,E5,hne5,sh5,rl,hEx,hbx,hst⟩:=st4.aW1;refine bP sh5 3 (by kernel_rfl) (by kernel_rfl) ?_;simp only[List.take_succ_cons,List.take_zero,List.drop_succ_cons,List.drop_zero];simp only[aI] at rl
  repeat(first|go_big_quiet_step ((go_at_call 269;exact Cs.call (mX _)))|quiet_step ((go_at_call 269;exact Cs.call (mX _))))
  refine wpQuiet_nil ?_;intro y;have st6:=(hst y).out;clear hbx rl hst sh5 hEx st4;generalize y.W=w6 at*;have rl:=st6.rl;go_wp2_with fail;have hE:=st6.ex.2;have hN:=aBi hE (st6.blk _ (bK (i:=1) rfl)) (λy u hu=>by simp[cM] at hu;subst hu;intro e;cases e) (.slice s3 (gT n L).length c3);have hb7:=st6.below.setCell (p:=⟨w.heap.size+1,0,none⟩) (Nat.le_add_right _ _) (.slice s3 (gT n L).length c3);refine bodyPost_ret (v:=.tuple #[.agg #[.slice s3 (gT n L).length c3],.int .i64 0]) (by simp[results,results263,go_sem,rl]) rfl (.inl ⟨hz64,s3,c3,rfl,g1,g2,g3,g4.mono HZ3.out,hN,hb7⟩)
 .obtain⟨h64,rfl,g6⟩:=hg;have H64:=aA h64;clear h64;have HZ3:=aA (dR st1.below.size hb2.size);have st3:=st1.to (hb2.trans (g6.mono hb2.size));have rl3:=st3.rl;clear HG hLb st1 rl hb2 hN1;go_wp2_with fail;have st4:=st3.alloc (cs:= #[.slice none 0 0]) (T:=94);clear st3 rl3 g6;obtain⟨bl5,E5,hne5,sh5,rl,hEx,hbx,hst⟩:=st4.aW1;refine bP sh5 3 (by kernel_rfl) (by kernel_rfl) ?_;simp only[List.take_succ_cons,List.take_zero,List.drop_succ_cons,List.drop_zero];simp only[aI] at rl
  repeat(first|go_big_quiet_step ((go_at_call 269;exact Cs.call (jT _)))|quiet_step ((go_at_call 269;exact Cs.call (jT _))))
  refine wpQuiet_nil ?_;intro y;have st6:=(hst y).out;clear hbx rl hst sh5 hEx st4;generalize y.W=w6 at*;have rl:=st6.rl;go_wp2_with fail;have hb7:=st6.below.setCell (p:=⟨w.heap.size+1,0,none⟩) (Nat.le_add_right _ _) (.slice none 0 0);refine bodyPost_ret (v:=.tuple #[.agg #[.slice none 0 0],.int .i64 60]) (by simp[results,results263,go_sem,rl]) rfl (.inr ⟨H64.out,rfl,hb7⟩)
theorem aFo (L M:List Nat)(ha:yM L)(hb':yM M)(s t:Option Addr)(c d:Nat)(hl:L.length<=64)(hml:M.length<=64)(hc:L.length<=c)(hd:M.length<=d)(w:World)(hL:dH w s L)(hM:dH w t M):
  Calls prog 267 #[.agg #[.slice s L.length c],.agg #[.slice t M.length d]] w (aI9 w (aO L M)):=by
 have st0:=(((St.start w).alloc (cs:= #[.slice s L.length c]) (T:=94)).alloc (cs:= #[.slice t M.length d]) (T:=94)).alloc (cs:= #[.slice none 0 0]) (T:=94);simp only[World.size_alloc] at st0;have HR:=aA (iN L ha s c (by omega) hc _ (hL.aWu aH st0.below));go_enter func267,ntmps267;go_wp2_with fail;refine HR.out.mono ?_;rintro e w1 ⟨rfl,hb1⟩;have st1:=st0.to hb1;have rl:=st1.rl;have HR2:=aA (iN M hb' t d (by omega) hd w1 (hM.aWu aH st1.below));clear st0 HR hb1;go_wp2_with fail;refine HR2.out.mono ?_;rintro e w2 ⟨rfl,hb2⟩;have st1:=st1.to hb2;have rl:=st1.rl;have hLb:=hL.aWu aH st1.below;have hMb:=hM.aWu aH st1.below;clear HR2 hb2;go_wp2_with fail;have HG:=aA (aJx L M ha s t c d hl hml hc _ hLb hMb);refine(HG.out).mono ?_;intro e w3 hg;rcases hg with⟨hz64,hg⟩|hg
 .obtain⟨s3,c3,rfl,g1,g2,g3,g4,g5,g6⟩:=hg;have HZ3:=aA st1.below.size;have st3:=st1.to (g6);have rl3:=st3.rl;clear HG hLb st1 rl hMb;go_wp2_with fail;have st4:=st3.alloc (cs:= #[.slice s3 (aO L M).length c3]) (T:=94);have st4:=st4.aXp (F:=λW=>dH W s3 (aO L M)) (g5.keep _ _ ((Below.refl w3.heap.size w3).alloc aH _)) Rd.keep;clear st3 rl3 g5 g6;obtain⟨bl5,E5,hne5,sh5,rl,hEx,hbx,hst⟩:=st4.aW1;refine bP sh5 3 (by kernel_rfl) (by kernel_rfl) ?_;simp only[List.take_succ_cons,List.take_zero,List.drop_succ_cons,List.drop_zero];simp only[aI] at rl
  repeat(first|go_big_quiet_step ((go_at_call 269;exact Cs.call (mX _)))|quiet_step ((go_at_call 269;exact Cs.call (mX _))))
  refine wpQuiet_nil ?_;intro y;have st6:=(hst y).out;clear hbx rl hst sh5 hEx st4;generalize y.W=w6 at*;have rl:=st6.rl;go_wp2_with fail;have hE:=st6.ex.2;have hN:=aBi hE (st6.blk _ (bK (i:=1) rfl)) (λy u hu=>by simp[cM] at hu;subst hu;intro e;cases e) (.slice s3 (aO L M).length c3);have hb7:=st6.below.setCell (p:=⟨w.heap.size+2,0,none⟩) (Nat.le_add_right _ _) (.slice s3 (aO L M).length c3);refine bodyPost_ret (v:=.tuple #[.agg #[.slice s3 (aO L M).length c3],.int .i64 0]) (by simp[results,results267,go_sem,rl]) rfl (.inl ⟨hz64,s3,c3,rfl,g1,g2,g3,g4.mono HZ3.out,hN,hb7⟩)
 .obtain⟨h64,rfl,g6⟩:=hg;have H64:=aA h64;clear h64;have HZ3:=aA st1.below.size;have st3:=st1.to (g6);have rl3:=st3.rl;clear HG hLb st1 rl hMb;go_wp2_with fail;have st4:=st3.alloc (cs:= #[.slice none 0 0]) (T:=94);clear st3 rl3 g6;obtain⟨bl5,E5,hne5,sh5,rl,hEx,hbx,hst⟩:=st4.aW1;refine bP sh5 3 (by kernel_rfl) (by kernel_rfl) ?_;simp only[List.take_succ_cons,List.take_zero,List.drop_succ_cons,List.drop_zero];simp only[aI] at rl
  repeat(first|go_big_quiet_step ((go_at_call 269;exact Cs.call (jT _)))|quiet_step ((go_at_call 269;exact Cs.call (jT _))))
  refine wpQuiet_nil ?_;intro y;have st6:=(hst y).out;clear hbx rl hst sh5 hEx st4;generalize y.W=w6 at*;have rl:=st6.rl;go_wp2_with fail;have hb7:=st6.below.setCell (p:=⟨w.heap.size+2,0,none⟩) (Nat.le_add_right _ _) (.slice none 0 0);refine bodyPost_ret (v:=.tuple #[.agg #[.slice none 0 0],.int .i64 60]) (by simp[results,results267,go_sem,rl]) rfl (.inr ⟨H64.out,rfl,hb7⟩)
end Go.Proofs.YtmgdbfmlnmahpaaGreatDoor
