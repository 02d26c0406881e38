/- Part of TopAudits. -/
import Derived.Test.YtmgdbfmlnmahpaaGreatDoorG13
import Derived.Test.YtmgdbfmlnmahpaaGreatDoorG14
namespace Go.Proofs.YtmgdbfmlnmahpaaGreatDoor
set_option linter.unusedSimpArgs false
set_option linter.unusedVariables false
set_option maxRecDepth 100000
set_option maxHeartbeats 4000000
open Go.Proofs.Tryz
section
open Go.RowKit Go.Maps Go.Sort Go.Shelf
theorem aHj (mb:Option Nat)(W:World):Calls prog 334 #[.map mb] W λe w'=>e=.returned (.func (.func 338) #[] #[pv W.heap.size 0])/\w'=W.alloc (.cells #[.map mb] 478):=
 (callsIn_wide (n:=5)).1 (AnyZI.keys_in Tryz.keysC Fence.wide 5 trivial rfl mb W)
theorem aQg (m:Nat):AnyZI.SortsIn prog Tryz.sortedC_ren Fence.wide m:=
 ⟨λblk off cap ss W hH hblk hsz=>callsIn_wide.2 (AnyM.slices_Sort_int Tryz.sortC blk off cap ss W hH hblk hsz),
  λp cap W=>callsIn_wide.2 (AnyM.slices_Sort_int_none Tryz.sortC p cap W)⟩
def aRq (x:Nat):List Value:=[.int .i64 (x:Nat)]
theorem aQb (x:Nat):(aRq x).length=1:=rfl
theorem aRa (l:List (Nat×Nat)):intKeys (dM l)=l.map (λx=>((x.1:Nat):Int)):=by
 show(l.map iY).map _=_;rw[List.map_map];rfl
theorem aAj :∀l:List (Nat×Nat),(l.map (λx=>((x.1:Nat):Int))).map encZ=(l.map Prod.fst).flatMap aRq
 |[]=>rfl
 |x::l=>by
  rw[List.map_cons,List.map_cons,List.map_cons,List.flatMap_cons,aAj l];rfl
theorem aLn {l:List (Nat×Nat)}(h:jD l){ss:List Int}(hp:ss.Perm (l.map (λx=>((x.1:Nat):Int)))):ss.mergeSort (λx y=>decide (x<=y))=l.map (λx=>((x.1:Nat):Int)):=by
 have h1:=(List.mergeSort_perm ss (λx y=>decide (x<=y))).trans hp;have h2:(ss.mergeSort (λx y=>decide (x<=y))).Pairwise (λx y=>x<=y):=by
  have:=List.pairwise_mergeSort (le:=λx y:Int=>decide (x<=y)) (λa b c h1 h2=>by simp at*;omega) (λa b=>by simp;omega) ss;exact this.imp (λh=>by simpa using h)
 have h3:(l.map (λx=>((x.1:Nat):Int))).Pairwise (λx y=>x<=y):=by
  rw[List.pairwise_map];exact h.imp (λh=>by omega)
 exact h1.eq_of_pairwise (λa b _ _ h1 h2=>by omega) h2 h3
theorem aBu (b nn:Nat)(l:List (Nat×Nat))(hl:jD l)(hlen:l.length<=1000000)(w:World)(hown:dE w b nn l):
  Calls prog 333 #[.func (.func 338) #[] #[pv w.heap.size 0]] (w.alloc (.cells #[.map (some b)] 478)) λe w'=>∃v,e=.returned v/\
   aL 1 aRq 3 w' w.heap.size v (l.map Prod.fst)/\Below w.heap.size w w':=by
 refine(callsIn_wide (n:=5)).1 ?_;have hbl:=hown.lt;have hsz:Maps.size (dM l)=l.length:=by simp[dM,Maps.size]
 have hseq:SeqGives Fence.wide 2 prog 338 #[pv w.heap.size 0] encZ (λss=>ss.Perm (intKeys (dM l))) (Maps.size (dM l)) (w.alloc (.cells #[.map (some b)] 478)):=
  AnyZI.keys_gives (ρ:=Tryz.keysC_ren) {Tryz.keysC with} Fence.wide _ trivial rfl (by omega) w.heap.size b nn (dM l) _ (by simp) (by simp) (by
   obtain⟨es,clock,hb,Ft,hs,hD⟩:=hown;exact⟨es,clock,(Below.heap_alloc _ _ b hbl).trans hb,Ft,hs,hD⟩)
 have cS:=AnyZI.sorted_in Tryz.sortedC Fence.wide 5 trivial trivial trivial trivial rfl (by omega) (aQg _) (enters_of func337 (by kernel_rfl) rfl) 338 #[pv w.heap.size 0] trivial (enters_of func338 (by kernel_rfl) rfl) _ _ (by rw[hsz];unfold maxLen;omega) (by rw[hsz];omega) _ hseq;refine CallsIn.mono cS ?_;rintro e w' ⟨v,ss,rfl,hS,hrow,hnil,hb⟩;rw[aRa] at hS;rw[aLn hl hS] at hrow;refine⟨v,rfl,?_,((Below.refl _ w).alloc aH _).trans (hb.mono (by simp))⟩;have hlen':ss.length=(l.map Prod.fst).length:=by rw[hS.length_eq];simp
 rw[hlen',aAj] at hrow;exact ownsRow_base_a hrow (by simp)
end
section
open Go.RowKit Go.Maps Go.Sort Go.Shelf
variable {l:List (Nat×Nat)} {W W':World}
def aGr :DataW Unit->Int
 | .lit (.int _ c)=>c
 |_=>0
def FsM (es0:List (Lit×DataW Unit))(left:Lit->Bool):DataW Unit:=.map (es0.filter λp=>aGr p.2 !=0||left p.1)
section
variable {es0:List (Lit×DataW Unit)} {left:Lit->Bool}
theorem aK8 (hkeys:∀p∈es0,WideAt.IsKeyLit p.1):FsM es0 (Maps.has (.map es0))=.map es0:=by
 unfold FsM;rw[List.filter_eq_self.2 (λp hp=>by
  have:Maps.has (DataW.map es0) p.1=true:=List.any_eq_true.2 ⟨p,hp,WideAt.sameKey_self (hkeys p hp)⟩;simp[this])]
theorem aRf (hl:∀kl,left kl=false):FsM es0 left=.map (es0.filter λp=>aGr p.2 !=0):=by
 unfold FsM;congr 1;exact List.filter_congr (λp _=>by simp[hl])
theorem aFb (hap:es0.Pairwise (λp q=>p.1≠q.1)){kl:Lit}(hk:WideAt.IsKeyLit kl)(hlk:left kl=true){d:DataW Unit}(hat:∀zd,(FsM es0 left).atKey kl zd=d):∀p∈es0,p.1=kl->p.2=d:=by
 intro p hp hpk;have hm:(kl,p.2)∈es0.filter λp=>aGr p.2 !=0||left p.1:=List.mem_filter.2 ⟨by rw[<-hpk];exact hp,by simp[hlk]⟩;exact(WideAt.atKey_mem .nil hk (hap.filter _) hm).symm.trans (hat .nil)
theorem aGd (hap:es0.Pairwise (λp q=>p.1≠q.1)){kl:Lit}(hk:WideAt.IsKeyLit kl)(hlk:left kl=true)(hat:∀zd,(FsM es0 left).atKey kl zd=.lit (.int .u64 0)):(FsM es0 left).del kl=FsM es0 (λz=>left z&& !z.sameKey kl):=by
 have hc:=aFb hap hk hlk hat
 show DataW.map ((es0.filter λp=>aGr p.2 !=0||left p.1).filter λp=> !p.1.sameKey kl)=_;unfold FsM;rw[List.filter_filter];congr 1;refine List.filter_congr (λp hp=> ?_);cases hs:p.1.sameKey kl
 .simp[hs]
 .simp[hs,hc p hp (WideAt.sameKey_eq hs),aGr]
theorem aMw (hap:es0.Pairwise (λp q=>p.1≠q.1)){kl:Lit}(hk:WideAt.IsKeyLit kl)(hlk:left kl=true){c:Int}(hc0:c≠0)(hat:∀zd,(FsM es0 left).atKey kl zd=.lit (.int .u64 c)):FsM es0 left=FsM es0 (λz=>left z&& !z.sameKey kl):=by
 have hc:=aFb hap hk hlk hat
 unfold FsM;congr 1;refine List.filter_congr (λp hp=> ?_);cases hs:p.1.sameKey kl
 .simp[hs]
 .simp[hs,hc p hp (WideAt.sameKey_eq hs),aGr,hc0]
end
theorem aNr (l:List (Nat×Nat)):∀p∈l.map iY,WideAt.IsKeyLit p.1:=by
 intro p hp;obtain⟨x,_,rfl⟩:=List.mem_map.1 hp;trivial
theorem aLj (h:jD l):(l.map iY).Pairwise (λp q=>p.1≠q.1):=by
 rw[List.pairwise_map];exact h.imp (fun{x y} hxy e=>by
  simp only[iY,Lit.int.injEq,true_and] at e;omega)
theorem aQi (l:List (Nat×Nat)):DataW.map ((l.map iY).filter λp=>aGr p.2 !=0)=dM (kD l):=by
 unfold dM kD;congr 1;rw[List.filter_map];congr 1;refine List.filter_congr λx _=> ?_;show(((x.2:Nat):Int) !=0)=(x.2 !=0)
 by_cases c:x.2=0
 .simp[c]
 .have h1:((x.2:Nat):Int)≠0:=by omega
  rw[bne_iff_ne.2 h1,bne_iff_ne.2 c]
theorem bZ (W:World)(b o:Nat)(v:Value):W.grownBy (W.setCell ⟨b,o,none⟩ v) (some b):=
 have k:=KeepsOthers.setCell W ⟨b,o,none⟩ v
 ⟨by simp[World.setCell]<;>(try split)<;>rfl,by simp[World.setCell]<;>(try split)<;>rfl,by simp[World.setCell]<;>(try split)<;>rfl,k.size,λi _ hne=>Below.heap_setCell W ⟨b,o,none⟩ v i (λe=>hne (by rw[e]))⟩
theorem dE.low {b n:Nat}(h:dE W b n l)(e:W'.heap[b]? =W.heap[b]?):dE W' b n l:=by
 obtain⟨es,clock,hb,F,hs,hD⟩:=h;exact⟨es,clock,e.trans hb,F,hs,hD⟩
def qE (W:World)(s:Option Addr)(L:List (Nat×Nat))(B R:Nat):Prop:=∀i x,L[i]? =some x->∃g o,s=some ⟨g,o,none⟩/\g≠R/\g<B/\W.cell? ⟨g,o+i,none⟩=some (.int .i64 (x.1:Nat))
theorem qE.keep {s:Option Addr}{L:List (Nat×Nat)}{B R:Nat}(h:qE W s L B R)(hk:∀g,g<B->g≠R->W'.heap[g]? =W.heap[g]?):qE W' s L B R:=by
 intro i x hx;obtain⟨g,o,e,h1,h2,h3⟩:=h i x hx;refine⟨g,o,e,h1,h2,?_⟩;rw[<-h3];simp only[World.cell?,hk g h2 h1]
theorem qE.of {B0 R:Nat}{v:Value}{L:List (Nat×Nat)}(h:aL 1 aRq 3 W B0 v (L.map Prod.fst))(hR:R<B0):∃s cap,v=.slice s L.length cap/\L.length<=cap/\qE W s L W.heap.size R:=by
 have hlt:=λk hk=>h.lt k hk;obtain⟨s,cap,rfl,hcap,_,hrd,_,_⟩:=h.form aQb;rw[List.length_map] at hcap;refine⟨s,cap,by rw[List.length_map],hcap,λi x hx=> ?_⟩;obtain⟨g,o,rfl,hg,hc⟩:=hrd i x.1 (by rw[List.getElem?_map,hx];rfl);have:=(hlt g rfl).1;refine⟨g,o,rfl,by omega,hg,?_⟩;have h0:=hc 0 _ rfl
 simpa using h0
theorem yQ {w w0:World}{row:Option Nat}(h:w.grownBy W row)(b1:RowKit.Below w0.heap.size w0 W)(b2:RowKit.Below w0.heap.size w0 W')(hz:W.heap.size<=W'.heap.size)(hk:∀i,i<w.heap.size->some i≠row->W'.heap[i]? =W.heap[i]?):w.grownBy W' row:=
 ⟨b2.os.trans (b1.os.symm.trans h.os),b2.tape.trans (b1.tape.symm.trans h.tape),b2.output.trans (b1.output.symm.trans h.output),dR h.size hz,λi hi hne=>(hk i hi hne).trans (h.block i hi hne)⟩
theorem aNw (h:jD l){x:Nat×Nat}(hx:x∈l):mP x.1 l=x.2:=by
 induction l with
 |nil=>cases hx
 |cons y l ih=>
  obtain⟨h1,h2⟩:=List.pairwise_cons.1 h;unfold mP;rcases List.mem_cons.1 hx with rfl|hx
  .rw[if_pos rfl]
  .have:=h1 x hx;rw[if_neg (by omega),ih h2 hx]
theorem aSd :eM prog 99 277 2 16:=eM.mk (z:=.agg #[.int .i64 0,.int .u64 0]) underlying99 (by kernel_rfl) rfl (by decide)
def aS4 (f:Nat)(w:World)(b:Nat)(l:List (Nat×Nat))(e:Ending)(w':World):Prop:=
 ∃v,e=.returned (.agg #[.int .i64 f,v])/\aL 2 iS 277 w' w.heap.size v l/\w.grownBy w' (some b)
theorem qK {f:Nat}(hf:f<=3)(w0:World)(b m:Nat)(l:List (Nat×Nat))(hl:jD l)(hlen:l.length<=900000)(hsm:∀x∈l,x.1<=1000)(w:World)(hc:dE w b m l)(hw0:Below w0.heap.size w0 w)(hb0:w0.heap.size<=b):
  Calls prog 329 #[aAz f b] w (aS4 f w b (kD l)):=by
 have hbw:=hc.lt;have st:=(((St.start w0).to (by exact hw0)).alloc (cs:= #[.map (some b),.int .i64 f]) (T:=480)).alloc (cs:= #[.int .i64 0,.slice none 0 0]) (T:=101);simp only[World.size_alloc] at st;have hc1:dE ((w.alloc (.cells #[.map (some b),.int .i64 f] 480)).alloc (.cells #[.int .i64 0,.slice none 0 0] 101)) b m l:=(World.ownsMap.alloc (World.ownsMap.alloc hc _) _);have hg1:w.grownBy ((w.alloc (.cells #[.map (some b),.int .i64 f] 480)).alloc (.cells #[.int .i64 0,.slice none 0 0] 101)) (some b):=aU (((Below.refl w.heap.size w).alloc aH _).alloc (by simp) _) _;have rl:=st.rs;have hd0:dE ((w.alloc (.cells #[.map (some b),.int .i64 f] 480)).alloc (.cells #[.int .i64 0,.slice none 0 0] 101)) b m l:=hc1;go_enter func329,ntmps329;go_wp2_with(first
  |(at_range;refine wpList_range_own _ rfl _ 478 rfl 3 22 wL aRs _ b m _ rfl hc1 ?_;intro w2 hrg2 hg2 hs2)
  |fail)
 go_frame;simp only[World.size_alloc];have HKS:Hid (FsM (l.map iY) (Maps.has (dM l))=dM l):=aK8 (aNr l);have HAP:=aA (aLj hl);simp only[World.size_alloc] at hrg2 hs2;have st2:=st.to (aW.grown hg2 aH (λk hk=>by cases hk));have hgw2:=hg1.andThen hg2 (λj hj=>by cases hj);clear rl st hd0 hc1 hg1 hg2;have hr2:∀z∈[(w.heap.size+1,#[Value.int .i64 0,.slice none 0 0],101),(w.heap.size,#[.map (some b),.int .i64 f],480)],z.1≠w.heap.size+1+1:=by
  intro z hz;simp at hz;rcases hz with rfl|rfl<;>simp<;>omega
 have hbz:∀z∈[(w.heap.size+1,#[Value.int .i64 0,.slice none 0 0],101),(w.heap.size,#[.map (some b),.int .i64 f],480)],z.1≠b:=by
  intro z hz;simp at hz;rcases hz with rfl|rfl<;>simp<;>omega
 go_loopw [3] (λ_ wr=>∃(left:Lit->Bool) (cnt:Nat),wr.ranges prog 3 (plainElem prog 22) b (w.heap.size+1+1) m (FsM (l.map iY) left) left cnt/\St w0 [(w.heap.size+1,#[.int .i64 0,.slice none 0 0],101),(w.heap.size,#[.map (some b),.int .i64 f],480)] (λ_=>True) wr/\w.grownBy wr (some b))
  (λ_ wr=>wr.rangeLeft b (w.heap.size+1+1))
 case atStart=>exact⟨_,_,by rw[HKS.out];exact hrg2,st2,hgw2⟩
 case round=>
  clear hrg2 st2 hgw2 hs2 hc;obtain⟨left,cnt,hrg,st,hgw⟩:=hrel;have rl:=st.rl;go_wp2_with(first
   |(at_next;refine wpList_next_ranges_ii _ rfl _ rfl 3 22 .i64 .u64 wL underlying3 underlying22 b (w.heap.size+1+1) m _ _ _ rfl hrg ?_ ?_)
   |fail)
  .intro _ hl0;have hM:dE wr b m (kD l):=by
    have:=hrg.owns;rw[aRf hl0,aQi] at this;exact this
   have hst5:=st.alloc (cs:= #[.int .i64 f,.slice none 0 0]) (T:=101);have hM5:dE (wr.alloc (.cells #[.int .i64 f,.slice none 0 0] 101)) b m (kD l):=World.ownsMap.alloc hM _;have hgw5:=hgw.andThen (World.grownBy_alloc wr (.cells #[.int .i64 f,.slice none 0 0] 101) none) (λj hj=>by cases hj);have hkl:jD (kD l):=hl.sublist (List.filter_sublist);have hkn:(kD l).length<=900000:=dR (List.length_filter_le _ _) hlen;have hks:∀x∈kD l,x.1<=1000:=λx hx=>hsm x (List.mem_filter.1 hx).1;have hz5:=aA (show(wr.alloc (.cells #[.int .i64 f,.slice none 0 0] 101)).heap.size=wr.heap.size+1 by simp);have hwr:=st.below.size;clear hrg HKS HAP hl hlen hsm st;generalize kD l=L at*;go_wp2_with fail;refine(aHj _ _).mono ?_;rintro e w4 ⟨rfl,rfl⟩;generalize wr.alloc (.cells #[.int .i64 f,.slice none 0 0] 101)=w5 at*;go_wp2_with fail;refine(aBu b m L hkl (by omega) w5 hM5).mono ?_;rintro e w6 ⟨v,rfl,hown,hb6⟩;have hst6:=hst5.to hb6;have hM6:=dE.below hM5 hb6;have hgw6:=hgw5.andThen (aU hb6 none) (λj hj=>by cases hj);obtain⟨s,cap,rfl,hcap,hrd⟩:=qE.of (R:=wr.heap.size) hown (by have:=hz5.out;omega);have rl:=hst6.rl;have hB0:w0.heap.size<=w6.heap.size:=hst6.below.size;have hz6:=hb6.size;clear hst5 hM5 hgw5 hown hb6;go_wp2_with fail;have hz5':=hz5.out;clear hz5;have hww:w.heap.size+1<w6.heap.size:=aC (hst6.blk (w.heap.size+1,#[.int .i64 0,.slice none 0 0],101) (by simp));generalize wr.heap.size=bH at*;have hbl:∀z:Nat,z=bH\/z=w.heap.size+1\/z=w.heap.size->z<w6.heap.size:=by rintro z (rfl|rfl|rfl)<;>omega
   clear hz5' hz6
   go_loopw [29] (λi wq=>∃k:Nat,k<=L.length/\i=.int .i64 k/\(∃vv,St w0 [(bH,#[.int .i64 f,vv],101),(w.heap.size+1,#[.int .i64 0,.slice none 0 0],101),(w.heap.size,#[.map (some b),.int .i64 f],480)] (λ_=>True) wq/\aL 2 iS 277 wq w6.heap.size vv (L.take k))/\dE wq b m L/\qE wq s L w6.heap.size bH/\w.grownBy wq (some b)/\w6.heap.size<=wq.heap.size) (λi _=>L.length-(intOf i).toNat)
   case atStart=>exact⟨0,cJ _,rfl,⟨_,hst6,aL.nil _ _⟩,hM6,hrd,hgw6,aH⟩
   case round=>
    clear rl hst6 hM6 hrd hgw6;obtain⟨k,hk,rfl,⟨vv,st,hown⟩,hM,hrd,hgw,hz⟩:=hrel;have rl:=st.rl
    by_cases hlt:k<L.length
    .obtain⟨x,hx⟩:∃x,L[k]? =some x:=⟨_,cZ hlt⟩;obtain⟨g,o,rfl,hgR,hg,hc0⟩:=hrd k x hx;have hrd0:=aA hrd;have HT:Hid (L.take k++[x]=L.take (k+1)):=by show _=_;rw[List.take_add_one,hx];rfl
     have hgm:mP x.1 L=x.2:=aNw hkl (bK hx);have hlk:=aEa hM x.1 (hks x (bK hx));rw[hgm] at hlk;obtain⟨xa,xn⟩:=x;simp only at hc0 hlk HT;have hlen1:(L.take k).length+1<=1000000:=by rw[List.length_take];omega
     have hbl1:∀z∈[(bH,#[Value.int .i64 f,vv],101),(w.heap.size+1,#[.int .i64 0,.slice none 0 0],101),(w.heap.size,#[.map (some b),.int .i64 f],480)],z.1<w6.heap.size:=by
      intro z hz;refine hbl z.1 ?_;simp at hz;rcases hz with rfl|rfl|rfl<;>simp
     clear hgm hx hrd;go_wp2_with(first
      |(at_builtin;refine fI aSd fW aE1 rfl (.tmp 34) (.tmp 41) rfl w6.heap.size vv (L.take k) (xa,xn) rfl st hown hB0 hbl1 hz _ rfl wr.heap.size rfl rfl hlen1 (by decide) ?_;intro v' w' ap;obtain⟨s3,c3,rfl,h3a,h3b,h3c,h3d,h3e⟩:=ap.own.form fW;have rl:=ap.st.rules;simp only[aI] at rl)
      |fail)
     have hbH:bH<w6.heap.size:=hbl bH (.inl rfl);have hst':=ap.st.sx 0 rfl (o:=1) (v:=.slice s3 (L.take k++[(xa,xn)]).length c3) hwr;have hown':=aL.other ap.own (bZ w' bH 1 (.slice s3 (L.take k++[(xa,xn)]).length c3)) hbH;have hM':=dE.set (dE.low hM (ap.low b (by omega))) (g:=bH) (Ne.symm (dE.ne hM (st.blk (bH,#[.int .i64 f,vv],101) (by simp)))) 1 (.slice s3 (L.take k++[(xa,xn)]).length c3);have hkk:∀g,g<w6.heap.size->g≠bH->(w'.setCell ⟨bH,1,none⟩ (.slice s3 (L.take k++[(xa,xn)]).length c3)).heap[g]? =wr.heap[g]? :=λg hg hne=>(Below.heap_setCell w' ⟨bH,1,none⟩ _ g hne).trans (ap.low g hg);have hzs:wr.heap.size<=(w'.setCell ⟨bH,1,none⟩ (.slice s3 (L.take k++[(xa,xn)]).length c3)).heap.size:=dR ap.size (bZ w' bH 1 _).size;have hkl1:(L.take k++[(xa,xn)]).length=k+1:=by rw[List.length_append,List.length_take,Nat.min_eq_left (by omega)];rfl
     rw[hkl1] at hst' hown' hM' hkk hzs;refine⟨⟨k+1,hlt,by go_num,⟨_,hst',by rw[<-HT.out];exact hown'⟩,hM',hrd0.out.keep hkk,yQ hgw st.below hst'.below hzs (λi hi hne=>hkk i (by omega) (by omega)),dR hz hzs⟩,?_⟩;simp[intOf];omega
    .obtain rfl:k=L.length:=by omega
     rw[List.take_length] at hown;obtain⟨s2,c2,rfl,hv1,hv2,hv3,hv4,hv5⟩:=hown.form fW;have hbH:w.heap.size+1<w6.heap.size:=hbl _ (.inr (.inl rfl));go_wp2_with fail;have g1:=bZ wr (w.heap.size+1) 0 (.int .i64 f);have g2:=bZ (wr.setCell ⟨w.heap.size+1,0,none⟩ (.int .i64 f)) (w.heap.size+1) 1 (.slice s2 L.length c2);have hown':=aL.base (aL.other (aL.other hown g1 hbH) g2 hbH) (show w.heap.size<=w6.heap.size by omega);exact bodyPost_ret (v:=.agg #[.int .i64 f,.slice s2 L.length c2]) (by simp[results,results329,go_sem,rl]) rfl ⟨_,rfl,hown',(hgw.andThen g1 (λj hj=>by cases hj;exact .inl (Nat.le_succ _))).andThen g2 (λj hj=>by cases hj;exact .inl (Nat.le_succ _))⟩
  .intro x c w1 cnt1 hwx hwc hlx hat hrg1 hlt hg1 hs1 hen;have hgw1:=hgw.andThen hg1 (λj hj=>by cases hj;exact Or.inl (by omega));have st1:=st.aW6 hg1 (by have:=hw0.size;omega) hr2;have rl:=st1.rl;clear st;go_wp2_with(first
    |(at_delete;refine wpList_delete_ranges _ rfl _ _ 478 3 rfl 22 wL aRs _ b (w.heap.size+1+1) m _ _ _ rfl hrg1 _ _ rfl (keyOf_int_mk underlying3 hwx) ?_;intro w3 cnt3 hrg3 hle hturn;go_frame)
    |fail)
   .rename_i hq;have hc0:c=0:=by simpa using hq
    subst hc0;rw[strike_twice] at hrg3;refine⟨⟨_,cnt3,by rw[<-aGd HAP.out (kl:=.int .i64 x) trivial hlx hat];exact hrg3,st1.aW6 hturn.grown hb0 hbz,hgw1.andThen hturn.grown (λj hj=>by cases hj;exact Or.inr rfl)⟩,?_⟩;rw[hrg3.left_eq,hrg.left_eq];omega
   .rename_i hq;have hc0:c≠0:=by simpa using hq
    refine⟨⟨_,cnt1,by rw[<-aMw HAP.out (kl:=.int .i64 x) trivial hlx hc0 hat];exact hrg1,st1,hgw1⟩,?_⟩;rw[hrg1.left_eq,hrg.left_eq];exact hlt
end
section
open Go.RowKit Go.Maps Go.Sort Go.Shelf
theorem aIi {f:Nat}(hf:f<=3)(v:Nat)(hv:v<=aJ):vQ f v<=1000:=by
 exact nP hf (xT hf v hv)
theorem xZ (a n:Nat):∀l:List (Nat×Nat),(mT a n l).length<=l.length+1
 |[]=>by simp[mT]
 |x::l=>by
  have ih:=xZ a n l;unfold mT;split
  .simp
  .split
   .simp
   .simp;omega
def kM (f:Nat)(w:World)(l:List (Nat×Nat))(e:Ending)(w':World):Prop:=
 ∃v,e=.returned (.tuple #[.agg #[.int .i64 f,v],.int .i64 0])/\aL 2 iS 277 w' w.heap.size v l/\RowKit.Below w.heap.size w w'
theorem aK4 {f:Nat}(hf:f<=3)(l:List (Nat×Nat))(hl:iR f l)(s:Option Addr)(cap:Nat)(hlen:l.length<=100000)(hcap:l.length<=cap)(hsm:∀x∈l,x.1<=1000)(v n:Nat)(hv:v<=aJ)(hn:n<=aJ)(w:World)(hL:Rd 2 iS w s l):
  Calls prog 321 #[pY f s l.length cap,.int .u64 v,.int .u64 n] w (kM f w (jU (vQ f v) n l)):=by
 have st0:=((St.start w).alloc (cs:= #[.int .i64 f,.slice s l.length cap]) (T:=101)).alloc (cs:= #[.int .i64 0,.slice none 0 0]) (T:=101);simp only[World.size_alloc] at st0;have HBG:=aA (λW hW=>uW hf l hl s cap (by omega) hcap hsm W hW);have HBK:=aA (λW=>lX hf v hv W);have HPU:=aA (λb W hW=>pG hf b l.length l hl.1 (λx hx=>(hl.2.1 x hx).2) (vQ f v) n (aIi hf v hv) hn (by omega) W hW);have hasc:=aDf (vQ f v) (jF (mP (vQ f v) l) n) l hl.1;have HDN:=aA (λw0 b W hW h0 hb=>qK hf w0 b (l.length+1) (sG (vQ f v) n l) hasc.1 (by have:=xZ (vQ f v) (jF (mP (vQ f v) l) n) l;unfold sG;omega) (λx hx=>by
  rcases hasc.2 x hx with e|hx
  .rw[e];exact aIi hf v hv
  .exact hsm x hx) W hW h0 hb)
 rw[pD _ _ hn l hl.1 hl.2.1] at HDN;clear hasc;obtain⟨L',hL'⟩:∃L',jU (vQ f v) n l=L':=⟨_,rfl⟩;obtain⟨L2,hL2⟩:∃L2,sG (vQ f v) n l=L2:=⟨_,rfl⟩;rw[hL'] at HDN⊢;rw[hL2] at HDN HPU;generalize vQ f v=q at*;clear hL' hL2;go_enter func321,ntmps321;go_wp2_with fail;refine(HBG.out _ (hL.aWu aH st0.below)).mono ?_;rintro e w1 ⟨b,rfl,hwb',hM,hb1⟩;have hwb:w.heap.size<=b:=dR st0.below.size hwb';have st1:=(st0.to hb1).alloc (cs:= #[.map (some b),.int .i64 f]) (T:=480);have hM1:dE (w1.alloc (.cells #[.map (some b),.int .i64 f] 480)) b l.length l:=World.ownsMap.alloc hM _;clear st0 hb1 hM HBG hwb';have rl:=st1.rs;go_wp2_with fail;clear rl;have st1E:=st1.aXp (F:=λW=>dE W b l.length l) hM1 (λ_ _ h hb=>dE.below h hb);obtain⟨bl5,E5,hne5,sh5,rl,hEx,hbx,hst⟩:=st1E.aW1;refine bP sh5 6 (by kernel_rfl) (by kernel_rfl) ?_;simp only[List.take_succ_cons,List.take_zero,List.drop_succ_cons,List.drop_zero];simp only[aI] at rl
 repeat(first|go_big_quiet_step ((go_at_call 328;exact Cs.call (HBK.out _)))|quiet_step ((go_at_call 328;exact Cs.call (HBK.out _))))
 refine wpQuiet_nil ?_;intro y;have st2E:=(hst y).out;have hM2:=st2E.ex.2;have st2:=st2E.aW3 (F:=λ_=>True) trivial (λ_ _ _ _=>trivial);clear hbx rl hst sh5 hEx st1 st1E hM1 st2E;generalize y.W=w2 at*;go_wp2_with fail;refine(HPU.out b _ hM2).mono ?_;rintro e w3 ⟨rfl,hM3,hg3⟩;have st3:=st2.aW6 hg3 hwb (dE.aXd hM2 st2);have rl:=st3.rl;clear st2 hM2 hg3 HPU HBK;go_wp2_with fail;refine(HDN.out w b _ hM3 st3.below hwb).mono ?_;rintro e w4 ⟨vv,rfl,hown,hg4⟩;have st4:=st3.aW6 hg4 hwb (dE.aXd hM3 st3);obtain⟨s4,c4,rfl,h4a,h4b,h4c,h4d,h4e⟩:=hown.form fW;have hw3:=st3.below.size;have rl:=st4.rl;go_wp2_with fail;have hbH:w.heap.size+1<w3.heap.size:=aC (st3.blk (w.heap.size+1,#[.int .i64 0,.slice none 0 0],101) (by simp));have g1:=bZ w4 (w.heap.size+1) 0 (.int .i64 f);have g2:=bZ (w4.setCell ⟨w.heap.size+1,0,none⟩ (.int .i64 f)) (w.heap.size+1) 1 (.slice s4 L'.length c4);have hown':=aL.base (aL.other (aL.other hown g1 hbH) g2 hbH) hw3;have st5:=((st4.aW5 1 rfl (o:=0) (v:=.int .i64 f) (Nat.le_succ _)).aW5 1 rfl (o:=1) (v:=.slice s4 L'.length c4) (Nat.le_succ _));exact bodyPost_ret (v:=.tuple #[.agg #[.int .i64 f,.slice s4 L'.length c4],.int .i64 0]) (by simp[results,results321,go_sem,rl]) rfl ⟨_,rfl,hown',st5.below⟩
end
section
open Go.RowKit Go.Maps Go.Sort Go.Shelf
theorem aFc (a n:Nat):∀(l:List (Nat×Nat)) (x:Nat×Nat),x∈mT a n l->x=(a,n)\/x∈l
 |[],x,h=>by simp[mT] at h;exact .inl h
 |y::l,x,h=>by
  unfold mT at h;split at h
  .rcases List.mem_cons.1 h with e|h
   .exact .inl e
   .exact .inr h
  .split at h
   .rcases List.mem_cons.1 h with e|h
    .exact .inl e
    .exact .inr (by simp[h])
   .rcases List.mem_cons.1 h with e|h
    .exact .inr (by simp[e])
    .rcases aFc a n l x h with e|h
     .exact .inl e
     .exact .inr (by simp[h])
theorem aDk {a n:Nat}{l:List (Nat×Nat)}(h0:0<n)(hn:n<=aJ)(h:jD l)(hp:nJ l):sG a n l=jU a n l:=by
 rw[<-pD a n hn l h hp,lV];intro x hx;rcases aFc _ _ _ _ hx with rfl|hx
 .refine⟨?_,lB _ _⟩;show 0<jF _ n;unfold jF aJ;omega
 .exact hp x hx
def dP (l m:List (Nat×Nat)):List (Nat×Nat):=m.foldl (λa x=>jU x.1 x.2 a) l
theorem uZ (l m:List (Nat×Nat))(x:Nat×Nat):dP l (m++[x])=jU x.1 x.2 (dP l m):=by simp[dP]
theorem aE2 (a n:Nat)(hn:n<=aJ)(l:List (Nat×Nat))(h:jD l)(hp:nJ l):(jU a n l).length<=l.length+1:=by
 rw[<-pD a n hn l h hp];exact dR (List.length_filter_le _ _) (xZ _ _ _)
theorem uU {l:List (Nat×Nat)}(h:jD l)(hp:nJ l)(hs:∀x∈l,x.1<=1000):∀m:List (Nat×Nat),nJ m->(∀x∈m,x.1<=1000)->∀k,jD (dP l (m.take k))/\nJ (dP l (m.take k))/\(∀x∈dP l (m.take k),x.1<=1000)/\(dP l (m.take k)).length<=l.length+k:=by
 intro m hm hms k
 induction k with
 |zero=>exact⟨h,hp,hs,aH⟩
 |succ k ih=>
  cases e:m[k]? with
  |none=>
   rw[List.getElem?_eq_none_iff] at e;rw[List.take_of_length_le e] at ih;rw[List.take_of_length_le (by omega)];exact⟨ih.1,ih.2.1,ih.2.2.1,by omega⟩
  |some x=>
   have hx:=bK e;rw[List.take_add_one,e];show jD (dP l (m.take k++[x]))/\nJ (dP l (m.take k++[x]))/\(∀y∈dP l (m.take k++[x]),y.1<=1000)/\(dP l (m.take k++[x])).length<=_;rw[uZ];refine⟨xN _ _ _ ih.1,wO _ _ (hm x hx).2 _ ih.2.1,λy hy=> ?_,?_⟩
   .rcases oX _ _ _ y hy with e|hy
    .rw[e];exact hms x hx
    .exact ih.2.2.1 y hy
   .have:=aE2 x.1 x.2 (hm x hx).2 _ ih.1 ih.2.1;omega
theorem aEd {f:Nat}(hf:f<=3)(l m:List (Nat×Nat))(hl:iR f l)(hm:iR f m)(s t:Option Addr)(cap d:Nat)(hlen:l.length<=100000)(hlem:m.length<=100000)(hcap:l.length<=cap)(hd:m.length<=d)(hsm:∀x∈l,x.1<=1000)(htm:∀x∈m,x.1<=1000)(w:World)(hL:Rd 2 iS w s l)(hM:Rd 2 iS w t m):
  Calls prog 324 #[pY f s l.length cap,pY f t m.length d] w (kM f w (dP l m)):=by
 have st0:=(((St.start w).alloc (cs:= #[.int .i64 f,.slice s l.length cap]) (T:=101)).alloc (cs:= #[.int .i64 f,.slice t m.length d]) (T:=101)).alloc (cs:= #[.int .i64 0,.slice none 0 0]) (T:=101);simp only[World.size_alloc] at st0;have HBG:=aA (λW hW=>uW hf l hl s cap (by omega) hcap hsm W hW);have HRT:=aA (λW hW=>iL hf m hm t d (by omega) hd W hW);have HGD:=aA (uU hl.1 hl.2.1 hsm m hm.2.1 htm);go_enter func324,ntmps324;go_wp2_with fail;refine(HBG.out _ (hL.aWu aH st0.below)).mono ?_;rintro e w1 ⟨b,rfl,hwb',hMb,hb1⟩;have hwb:w.heap.size<=b:=dR st0.below.size hwb';have st1:=(st0.to hb1).alloc (cs:= #[.map (some b),.int .i64 f]) (T:=480);have hM1:dE (w1.alloc (.cells #[.map (some b),.int .i64 f] 480)) b l.length l:=World.ownsMap.alloc hMb _;clear st0 hb1 hMb HBG hwb';have rl:=st1.rs;go_wp2_with fail;refine(HRT.out _ (hM.aWu aH st1.below)).mono ?_;rintro e w2 ⟨rfl,hb2⟩;have st2:=st1.to hb2;have hM2:=dE.below hM1 hb2;have rl:=st2.rl;clear st1 hb2 hM1 HRT;go_wp2_with fail
 go_loopw [39] (λi wr=>∃k:Nat,k<=m.length/\i=.int .i64 k/\dE wr b (l.length+k) (dP l (m.take k))/\St w [(w1.heap.size,#[.map (some b),.int .i64 f],480),(w.heap.size+1+1,#[.int .i64 0,.slice none 0 0],101),(w.heap.size+1,#[.int .i64 f,.slice t m.length d],101),(w.heap.size,#[.int .i64 f,.slice s l.length cap],101)] (λ_=>True) wr) (λi _=>m.length-(intOf i).toNat)
 case atStart=>exact⟨0,cJ _,rfl,hM2,st2⟩
 case round=>
  clear rl st2 hM2;obtain⟨k,hk,rfl,hMk,st⟩:=hrel;have rl:=st.rl;obtain⟨gd1,gd2,gd3,gd4⟩:=HGD.out k
  by_cases hlt:k<m.length
  .obtain⟨x,hx⟩:∃x,m[k]? =some x:=⟨_,cZ hlt⟩;obtain⟨g,o,rfl,hg,hc1,hc2⟩:=qS (hM.aWu aH st.below) hx;have hxm:=bK hx;have HT:Hid (sG x.1 x.2 (dP l (m.take k))=dP l (m.take (k+1))):=by
    show _=_;rw[aDk (hm.2.1 x hxm).1 (hm.2.1 x hxm).2 gd1 gd2,List.take_add_one,hx];exact(uZ _ _ _).symm
   have hx1:=htm x hxm;have hx2:=(hm.2.1 x hxm).2;obtain⟨xa,xn⟩:=x;simp only at hc1 hc2 HT hx1 hx2;have HP:=aA (λW hW=>pG hf b (l.length+k) (dP l (m.take k)) gd1 (λy hy=>(gd2 y hy).2) xa xn hx1 hx2 (by omega) W hW);have stb:=st.alloc (cs:= #[.int .i64 (xa:Nat),.int .u64 (xn:Nat)]) (T:=277);have hMb:dE (wr.alloc (.cells #[.int .i64 (xa:Nat),.int .u64 (xn:Nat)] 277)) b (l.length+k) (dP l (m.take k)):=World.ownsMap.alloc hMk _;clear hx hx2 hMk hxm gd1 gd2 gd3 gd4;go_wp2_with fail;refine(HP.out _ hMb).mono ?_;rintro e w3 ⟨rfl,hM3,hg3⟩;have st3:=stb.aW6 hg3 hwb (dE.aXd hMb stb);rw[HT.out] at hM3;clear stb hMb st hc1 hc2 HP HT;go_wp2_with fail;go_roundw
   case rel=>exact⟨k+1,hlt,by go_num,hM3,st3.less _ (List.sublist_cons_self _ _)⟩
   case measure=>simp[intOf];omega
  .obtain rfl:k=m.length:=by omega
   rw[List.take_length] at hMk gd1 gd2 gd3 gd4;have HDN:=aA (qK hf w b (l.length+m.length) (dP l m) gd1 (by omega) gd3 wr hMk st.below hwb);rw[lV gd2] at HDN;obtain⟨L',hL'⟩:∃L',dP l m=L':=⟨_,rfl⟩;rw[hL'] at HDN hMk;have HL':=aA hL';clear gd1 gd2 gd3 gd4 hL';go_wp2_with fail;refine HDN.out.mono ?_;rintro e w4 ⟨vv,rfl,hown,hg4⟩;have st4:=st.aW6 hg4 hwb (dE.aXd hMk st);obtain⟨s4,c4,rfl,h4a,h4b,h4c,h4d,h4e⟩:=hown.form fW;have hw3:=st.below.size;have rl:=st4.rl;go_wp2_with fail;have hbH:w.heap.size+1+1<wr.heap.size:=aC (st.blk (w.heap.size+1+1,#[.int .i64 0,.slice none 0 0],101) (by simp));have g1:=bZ w4 (w.heap.size+1+1) 0 (.int .i64 f);have g2:=bZ (w4.setCell ⟨w.heap.size+1+1,0,none⟩ (.int .i64 f)) (w.heap.size+1+1) 1 (.slice s4 L'.length c4);have hown':=aL.base (aL.other (aL.other hown g1 hbH) g2 hbH) hw3;rw[<-HL'.out] at hown'⊢;have st5:=((st4.aW5 1 rfl (o:=0) (v:=.int .i64 f) (by omega)).aW5 1 rfl (o:=1) (v:=.slice s4 (dP l m).length c4) (by omega));exact bodyPost_ret (v:=.tuple #[.agg #[.int .i64 f,.slice s4 (dP l m).length c4],.int .i64 0]) (by simp[results,results324,go_sem,rl]) rfl ⟨_,rfl,hown',st5.below⟩
end
section
open Go.RowKit Go.Shelf
def yC (l:List (Nat×Nat)):Nat:=l.foldl (λs x=>jF s x.2) 0
theorem aKq (l:List (Nat×Nat))(x:Nat×Nat):yC (l++[x])=jF (yC l) x.2:=by simp[yC]
theorem aI2 :∀(l:List (Nat×Nat)) (s:Nat),s<=aJ->l.foldl (λs x=>jF s x.2) s<=aJ
 |[],_,h=>h
 |x::l,s,_=>aI2 l (jF s x.2) (lB _ _)
theorem aJw (l:List (Nat×Nat)):yC l<=aJ:=aI2 l 0 (cJ _)
theorem aH3 (s:Option Addr)(n cap:Nat)(w:World):
  Calls prog 330 #[.slice s n cap] w λe w'=>e=.returned (.func (.func 335) #[] #[pv w.heap.size 0])/\w'=w.alloc (.cells #[.slice s n cap] 99):=by
 go_enter func330,ntmps330;go_wp2_with fail;go_ret;exact⟨rfl,rfl⟩
def iQ (l:List (Nat×Nat)):List ((Nat×Nat)×Nat):=(List.range l.length).map λi=>(l.getD i (0,0),yC (l.take (i+1)))
theorem aAa (l:List (Nat×Nat)):(iQ l).length=l.length:=by simp[iQ]
theorem aHq (l:List (Nat×Nat)){k:Nat}{x:Nat×Nat}(hx:l[k]? =some x):(iQ l).take k++[(x,yC (l.take (k+1)))]=(iQ l).take (k+1):=by
 obtain⟨hk,e⟩:=gJ.1 hx;have h2:(iQ l)[k]? =some (x,yC (l.take (k+1))):=by
  have hr:(List.range l.length)[k]? =some k:=List.getElem?_range hk;have hd:l.getD k (0,0)=x:=by rw[List.getD,hx];rfl
  rw[iQ,List.getElem?_map,hr,Option.map_some,hd]
 rw[List.take_add_one (l:=iQ l),h2];rfl
def KpR (bl:List cH)(s:Option Addr)(l:List (Nat×Nat))(A B:World):Prop:=KpB bl A B/\(Rd 2 iS A s l->Rd 2 iS B s l)
theorem aPa (bl:List cH)(Bw:Nat)(l:List (Nat×Nat))(hp:nJ l)(hlen:l.length<=1000000)(s:Option Addr)(cap:Nat)(hcap:l.length<=cap)(hBw:(Bw,#[.slice s l.length cap],99)∈bl)
  (n:Nat) (hn:1<=n) (lb:Nat) (J Jx:List ((Nat×Nat)×Nat)->World->Prop) (bJ:jJ none J)
  (hY:∀(pre:List ((Nat×Nat)×Nat)) (x:(Nat×Nat)×Nat) (W:World),J pre W->x.2<=aJ->pre.length<(iQ l).length->YieldAt Fence.wide (n-1) prog lb #[.agg #[.int .i64 (x.1.1:Nat),.int .u64 (x.1.2:Nat)],.int .u64 (x.2:Nat)] W λe W'=>
   (e=.returned (.bool true)/\J (pre++[x]) W'/\KpR bl s l W W')\/(e=.returned (.bool false)/\Jx (pre++[x]) W'))
  (W:World) (hW:eR bl W) (hRd:Rd 2 iS W s l) (h0:J [] W):
  CallsIn Fence.wide n prog 335 #[.func (.yield lb) #[] #[],pv Bw 0] W λe W'=>(∃v,e=.returned v)/\
   ((∃xs,xs=iQ l/\J xs W')\/(∃pre,pre<+:iQ l/\Jx pre W')):=by
 have hcw:=aE (hW _ hBw) 0;refine callsIn_of_wp func335 rfl trivial ?_ rfl;simp only[ntmps335,List.size_toArray,List.length_cons,List.length_nil,Nat.reduceAdd,Nat.reduceSub,Array.replicate_succ,Array.replicate_zero,List.push_toArray,List.append_toArray,List.nil_append,List.cons_append];gi_wp2_with fail;clear hcw
 gi_loopw [3,8] (λsm i wr=>∃k:Nat,k<=l.length/\i=.int .i64 k/\(∃z:Nat,z=yC (l.take k)/\sm=.int .u64 (z:Nat))/\eR bl wr/\Rd 2 iS wr s l/\J ((iQ l).take k) wr) (λ_ i _=>l.length-(intOf i).toNat)
 case atStart=>exact⟨0,by omega,rfl,⟨0,rfl,rfl⟩,hW,hRd,h0⟩
 case round=>
  clear hW h0 hRd;obtain⟨k,hk,rfl,⟨z,hz,rfl⟩,hb,hRd,hJ⟩:=hrel
  by_cases hlt:k<l.length
  .obtain⟨x,hx⟩:∃x,l[k]? =some x:=⟨_,cZ hlt⟩;obtain⟨g,o,rfl,hg,hc1,hc2⟩:=qS hRd hx;have HN:=aA (aHq l hx);have hzl:z<=aJ:=by rw[hz];exact aJw _
   have hS:Hid (yC (l.take (k+1))=jF z x.2):=by
    show _=_;rw[List.take_add_one,hx,hz];exact aKq _ _
   have hxn:=(hp x (bK hx)).2;obtain⟨xa,xn⟩:=x;simp only at hc1 hc2 HN hS hxn;have HT:=aA (λA W hA=>pV A z xn hzl hxn W hA);clear hx hz hxn;gi_wp2_with fail;have hb2:Below wr.heap.size wr ((wr.alloc (.cells #[.int .i64 (xa:Nat),.int .u64 (xn:Nat)] 277)).alloc (.cells #[.int .u64 (z:Nat),.int .u64 (xn:Nat)] 22)):=(aW.alloc aH _).alloc (by simp) _;have hA:((wr.alloc (.cells #[.int .i64 (xa:Nat),.int .u64 (xn:Nat)] 277)).alloc (.cells #[.int .u64 (z:Nat),.int .u64 (xn:Nat)] 22)).heap[wr.heap.size+1]? =some (.cells #[.int .u64 (z:Nat),.int .u64 (xn:Nat)] 22 (0,0)):=by
    have:=kH (wr.alloc (.cells #[.int .i64 (xa:Nat),.int .u64 (xn:Nat)] 277)) (.cells #[.int .u64 (z:Nat),.int .u64 (xn:Nat)] 22);rwa[World.size_alloc] at this
   have hB:((wr.alloc (.cells #[.int .i64 (xa:Nat),.int .u64 (xn:Nat)] 277)).alloc (.cells #[.int .u64 (z:Nat),.int .u64 (xn:Nat)] 22)).heap[wr.heap.size]? =some (.cells #[.int .i64 (xa:Nat),.int .u64 (xn:Nat)] 277 (0,0)):=(Below.heap_alloc _ _ _ (by simp)).trans (kH _ _);refine⟨trivial,(callsIn_wide.2 (HT.out (wr.heap.size+1) _ hA)).mono ?_⟩;rintro e w2 ⟨rfl,rfl⟩;have hJ4:=bJ _ _ _ hJ (aU hb2 none);have hl4:=hb.below hb2;have hr4:=hRd.aWu aH hb2;rw[<-hS.out];have hsl:=aJw (l.take (k+1));obtain⟨fn,tmps,assign,body,hy,hR⟩:=hY ((iQ l).take k) ((xa,xn),yC (l.take (k+1))) _ hJ4 hsl (by rw[List.length_take,aAa];omega);obtain⟨z',hz'⟩:∃z',yC (l.take (k+1))=z':=⟨_,rfl⟩;have HZ:=aA hz';rw[hz'] at hy hR⊢;have hc0:=aE hB;clear hA hB hJ hb hz' hS hsl hc1 hc2 HT hRd;gi_wp2_with fail;refine hR.mono ?_;rintro e W3 (⟨rfl,hJ3,hk3⟩|⟨rfl,hJx3⟩)
   .have hJ5:J ((iQ l).take (k+1)) W3:=by rw[<-HN.out,HZ.out];exact hJ3
    have hb3:=hl4.keep hk3.1;have hr3:=hk3.2 hr4;clear hy hR hJ4 hl4 hY hJ3 hb2 hc0;gi_wp2_with fail;go_roundw
    case rel=>exact⟨k+1,hlt,by go_num,⟨z',HZ.out.symm,rfl⟩,hb3,hr3,hJ5⟩
    case measure=>simp[intOf];omega
   .have hJ5:Jx ((iQ l).take (k+1)) W3:=by rw[<-HN.out,HZ.out];exact hJx3
    clear hy hR hJ4 hl4 hY hJx3 hb2 hc0;gi_wp2_with fail;refine bodyPost_ret (results_none rfl _ _ _) rfl ?_;exact⟨⟨_,rfl⟩,.inr ⟨_,List.take_prefix _ _,hJ5⟩⟩
  .obtain rfl:k=l.length:=by omega
   rw[List.take_of_length_le (by rw[aAa];exact aH)] at hJ;clear hY;gi_wp2_with fail;go_end0;exact⟨⟨_,rfl⟩,.inl ⟨_,rfl,hJ⟩⟩
theorem aNu (bl:List cH)(Bw:Nat)(l:List (Nat×Nat))(hp:nJ l)(hlen:l.length<=1000000)(s:Option Addr)(cap:Nat)(hcap:l.length<=cap)(hBw:(Bw,#[.slice s l.length cap],99)∈bl)(n:Nat)(hn:1<=n)(W:World)(hW:eR bl W)(hRd:Rd 2 iS W s l):
  aBd Fence.wide n prog 335 #[pv Bw 0] (λx:(Nat×Nat)×Nat=> #[Value.agg #[.int .i64 (x.1.1:Nat),.int .u64 (x.1.2:Nat)],.int .u64 (x.2:Nat)]) (λx _=>x.2<=aJ) (KpR bl s l) (λxs=>xs=iQ l) (λpre=>pre<+:iQ l) (iQ l).length none W:=λlb J Jx bJ _ hY h0=>
 aPa bl Bw l hp hlen s cap hcap hBw n hn lb J Jx bJ hY W hW hRd h0
end
section
open Go.RowKit Go.Shelf
def aTg (f:Nat)(w:World)(s:Option Addr)(n cap b1 b2 b:Nat)(last:Nat)(_:List ((Nat×Nat)×Nat))(W:World):Prop:=
 ∃z:Nat,z<=aJ/\St w [(b,#[.slice s n cap],99),(b2,#[.int .i64 (last:Nat)],3),(b1,#[.int .u64 (z:Nat)],22),(w.heap.size,#[.int .i64 f,.slice s n cap],101)] (λ_=>True) W
def aVr (f:Nat)(w:World)(s:Option Addr)(n cap b1 b2 b:Nat)(last:Nat)(c:Code)(pre:List ((Nat×Nat)×Nat))(W:World):Prop:=c=.exit 0/\aTg f w s n cap b1 b2 b last pre W
def AxR (w:World)(x:(Nat×Nat)×Nat)(c:Nat)(W:World):Prop:=x.2<=aJ/\w.heap.size<=c/\W.heap[c]? =some (.cells #[.int .i64 (x.1.1:Nat),.int .u64 (x.1.2:Nat)] 277 (0,0))
theorem AxR.own (w:World)(x:(Nat×Nat)×Nat)(c n:Nat):OwnFrom n (λ(_:Unit) W=>AxR w x c W):=by
 rintro _ A B row ⟨h1,h2,h3⟩ hg hr;exact⟨h1,h2,(hg.block c (aC h3) (λe=>by
  obtain⟨_,o,ho,hc⟩:=hr _ e.symm;rw[h3] at ho;cases ho;simp[Obj.isCells] at hc)).trans h3⟩
attribute [local go_sem] Oper.semAt_some
theorem aGf {f:Nat}(hf:f<=3)(l:List (Nat×Nat))(hl:iR f l)(s:Option Addr)(cap:Nat)(hlen:l.length<=100000)(hcap:l.length<=cap)(v:Nat)(hv:v<=aJ)(w:World)(hL:Rd 2 iS w s l):
  Calls prog 322 #[pY f s l.length cap,.int .u64 v] w λe w'=>(∃z:Nat,z<=aJ/\e=.returned (.int .u64 z))/\RowKit.Below w.heap.size w w':=by
 have HRT:=aA (λW hW=>iL hf l hl s cap (by omega) hcap W hW);have hL':=aA hL;have HBK:=aA (λW=>lX hf v hv W);have hbk:=aIi hf v hv;obtain⟨last,hlast⟩:∃last,vQ f v=last:=⟨_,rfl⟩;rw[hlast] at HBK hbk;clear hlast;have st0:=((St.start w).alloc (cs:= #[.int .i64 f,.slice s l.length cap]) (T:=101)).alloc (cs:= #[.int .u64 0]) (T:=22);simp only[World.size_alloc] at st0;refine(callsIn_wide (n:=5)).1 ?_;refine callsIn_of_wp_marks func322 rfl trivial ?_ rfl;simp only[ntmps322,List.size_toArray,List.length_cons,List.length_nil,Nat.reduceAdd,Nat.reduceSub,Array.replicate_succ,Array.replicate_zero,List.push_toArray,List.append_toArray,List.nil_append,List.cons_append];refine wpIn_wide.2 ?_;go_wp2_with fail;refine wp_scope_straight ?_;go_wp2_with fail;refine(HRT.out _ (hL.aWu aH st0.below)).mono ?_;rintro e w1 ⟨rfl,hb1⟩;have st1:=st0.to hb1;have rl:=st1.rl;clear st0 hb1 HRT;go_wp2_with fail;refine(HBK.out _).mono ?_;rintro e w2 ⟨rfl,hb2⟩;have stx:=st1.to hb2;have hb2':w.heap.size+1<w2.heap.size:=aC (stx.blk (w.heap.size+1,#[.int .u64 0],22) (by simp));have st2:=stx.alloc (cs:= #[.int .i64 (last:Nat)]) (T:=3);clear st1 hb2 HBK stx;have rl:=st2.rs;have hw2:w.heap.size<=w2.heap.size:=by omega
 go_wp2_with fail;refine wp_label ?_;have hz3:(w2.alloc (.cells #[.int .i64 (last:Nat)] 3)).heap.size=w2.heap.size+1:=by simp
 have HZ3:=aA hz3;clear hz3;generalize w2.alloc (.cells #[.int .i64 (last:Nat)] 3)=w3 at*;go_wp2_with fail;refine(aH3 s l.length cap w3).mono ?_;rintro e w4 ⟨rfl,rfl⟩;clear rl;go_wp2_with fail;have st4:=st2.alloc (cs:= #[.slice s l.length cap]) (T:=99);have hz4:(w3.alloc (.cells #[.slice s l.length cap] 99)).heap.size=w3.heap.size+1:=by simp
 have hw3:w3.heap.size=w2.heap.size+1:=HZ3.out;have hw34:w2.heap.size<w3.heap.size:=by omega
 clear hw3 st2;generalize w3.alloc (.cells #[.slice s l.length cap] 99)=w4 at*;have hlie:eR [(w3.heap.size,#[.slice s l.length cap],99)] w4:=λx hx=>st4.blk x (by simp at hx;rcases hx with rfl;simp);have hz34:w3.heap.size<w4.heap.size:=by omega
 have HZ4:=aA hz4;clear hz4;have stc:aTg f w s l.length cap (w.heap.size+1) w2.heap.size w3.heap.size last [] w4:=⟨0,cJ _,st4⟩;have hr4:=hL.aWu aH st4.below;have hw4:w.heap.size<=w4.heap.size:=st4.below.size;refine(wpIn_wide (n:=5)).1 (bU (n:=5) (b:=none) (λ_ e=>by cases e) rfl (by omega) (gf:=335) (lb:= #[pv w3.heap.size 0]) rfl trivial (enters_of func335 (by kernel_rfl) rfl)
  (λW hb=>aNu _ w3.heap.size l hl.2.1 (by omega) s cap hcap (by simp) 4 (by omega) W (hlie.below hb) (hr4.aWu aH hb)) (λh k=>⟨λx hx=>(k.1 x hx).trans (h.1 x hx),λr=>k.2 (h.2 r)⟩) ?kb (λ_=>rfl)
  (aTg f w s l.length cap (w.heap.size+1) w2.heap.size w3.heap.size last) (aVr f w s l.length cap (w.heap.size+1) w2.heap.size w3.heap.size last)
  (λ_ _ _ _ ⟨z,h1,h2⟩ hg hr=>⟨z,h1,St.own h2 hg hr hw4⟩) (λc _ _ _ _ ⟨h0,z,h1,h2⟩ hg hr=>⟨h0,z,h1,St.own h2 hg hr hw4⟩)
  (λ_ _ _ ⟨z,h1,h2⟩ hg=>⟨z,h1,St.grown h2 hg (λk e=>by cases e)⟩) (λc _ _ _ ⟨h0,z,h1,h2⟩ hg=>⟨h0,z,h1,St.grown h2 hg (λk e=>by cases e)⟩) stc
  (λx c=>{tmps:= #[pY f s l.length cap,.int .u64 v,pv w.heap.size 0,undef,.int .u64 0,pv (w.heap.size+1) 0,pv w2.heap.size 0,pv c 0,.int .u64 (x.2:Nat),.agg #[.int .i64 f,.slice s l.length cap],.bool true,.bool false,undef,pv w.heap.size 0,.int .i64 f,.int .u64 v,.int .i64 (last:Nat),pv w.heap.size 1,.slice s l.length cap,.func (.func 335) #[] #[pv w3.heap.size 0],.agg #[.int .i64 (x.1.1:Nat),.int .u64 (x.1.2:Nat)],.int .u64 (x.2:Nat),undef,undef,undef,undef,undef,undef],defers:=[]})
  (λx c W=>AxR w x c W) (λx c=>AxR.own w x c _) ?assign ?body ?done ?stop)
 case kb=>
  intro W l' o' hl' hlt;refine⟨λx hx=> ?_,λr=> ?_⟩
  .simp at hx;subst hx;exact World.putObj_heap_other (by show w3.heap.size≠_;omega)
  .intro i x hx;obtain⟨g0,o0,e0,hg0,_⟩:=hr4 i x hx;obtain⟨g,o,e,hg,hc⟩:=r i x hx;rw[e0] at e;cases e;refine⟨g0,o0,e0,by simpa[World.putObj] using hg,λj u hu=> ?_⟩;rw[<-hc j u hu];simp only[World.cell?,World.putObj_heap_other (show g0≠l' by omega)]
 case assign=>
  rintro l' pre x W K ⟨z0,hz0,stI⟩ hP hK;have hal:=Below.alloc (Below.refl W.heap.size W) aH (.cells #[.int .i64 (x.1.1:Nat),.int .u64 (x.1.2:Nat)] 277);have HK:=aA (hK W.heap.size (W.alloc (.cells #[.int .i64 (x.1.1:Nat),.int .u64 (x.1.2:Nat)] 277)) (aX hal) ⟨λy hy=>by
    simp at hy;subst hy;have:=aC (stI.blk (w3.heap.size,#[.slice s l.length cap],99) (by simp));exact hal.block _ this,λr=>r.aWu aH hal⟩ ⟨z0,hz0,stI.to hal⟩ ⟨hP,stI.below.size,kH W _⟩)
  clear hK;gi_wp2_with fail;exact HK.out
 case body=>
  rintro l' pre x c W ⟨z0,hz0,stI⟩ ⟨hx2,hcw,hc⟩ hN;have hc0:=aE hc 0;have rl:=stI.rl;obtain⟨⟨xa,xn⟩,xz⟩:=x;simp only at hc0 hx2;clear hc hL hr4 hlie
  by_cases hgt:(last:Int)<(xa:Int)
  .gi_wp2_with fail;exact⟨KeepsOthers.refl _,rfl,z0,hz0,stI⟩
  .gi_wp2_with fail;have st5:=stI.sx 2 rfl (o:=0) (v:=.int .u64 (xz:Nat)) (Nat.le_add_right _ _);refine⟨KeepsOthers.setCell W ⟨w.heap.size+1,0,none⟩ (.int .u64 (xz:Nat)),⟨λy hy=> ?_,λr=> ?_⟩,xz,hx2,st5⟩
   .simp at hy;subst hy;exact Below.heap_setCell W ⟨w.heap.size+1,0,none⟩ _ w3.heap.size (by show w3.heap.size≠w.heap.size+1;omega)
   .exact hL'.out.aWu aH st5.below
 case done=>
  rintro D xs W hD rfl ⟨z0,hz0,st9⟩ hK;have rl:=st9.rl;have hcr:W.cell? ⟨w.heap.size+1,0,none⟩=some (.int .u64 (z0:Nat)):=rl.2.2.2.2.2.2.1 0;clear rl;go_wp2_with fail;refine⟨by simp,.inl ⟨_,_,rfl,run_takeDeferred hK,?_⟩⟩;exact⟨_,by simp[results,results322,go_sem],⟨z0,hz0,rfl⟩,(st9.own (base:=w.heap.size) (grownBy_putObj' W D _) (λr e=>by cases e;exact⟨by omega,_,hK,rfl⟩) aH).below⟩
 case stop=>
  rintro D c pre W hD hp ⟨rfl,z0,hz0,st9⟩ hK;have rl:=st9.rl;have hcr:W.cell? ⟨w.heap.size+1,0,none⟩=some (.int .u64 (z0:Nat)):=rl.2.2.2.2.2.2.1 0;clear rl;refine wpIn_wide.2 ?_;go_wp2_with fail;refine⟨by simp,.inl ⟨_,_,rfl,run_takeDeferred hK,?_⟩⟩;exact⟨_,by simp[results,results322,go_sem],⟨z0,hz0,rfl⟩,(st9.own (base:=w.heap.size) (grownBy_putObj' W D _) (λr e=>by cases e;exact⟨by omega,_,hK,rfl⟩) aH).below⟩
end
section
open Go.RowKit Go.Maps Go.Sort Go.Shelf
theorem aAx {f:Nat}(hf:f<=3)(v n:Nat)(hv:v<=aJ)(hn:n<=aJ){l:List (Nat×Nat)}(h:iR f l):iR f (jU (vQ f v) n l):=
 ⟨xN _ _ _ h.1,wO _ _ hn _ h.2.1,λx hx=>by
  rcases oX _ _ _ _ hx with e|hx
  .rw[e];exact xT hf v hv
  .exact h.2.2 x hx⟩
def aJy (f:Nat)(w:World)(e:Ending)(w':World):Prop:=∃l,iR f l/\kM f w l e w'
theorem aDz {f:Nat}(hf:f+1<=3)(l:List (Nat×Nat))(hl:iR (f+1) l)(s:Option Addr)(cap:Nat)(hlen:l.length<=100000)(hcap:l.length<=cap)(hsm:∀x∈l,x.1<=1000)(w:World)(hL:Rd 2 iS w s l):
  Calls prog 323 #[pY (f+1) s l.length cap] w (aJy f w):=by
 have hf0:f<=3:=by omega
 have st0:=((St.start w).alloc (cs:= #[.int .i64 ((f+1:Nat):Int),.slice s l.length cap]) (T:=101)).alloc (cs:= #[.int .i64 0,.slice none 0 0]) (T:=101);simp only[World.size_alloc] at st0;have HR:=aA (λW hW=>iL hf l hl s cap (by omega) hcap W hW);have HBL:=aA (λW=>uX hf0 W);have HBD:=aA (λa ha W=>rI hf a ha W);have HBK:=aA (λv hv W=>lX hf0 v hv W);obtain⟨c,hc⟩:∃c,f+1=c:=⟨_,rfl⟩;have hc1:(c:Int)-1=(f:Int):=by omega
 have hc3:(c:Int)<=3:=by omega
 have hc0:1<=(c:Int):=by omega
 show Calls prog 323 #[.agg #[.int .i64 ((f+1:Nat):Int),.slice s l.length cap]] w (aJy f w);simp only[pY] at HR;rw[hc] at HR HBD st0⊢;go_enter func323,ntmps323;go_wp2_with fail;refine(HR.out _ (hL.aWu aH st0.below)).mono ?_;rintro e w1 ⟨rfl,hb1⟩;have st1:=st0.to hb1;have rl:=st1.rl;clear st0 hb1 HR;go_wp2_with fail;refine(HBL.out _).mono ?_;rintro e w2 ⟨b,rfl,hB,hM,hb2⟩;have hwb:w.heap.size<=b:=dR st1.below.size hB;have st2:=(st1.to hb2).alloc (cs:= #[.map (some b),.int .i64 f]) (T:=480);have hM2:=hM.alloc (.cells #[.map (some b),.int .i64 f] 480);have hw12:w.heap.size+1<w2.heap.size:=by
  have h1:=aC (st1.blk (w.heap.size+1,#[.int .i64 0,.slice none 0 0],101) (by simp));have:=hb2.size;omega
 have rl:=st2.rs;clear st1 hb2 hM HBL;go_wp2_with fail;clear hc1
 go_loopw [30] (λi wr=>∃k:Nat,k<=l.length/\i=.int .i64 k/\(∃M,iR f M/\M.length<=k/\dE wr b k M)/\St w [(w2.heap.size,#[.map (some b),.int .i64 f],480),(w.heap.size+1,#[.int .i64 0,.slice none 0 0],101),(w.heap.size,#[.int .i64 c,.slice s l.length cap],101)] (λ_=>True) wr) (λi _=>l.length-(intOf i).toNat)
 case atStart=>exact⟨0,cJ _,rfl,⟨[],⟨List.Pairwise.nil,by simp[nJ],by simp⟩,aH,hM2⟩,st2⟩
 case round=>
  clear rl st2 hM2;obtain⟨k,hk,rfl,⟨M,hgM,hMl,hMk⟩,st⟩:=hrel;have rl:=st.rl;have hMs:∀x∈M,x.1<=1000:=λx hx=>nP hf0 (hgM.2.2 x hx)
  by_cases hlt:k<l.length
  .obtain⟨x,hx⟩:∃x,l[k]? =some x:=⟨_,cZ hlt⟩;obtain⟨g,o,rfl,hg,hc1,hc2⟩:=qS (hL.aWu aH st.below) hx;have hgb:=hl.2.2 x (bK hx);have hx2:=hl.2.1 x (bK hx);obtain⟨xa,xn⟩:=x;simp only at hc1 hc2 hgb hx2;have HBX:=aA (λW=>HBD.out xa (by rw[<-hc];exact hgb) W);have stb:=st.alloc (cs:= #[.int .i64 (xa:Nat),.int .u64 (xn:Nat)]) (T:=277);have hMb:=hMk.alloc (.cells #[.int .i64 (xa:Nat),.int .u64 (xn:Nat)] 277);clear hx hMk HBD hgb;go_wp2_with fail;refine(HBX.out _).mono ?_;rintro e w3 ⟨⟨y,z,hy,rfl⟩,hb3⟩;have st3:=stb.to hb3;have hM3:=dE.below hMb hb3;have hgP:=aAx hf0 y xn hy hx2.2 hgM;have HPU:=aA (λW hW=>pG hf0 b k M hgM.1 (λx hx=>(hgM.2.1 x hx).2) (vQ f y) xn (nP hf0 (xT hf0 y hy)) hx2.2 (by omega) W hW);rw[aDk hx2.1 hx2.2 hgM.1 hgM.2.1] at HPU;have hPl:=dR (aE2 (vQ f y) xn hx2.2 M hgM.1 hgM.2.1) (Nat.succ_le_succ hMl);have HBY:=aA (λW=>HBK.out y hy W);generalize jU (vQ f y) xn M=M' at*;generalize vQ f y=q at*;clear rl stb hMb hb3 st HBX hc1 hc2 hx2 hy;have rl:=st3.rl;go_wp2_with fail;clear rl;have st3E:=st3.aXp (F:=λW=>dE W b k M) hM3 (λ_ _ h hb=>dE.below h hb);obtain⟨bl5,E5,hne5,sh5,rl,hEx,hbx,hst⟩:=st3E.aW1;refine bP sh5 7 (by kernel_rfl) (by kernel_rfl) ?_;simp only[List.take_succ_cons,List.take_zero,List.drop_succ_cons,List.drop_zero];simp only[aI] at rl
   repeat(first|go_big_quiet_step ((go_at_call 328;exact Cs.call (HBY.out _)))|quiet_step ((go_at_call 328;exact Cs.call (HBY.out _))))
   refine wpQuiet_nil ?_;intro y9;have st4E:=(hst y9).out;have hM4:=st4E.ex.2;have st4:=st4E.aW3 (F:=λ_=>True) trivial (λ_ _ _ _=>trivial);clear hbx rl hst sh5 hEx st3 st3E hM3 st4E;generalize y9.W=w4 at*;go_wp2_with fail;refine(HPU.out _ hM4).mono ?_;rintro e w5 ⟨rfl,hM5,hg5⟩;have st5:=st4.aW6 hg5 hwb (dE.aXd hM4 st4);clear st4 hM4 hg5 HPU HBY;go_wp2_with fail;go_roundw
   case rel=>exact⟨k+1,hlt,by go_num,⟨M',hgP,hPl,hM5⟩,st5.less _ (List.sublist_cons_self _ _)⟩
   case measure=>simp[intOf];omega
  .obtain rfl:k=l.length:=by omega
   have HDN:=aA (qK hf0 w b l.length M hgM.1 (by omega) hMs wr hMk st.below hwb);rw[lV hgM.2.1] at HDN;have HGM:=aA hgM;clear hgM hMs;go_wp2_with fail;refine HDN.out.mono ?_;rintro e w4 ⟨vv,rfl,hown,hg4⟩;have st4:=st.aW6 hg4 hwb (dE.aXd hMk st);obtain⟨s4,c4,rfl,h4a,h4b,h4c,h4d,h4e⟩:=hown.form fW;have hw3:=st.below.size;have rl:=st4.rl;go_wp2_with fail;have hbH:w.heap.size+1<wr.heap.size:=aC (st.blk (w.heap.size+1,#[.int .i64 0,.slice none 0 0],101) (by simp));have g1:=bZ w4 (w.heap.size+1) 0 (.int .i64 f);have g2:=bZ (w4.setCell ⟨w.heap.size+1,0,none⟩ (.int .i64 f)) (w.heap.size+1) 1 (.slice s4 M.length c4);have hown':=aL.base (aL.other (aL.other hown g1 hbH) g2 hbH) hw3;have st5:=((st4.aW5 1 rfl (o:=0) (v:=.int .i64 f) (by omega)).aW5 1 rfl (o:=1) (v:=.slice s4 M.length c4) (by omega));exact bodyPost_ret (v:=.tuple #[.agg #[.int .i64 f,.slice s4 M.length c4],.int .i64 0]) (by simp[results,results323,go_sem,rl]) rfl ⟨M,HGM.out,_,rfl,hown',st5.below⟩
end
end Go.Proofs.YtmgdbfmlnmahpaaGreatDoor
