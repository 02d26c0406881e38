/- Part of TopAudits. -/
import Derived.Test.YtmgdbfmlnmahpaaGreatDoorG28
import Derived.Lib.TrimU
import Derived.Shelf.SlSortCmp.InsertionK
import Derived.Test.YtmgdbfmlnmahpaaGreatDoorG29
namespace Go.Proofs.YtmgdbfmlnmahpaaGreatDoor
set_option linter.unusedSimpArgs false
set_option linter.unusedVariables false
set_option maxRecDepth 100000
set_option maxHeartbeats 4000000
open Go.Proofs.Tryz
open Go.RowKit Go.Shelf
section
variable {B b m:Nat} {W:World}
def uK :kZ->List Nat->Option kZ
 |x,[]=>some x
 |x,c::r=>match jK x c with
  |none=>none
  |some y=>uK y r
def aE4 (s:ByteArray):Option (List dQ):=((uK kZ.start (bY s 0)).bind qM).map (·.L)
theorem jO.iterAt {x:kZ}(h:jO B W b m x){k:Nat}{s:ByteArray}{pos:Nat}(hk:W.heap[k]? =some (.stringIter s pos))(pos':Nat):jO B (W.iterAt k s pos') b m x:=by
 obtain⟨v,hr,ho⟩:=h;have hg:W.grownBy (W.iterAt k s pos') (some k):=⟨rfl,rfl,rfl,by rw[Lib.iterAt_size];exact aH,λj _ hj=>Lib.iterAt_other W k j s pos' (λe=>hj (by rw[e]))⟩;have hbk:b≠k:=by rintro rfl;have:=hr.blk;rw[hk] at this;cases this
 have hmk:m≠k:=by
  rintro rfl;obtain⟨es,clock,hb,_⟩:=hr.map;rw[hk] at hb;cases hb
 refine⟨v,⟨(Lib.iterAt_other W k b s pos' hbk).trans hr.blk,hr.map.kept hg (λr e=>by cases e;exact hmk.symm)⟩,World.ownsRow.kept (row:=some k) ho hg ?_⟩;rcases ho.2 with⟨rfl,_⟩|⟨g,cap,cur,rfl,_,hgb,_⟩
 .exact .inl rfl
 .refine .inr λe'=> ?_;obtain rfl:g=k:=by simpa[Value.ownBlock] using e'
  rw[hk] at hgb;cases hgb
theorem jO.aWu {W':World}{x:kZ}(h:jO B W b m x)(hb:Below W.heap.size W W'):jO B W' b m x:=by
 obtain⟨v,hr,ho⟩:=h;exact⟨v,⟨(hb.block b (aC hr.blk)).trans hr.blk,hr.map.kept (aU hb none) (λr e=>by cases e)⟩,aL.keep _ _ ho hb⟩
theorem aQ7 {x y:kZ}(h:qM x=some y):1<=y.L.length:=by
 unfold qM at h;split at h
 .cases h
 .cases h;simp
def aVh (w:World)(s:ByteArray)(e:Ending)(w':World):Prop:=
 (∃(d:Hd) (L:List dQ),e=.returned (.tuple #[d.v L.length,.nilIface])/\aL 2 cO 229 w' w.heap.size (d.v L.length) L/\(1<=L.length/\L.length<=6)/\(∀y∈L,y.name.size<=4*s.size/\y.val.size<=4*s.size)/\(s=⟨#[97,61,120]⟩->L=[bA]))\/
 (∃(d:Hd) (n:Nat) (f:ByteArray),e=.returned (.tuple #[d.v n,flt f])/\s≠⟨#[97,61,120]⟩)
theorem xQ :aE4 ⟨#[97,61,120]⟩=some [bA]:=by
 unfold aE4;rw[zX];rfl
structure RdI (w:World)(k b m:Nat)(s:ByteArray)(pos:Nat)(x:kZ)(W:World):Prop where
 r:jO w.heap.size W b m x
 i:W.heap[k]? =some (.stringIter s pos)
 b:Below w.heap.size w W
 ok:∃n,x.Ok (4*n)/\n<=pos/\n<=s.size
 f:uK x (bY s pos)=uK kZ.start (bY s 0)
theorem aM9 (s:ByteArray)(hs:s.size<=2000)(w:World)(hG:aQ w):Calls prog 104 #[.string s] w λe w'=>aVh w s e w'/\Below w.heap.size w w':=by
 have HU:=aA (tK s (by omega) w hG);have HS:=aA hs;clear hG hs;go_enter func104,ntmps104;go_wp2_with fail;refine wp_scope_straight ?_;go_wp2_with fail;refine HU.out.mono ?_;rintro e w1 ⟨⟨n,ok,rfl,hn,hok⟩,hb1⟩;have HK:=aA hok;clear hok HU;cases ok with
 |false=>
  go_wp2_with fail;rw[Exit.noGoto_ret];go_ret2;refine⟨.inr ⟨⟨none,0⟩,0,_,rfl,?_⟩,hb1⟩;rintro rfl;have:=(HK.out (by rw[zX];simp)).1;cases this
 |true=>
 clear hn HK;go_wp2_with fail;refine(yY _).mono ?_;rintro e w2 ⟨b,m,rfl,hb,hr,hb2⟩;have hal:=(Below.refl w2.heap.size w2).alloc aH (.stringIter s 0);have hbw:w.heap.size<=b:=dR hb1.size hb;have hbk:b<w2.heap.size:=aC hr.blk;have hR:jO w.heap.size w2 b m kZ.start:=⟨_,hr,aL.nil _ _⟩;have hkw:w.heap.size<=w2.heap.size:=dR hb1.size hb2.size;have HI:RdI w w2.heap.size b m s 0 kZ.start (w2.iter s 0):=⟨hR.aWu hal,World.iter_heap _ _ _,(hb1.trans (hb2.mono hb1.size)).trans (hal.mono hkw),⟨0,⟨cJ _,cJ _,cJ _,cJ _,cJ _,λy hy=>by cases hy⟩,cJ _,cJ _⟩,rfl⟩;clear hb1 hb hr hb2 hal hR;go_wp2_with fail;refine wp_label ?_;go_wp2_with fail;generalize w2.iter s 0=v0 at*;generalize w2.heap.size=k at*
 go_loopw [7] (λt wr=>t=.nilIface/\∃(pos:Nat) (x:kZ),RdI w k b m s pos x wr) (λ_ wr=>s.size-wr.iterPos k)
 case atStart=>exact⟨rfl,0,_,HI⟩
 case round=>
  clear HI;obtain⟨rfl,pos,x,HI⟩:=hrel
  by_cases hp:pos<s.size
  .have hnx:∀ty,(Instr.next (pv k 0) true ty).run prog wr=_:=λty=>Lib.run_next_any_at wr k s pos ty HI.i hp;have hwd:=jR s pos hp;have hstep:=kT s pos hp;have HI2:jO w.heap.size (wr.iterAt k s (pos+(Utf8.decode s pos).2)) b m x:=HI.r.iterAt HI.i _;have hit2:=Lib.iterAt_heap wr k s pos (pos+(Utf8.decode s pos).2) HI.i;have hbw2:=Lib.below_iterAt HI.b hkw s (pos+(Utf8.decode s pos).2);have hm0:wr.iterPos k=pos:=by simp[World.iterPos,HI.i]
   have hf:=HI.f;rw[hstep] at hf;obtain⟨n,hok,hn1,hn2⟩:=HI.ok;have hle:=Lib.rune_le s pos;generalize wr.iterAt k s (pos+(Utf8.decode s pos).2)=w3 at*;generalize(Utf8.decode s pos).2=wd at*;generalize(Utf8.decode s pos).1=rn at*;have HH:=aA (aB hit2 (aB hbw2 (aB hm0 (aB hf (aB hwd (aB hp (aB hn1 hn2)))))));have HST:=aA (aO4 w.heap.size b m hbw (4*n) (by have:=HS.out;omega) x hok rn hle w3 HI2);have HOK:=aA hok;clear HI hstep HI2 hit2 hbw2 hm0 hf hwd hle hn1 hn2 hok;go_wp2_with fail;refine HST.out.mono ?_;rintro e w4 ⟨hor,hb4,hk4⟩;have hi4:=hk4.iter HH.out.1 (by omega);have HB4:=aA (HH.out.2.1.trans hb4);have HI4:=aA hi4;clear hb4 hk4 HST hi4;rcases hor with⟨y,hy,rfl,hr⟩|⟨hy,⟨f,rfl⟩,z,hz⟩
   .have HR:=aA hr;have HY:=aA hy;clear hr hy;go_wp2_with fail;go_roundw
    case rel=>
     refine⟨rfl,pos+wd,y,HR.out,HI4.out,HB4.out,⟨n+1,(aOx HOK.out HY.out).mono (by omega),?_,?_⟩,?_⟩
     .have:=HH.out;omega
     .have:=HH.out;omega
     .rw[<-HH.out.2.2.2.1];simp only[uK,HY.out]
    case measure=>
     have hm4:w4.iterPos k=pos+wd:=by simp[World.iterPos,HI4.out]
     rw[hm4,HH.out.2.2.1];have:=HH.out;omega
   .have hne:s≠⟨#[97,61,120]⟩:=by
     rintro rfl;have h1:=xQ;have h2:=HH.out.2.2.2.1;unfold aE4 at h1;rw[<-h2] at h1;simp only[uK,hy] at h1;cases h1
    obtain⟨v,hr,ho⟩:=hz;have hcl:=aE hr.blk;obtain⟨ss,sc,rfl,-⟩:=ho.form cE;have HNE:=aA hne;clear hr ho hne hy;go_wp2_with fail;rw[Exit.noGoto_ret];go_ret2;exact⟨.inr ⟨⟨ss,sc⟩,_,f,rfl,HNE.out⟩,HB4.out⟩
  .have hnx:∀ty,(Instr.next (pv k 0) true ty).run prog wr=_:=λty=>Lib.run_next_end_at wr k s pos ty HI.i hp;obtain⟨n,hok,hn1,hn2⟩:=HI.ok;have hf:=HI.f;rw[qT s pos hp] at hf;have HEN:=aA (aJc w.heap.size b m hbw (4*n) (by have:=HS.out;omega) x hok wr HI.r);have HH:=aA (aB hf (aB hok (aB hn2 HI.b)));clear HI hf hok hn1 hn2;go_wp2_with fail;refine HEN.out.mono ?_;rintro e w4 ⟨hor,hb4,hk4⟩;have HB4:=aA (HH.out.2.2.2.trans hb4);clear hb4 hk4 HEN;rcases hor with⟨y,hy,rfl,hr⟩|⟨hy,⟨f,rfl⟩,z,hz⟩
   .have hyk:=aJa HH.out.2.1 hy;have hne1:=aQ7 hy;have HAX:Hid (s=⟨#[97,61,120]⟩->y.L=[bA]):=by
     rintro rfl;have h1:=xQ;unfold aE4 at h1;rw[<-HH.out.1] at h1;simp only[uK,Option.bind_some,hy,Option.map_some,Option.some.injEq] at h1;exact h1
    obtain⟨v,hr,ho⟩:=hr;have hcl:=aE hr.blk;obtain⟨ss,sc,rfl,-⟩:=ho.form cE;have HO:=aA (aB ho (aB hyk hne1));clear hr ho hy hyk hne1;go_wp2_with fail;rw[Exit.noGoto_ret];go_ret2;exact⟨.inl ⟨⟨ss,sc⟩,y.L,rfl,HO.out.1,⟨HO.out.2.2,HO.out.2.1.len⟩,λz hz=>by have:=HO.out.2.1.ls z hz;have:=HH.out.2.2.1;omega,HAX.out⟩,HB4.out⟩
   .have hne:s≠⟨#[97,61,120]⟩:=by
     rintro rfl;have h1:=xQ;unfold aE4 at h1;rw[<-HH.out.1] at h1;simp only[uK,Option.bind_some,hy] at h1;cases h1
    obtain⟨v,hr,ho⟩:=hz;have hcl:=aE hr.blk;obtain⟨ss,sc,rfl,-⟩:=ho.form cE;have HNE:=aA hne;clear hr ho hne hy;go_wp2_with fail;rw[Exit.noGoto_ret];go_ret2;exact⟨.inr ⟨⟨ss,sc⟩,_,f,rfl,HNE.out⟩,HB4.out⟩
end
def aTj :Go.Shelf.Ren:=⟨fun|20=>186|n=>n,fun|22=>161|24=>229|25=>231|n=>n,λn=>n⟩
theorem aQp :SlLaysF0.n20 prog aTj:={
 mixed:=by kernel_rfl
 f20:=⟨Tryz.f186.name,by decide,func186.trans (congrArg some (by kernel_rfl))⟩
 t0:=underlying0
 a0:=isAgg0
 z0:=sizeOf0
 v0:=zeroValue0
 t3:=underlying3
 a3:=isAgg3
 z3:=sizeOf3
 v3:=zeroValue3
 t4:=underlying4
 a4:=isAgg4
 z4:=sizeOf4
 v4:=zeroValue4
 t22:=underlying161
 a22:=isAgg161
 z22:=sizeOf161
 v22:=zeroValue161
 t25:=underlying231
 a25:=isAgg231
 z25:=sizeOf231
 v25:=zeroValue231}
instance :Inhabited dQ:=⟨⟨⟨#[]⟩,⟨#[]⟩⟩⟩
def cfL (x y:dQ):Int:=if Op.bytesLess x.name.toList y.name.toList then-1 else if(x.name.toList==y.name.toList) then 0 else 1
theorem iC (s:ByteArray)(w:World):Calls prog 154 #[.string s] w λe w'=>e=.returned (.bool false)/\w'=w:=by
 have hq:(s.toList==s.toList)=true:=beq_self_eq_true _;go_enter func154,ntmps154;go_wp2_with fail;go_ret;exact⟨rfl,rfl⟩
theorem aP5 (s t:ByteArray)(w:World):Calls prog 108 #[.string s,.string t] w λe w'=>e=.returned (.int .i64 (cfL ⟨s,⟨#[]⟩⟩ ⟨t,⟨#[]⟩⟩))/\w'=w:=by
 unfold cfL;simp only;cases h1:Op.bytesLess s.toList t.toList with
 |true=>
  rw[if_pos rfl];go_enter func108,ntmps108;go_wp2_with fail;refine(iC _ _).mono ?_;rintro e w1 ⟨rfl,rfl⟩;go_wp2_with fail;refine(iC _ _).mono ?_;rintro e w1 ⟨rfl,rfl⟩;go_wp2_with fail;go_ret;exact⟨rfl,rfl⟩
 |false=>
  rw[if_neg (by simp)];cases h2:(s.toList==t.toList) with
  |true=>
   rw[if_pos rfl];go_enter func108,ntmps108;go_wp2_with fail;refine(iC _ _).mono ?_;rintro e w1 ⟨rfl,rfl⟩;go_wp2_with fail;refine(iC _ _).mono ?_;rintro e w1 ⟨rfl,rfl⟩;go_wp2_with fail;go_ret;exact⟨rfl,rfl⟩
  |false=>
   rw[if_neg (by simp)];go_enter func108,ntmps108;go_wp2_with fail;refine(iC _ _).mono ?_;rintro e w1 ⟨rfl,rfl⟩;go_wp2_with fail;refine(iC _ _).mono ?_;rintro e w1 ⟨rfl,rfl⟩;go_wp2_with fail;go_ret;exact⟨rfl,rfl⟩
theorem aIf (x y:dQ)(w:World):Calls prog 107 #[.agg #[.string x.name,.string x.val],.agg #[.string y.name,.string y.val]] w λe w'=>e=.returned (.int .i64 (cfL x y))/\w'=(w.alloc (.cells #[.string x.name,.string x.val] 229)).alloc (.cells #[.string y.name,.string y.val] 229):=by
 have HC:=aA (λW=>aP5 x.name y.name W);obtain⟨a,b⟩:=x;obtain⟨c,d⟩:=y;change Hid (∀W,Calls prog 108 #[.string a,.string c] W λe w'=>e=.returned (.int .i64 (cfL ⟨a,b⟩ ⟨c,d⟩))/\w'=W) at HC;go_enter func107,ntmps107;go_wp2_with fail;refine(HC.out _).mono ?_;rintro e w1 ⟨rfl,rfl⟩;go_wp2_with fail;go_ret;exact⟨rfl,rfl⟩
open Go.Sort in
theorem pU (lt:dQ->dQ->Bool):∀(j:Nat) (d:Array dQ),j<d.size->PermIn 0 d.size d (insInner lt 0 j d)
 |0,d,_=>permIn_refl _ _ _
 |j+1,d,h=>by
  unfold insInner;split
  .have h1:=swp_permIn d 0 d.size (j+1) j (cJ _) h (cJ _) (by omega) aH;have h2:=pU lt j (swp d (j+1) j) (by rw[swp_size];omega);rw[swp_size] at h2;exact permIn_trans _ _ _ _ _ h1 h2
  .exact permIn_refl _ _ _
open Go.Sort in
theorem pZ (lt:dQ->dQ->Bool)(n:Nat):∀(m i:Nat) (d:Array dQ),n-i=m->d.size=n->PermIn 0 n d (insOuter lt 0 n i d)
 |0,i,d,hm,hn=>by
  rw[insOuter,if_neg (by omega)];exact permIn_refl _ _ _
 |m+1,i,d,hm,hn=>by
  rw[insOuter,if_pos (by omega)];have h1:=pU lt i d (by omega);rw[hn] at h1;exact permIn_trans _ _ _ _ _ h1 (pZ lt n m (i+1) _ (by omega) (h1.1.trans hn))
open Go.Sort in
theorem aBh {W:World}{g:Nat}{dk:Array dQ}(h:HoldsK cO 2 W g 0 dk)(hg:g<W.heap.size):Rd 2 cO W (some ⟨g,0,none⟩) dk.toList:=by
 intro i x hx;refine⟨g,0,rfl,hg,λj u hu=> ?_⟩;have hi:i<dk.size:=by have:=(gJ.1 hx).1;simpa using this
 have hj:j<2:=by have:=(gJ.1 hu).1;rwa[cE] at this
 have h1:=(h (i*2+j) (by rw[size_flatK];omega)).1;rw[get_flatK _ _ _ _ (by omega),show(i*2+j)/2=i by omega,show(i*2+j)%2=j by omega] at h1;have hxx:dk[i]! =x:=by
  rw[getElem!_pos dk i hi];have:=(gJ.1 hx).2
  simpa using this
 have huu:(cO x)[j]! =u:=by rw[List.getElem!_eq_getElem?_getD,hu];rfl
 rw[hxx,huu] at h1;rw[Nat.zero_add];rw[Nat.zero_add] at h1;exact h1
open Go.Sort in
theorem aL5 {W:World}{g:Nat}{cur:Array Value}{L:List dQ}(hb:W.heap[g]? =some (.cells cur 229 (0,0)))(hR:Rd 2 cO W (some ⟨g,0,none⟩) L):HoldsK cO 2 W g 0 L.toArray:=by
 intro t ht;rw[size_flatK] at ht;have ht':t<L.length*2:=by simpa using ht
 refine⟨?_,bB hb _⟩;rw[get_flatK _ _ _ _ ht];have hi:t/2<L.length:=by omega
 obtain⟨x,hx⟩:∃x,L[t/2]? =some x:=⟨_,cZ hi⟩;obtain⟨g',o',e,_,hc⟩:=hR _ _ hx;cases e;have hxx:L.toArray[t/2]! =x:=by
  rw[getElem!_pos _ _ (by simpa using hi)];have:=(gJ.1 hx).2
  simpa using this
 have hj:t%2<(cO x).length:=by rw[cE];omega
 have h1:=hc (t%2) _ (cZ hj);rw[hxx,getElem!_pos (cO x) (t%2) hj];rw[Nat.zero_add] at h1⊢;rw[show t/2*2+t%2=t by omega] at h1;exact h1
abbrev p1V :Value:=.func (.func 107) #[] #[]
open Go.Sort in
theorem aOc (W:World)(a b:Obj):(W.alloc a).alloc b=grow (W.drewN 0) #[a,b]:=by
 rw[alloc_eq_grow,alloc_eq_grow,grow_grow];rfl
def aS1 (w:World)(g:Nat)(L:List dQ)(w':World):Prop:=∃L',L'.length=L.length/\(∀x∈L',x∈L)/\Rd 2 cO w' (some ⟨g,0,none⟩) L'/\w.grownBy w' (some g)
open Go.Sort in
theorem aNk (L:List dQ)(h12:L.length<=12)(g cap:Nat)(w:World)(cur:Array Value)(hb:w.heap[g]? =some (.cells cur 229 (0,0)))(hR:Rd 2 cO w (some ⟨g,0,none⟩) L):
  Calls prog 186 #[.slice (some ⟨g,0,none⟩) L.length cap,.int .i64 0,.int .i64 L.length,p1V] w λe w'=>e=.returned (.tuple #[])/\aS1 w g L w':=by
 have hH:=aL5 hb hR;have hlt:=aC hb;have hc:CmpLays prog 107 #[] cO 2 cfL g 0 L.toArray.size w:=by
  intro m os dk _ x y;refine(aIf x y _).mono ?_;rintro e w' ⟨rfl,rfl⟩;refine⟨rfl,0,#[.cells #[.string x.name,.string x.val] 229,.cells #[.string y.name,.string y.val] 229],?_⟩;generalize sortWorldK cO 2 w g 0 m dk os=W;exact aOc W _ _
 have h:=AnyQ.insertionSortCmpFunc aQp 2 (λw=>isAgg229 w) (λw=>sizeOf229 w) cO cE rQ cfL 107 #[] g 0 cap 0 L.length L.toArray w (enters_of func107 (by kernel_rfl) rfl) hc hH hlt (cJ _) (by simp) (by simp;omega);refine h.mono ?_;rintro e w' ⟨rfl,n,os,rfl⟩;have hp:=pZ (ltOf cfL) L.length _ (0+1) L.toArray rfl (by simp);have hp':PermIn 0 L.length L.toArray (insertionSort (ltOf cfL) L.toArray 0 L.length):=hp;have hs:=hp'.1;have hz:=size_sortWorldK_c cO 2 w g 0 n (insertionSort (ltOf cfL) L.toArray 0 L.length) os;have hh:=holdsK_sortWorldK_c cO 2 w g 0 L.toArray _ n os hH hlt hs;refine⟨rfl,_,?_,λx hx=> ?_,aBh hh (kG hlt hz),?_⟩
 .simpa using hs
 .have h2:=hp'.2.2;have e1:(insertionSort (ltOf cfL) L.toArray 0 L.length).extract 0 L.length=insertionSort (ltOf cfL) L.toArray 0 L.length:=by
   have:L.length=(insertionSort (ltOf cfL) L.toArray 0 L.length).size:=by rw[hs];simp
   conv=>lhs;arg 3;rw[this]
   simp
  have e2:L.toArray.extract 0 L.length=L.toArray:=by simp
  rw[e1,e2] at h2;have:=h2.subset hx
  simpa using this
 .refine⟨rfl,rfl,rfl,hz,λk hk hne=> ?_⟩;have hne':¬g=k:=λe=>hne (by rw[e]);unfold sortWorldK;rw[heap_grow_old _ _ (by rw[size_putRowK];exact hk)];show(putRow id _ _ _ _).heap[k]? =_;simp[putRow,mapBlock,Array.getElem?_modify,hne',ahead]
theorem aP8 (L:List dQ)(h12:L.length<=12)(g cap:Nat)(w:World)(cur:Array Value)(hb:w.heap[g]? =some (.cells cur 229 (0,0)))(hR:Rd 2 cO w (some ⟨g,0,none⟩) L)(lm:Value):
  Calls prog 152 #[.slice (some ⟨g,0,none⟩) L.length cap,.int .i64 0,.int .i64 L.length,lm,p1V] w λe w'=>e=.returned (.tuple #[])/\aS1 w g L w':=by
 have HI:=aA (aNk L h12 g cap w cur hb hR);have h12':(L.length:Int)<=12:=by omega
 clear hb hR h12;go_enter func152,ntmps152;go_wp2_with fail;refine wp_loop_rounds 1 ?_;rw[rounds_succ];go_wp2_with fail;refine HI.out.mono ?_;rintro e w1 ⟨rfl,h1⟩;have H1:=aA h1;clear h1;go_wp2_with fail
 first|go_end0|refine bodyPost_ret (results_none rfl _ _ _) rfl ?_
 exact⟨rfl,H1.out⟩
theorem aPn (n:Nat)(hn:n<=12)(w:World):Calls prog 153 #[.int .u64 n] w λe w'=>(∃k:Int,e=.returned (.int .i64 k))/\w'=w:=by
 have hl:=aA (λW=>fN (n:Int) W (by omega) (by omega));go_enter func153,ntmps153;go_wp2_with fail;refine(hl.out _).mono ?_;rintro e w1 ⟨rfl,rfl⟩;go_wp2_with fail;go_ret;exact⟨⟨_,rfl⟩,rfl⟩
theorem aJ8 (L:List dQ)(h12:L.length<=12)(g cap:Nat)(w:World)(cur:Array Value)(hb:w.heap[g]? =some (.cells cur 229 (0,0)))(hR:Rd 2 cO w (some ⟨g,0,none⟩) L):
  Calls prog 106 #[.slice (some ⟨g,0,none⟩) L.length cap,p1V] w λe w'=>e=.returned (.tuple #[])/\aS1 w g L w':=by
 have HI:=aA (λlm=>aP8 L h12 g cap w cur hb hR lm);have HN:=aA (λW=>aPn L.length h12 W);have hw:IntKind.u64.wrap (L.length:Int)=(L.length:Int):=by simp[IntKind.wrap,IntKind.bits,IntKind.signed];omega
 clear hb hR h12;go_enter func106,ntmps106;go_wp2_with fail;refine(HN.out _).mono ?_;rintro e w1 ⟨⟨k,rfl⟩,rfl⟩;go_wp2_with fail;refine(HI.out _).mono ?_;rintro e w1 ⟨rfl,h1⟩;have H1:=aA h1;clear h1;go_wp2_with fail;go_end0;exact⟨rfl,H1.out⟩
@[go_sem] theorem aSf (s:ByteArray)(w:World):(Instr.typeAssert (flt s) 137 292 true).run prog w=.ok (.tuple #[.agg #[.string s],.bool true]) w:=by kernel_rfl
theorem aD9 (s:ByteArray)(w:World):Calls prog 105 #[flt s] w λe w'=>e=.returned (.int .i64 40)/\Below w.heap.size w w':=by
 go_enter func105,ntmps105;go_wp2_with fail;go_ret;exact⟨rfl,aW.alloc aH _⟩
structure lD (L:List dQ):Prop where
 len:L.length<=6
 sm:∀y∈L,y.name.size<=8000/\y.val.size<=8000
def aTt (w:World)(s:ByteArray)(e:Ending)(w':World):Prop:=
 (∃(d:Hd) (L:List dQ),e=.returned (.tuple #[d.v L.length,.int .i64 0])/\bS 2 cO w' d L/\aT w.heap.size d/\lD L/\(s=⟨#[97,61,120]⟩->L=[bA]))\/
 (e=.returned (.tuple #[.slice none 0 0,.int .i64 40])/\s≠⟨#[97,61,120]⟩)
theorem aM2 (s:ByteArray)(hs:s.size<=2000)(w:World)(hG:aQ w):Calls prog 68 #[.string s] w λe w'=>aTt w s e w'/\Below w.heap.size w w':=by
 have HG:=aA hG;have HRD:=aA (aM9 s hs w hG);clear hG;go_enter func68,ntmps68;go_wp2_with fail;refine HRD.out.mono ?_;rintro e w1 ⟨⟨⟨ds,dc⟩,L,rfl,ho,⟨hl1,hl6⟩,hls,hax⟩|⟨⟨ds,dc⟩,n,f,rfl,hne⟩,hb1⟩
 case inr=>
  have HNE:=aA hne;clear hne;go_wp2_with fail;refine(aD9 _ _).mono ?_;rintro e w2 ⟨rfl,hb2⟩;go_wp2_with fail;go_ret2;exact⟨.inr ⟨rfl,HNE.out⟩,hb1.trans (hb2.mono hb1.size)⟩
 obtain⟨s',cap,hv,hcap,hmax,hrd,hnil,hpl⟩:=ho.form cE;cases hv;have hrow:∃g cur,ds=some ⟨g,0,none⟩/\w.heap.size<=g/\w1.heap[g]? =some (.cells cur 229 (0,0)):=by
  rcases ho.2 with⟨hv,hz⟩|⟨g,cap,cur,hv,hB,hgb,_⟩
  .omega
  .cases hv;exact⟨g,cur,rfl,hB,hgb⟩
 obtain⟨g,cur,rfl,hg,hgb⟩:=hrow;have HSR:=aA (aJ8 L (by omega) g dc w1 cur hgb hrd);have HL:=aA (aB hl1 (aB hl6 (aB hls (aB hax (aB hcap hmax)))));clear ho hrd hgb hl1 hls hax hnil hpl hcap hmax;go_wp2_with fail;refine HSR.out.mono ?_;rintro e w2 ⟨rfl,L',hlen,hmem,hrd',hgr⟩;have hb2:Below w.heap.size w w2:=hb1.grown hgr hb1.size (λr e=>by cases e;exact hg);have HB2:=aA hb2;have hsm:∀y∈L',y.name.size<=8000/\y.val.size<=8000:=λy hy=>by have:=HL.out.2.2.1 y (hmem y hy);omega
 have hax':s=⟨#[97,61,120]⟩->L'=[bA]:=λh=>by
  have h1:=HL.out.2.2.2.1 h;rw[h1] at hlen hmem
  match L',hlen with
  |[x],_=>have:=hmem x (by simp);simp at this;rw[this]
 have HR:=aA (gG L' (λy hy=>by have:=hsm y hy;exact⟨by omega,by omega⟩) (by omega) (some ⟨g,0,none⟩) dc w2 (HG.out.aWu hb2) hrd');have HD:=aA (aB hrd' (aB hsm (aB hax' hlen)));rw[<-hlen];rw[hlen] at HR;clear hrd' hmem hsm hax' hgr hb1 HSR HRD;rw[hlen];go_wp2_with fail;refine HR.out.mono ?_;rintro e w3 ⟨⟨b,rfl,hb⟩,hb3⟩;have HB:=aA hb;clear hb;cases b with
 |false=>
  go_wp2_with fail;go_ret2;exact⟨.inr ⟨rfl,λh=>by have:=HB.out ⟨⟨#[120]⟩,HD.out.2.2.1 h,.inl rfl⟩;cases this⟩,HB2.out.trans (hb3.mono HB2.out.size)⟩
 |true=>
  go_wp2_with fail;go_ret2;refine⟨.inl ⟨⟨some ⟨g,0,none⟩,dc⟩,L',by rw[hlen];rfl,⟨HD.out.1.aWu aH hb3,by have:=HL.out;simp only;omega,HL.out.2.2.2.2.2,(λh=>by cases h),dJ.some _ _⟩,λg' o' e=>by cases e;exact hg,⟨by have:=HL.out;omega,HD.out.2.1⟩,HD.out.2.2.1⟩,HB2.out.trans (hb3.mono HB2.out.size)⟩
theorem aG4 (s:ByteArray)(hs:s.size<=100000)(w:World):Calls prog 121 #[.string s] w λe w'=>e=.returned (.string ⟨(qF s).toArray⟩)/\Below w.heap.size w w':=by
 go_enter func121,ntmps121;go_wp2_with fail
 go_loopw [] (λwr=>∃(pos:Nat) (acc:List UInt8),Lib.IsBuilderF 286 5 w.heap.size w.heap.size (Lib.byteCells acc) wr/\wr.heap[w.heap.size+1]? =some (.stringIter s pos)/\Below w.heap.size w wr/\acc++(bY s pos).flatMap aA7=qF s/\acc.length<=5*pos) (λwr=>s.size-wr.iterPos (w.heap.size+1))
 case atStart=>
  refine⟨0,[],(Lib.IsBuilderF.of (Lib.fresh_isBuilder 286 5 w)).alloc _,?_,((Below.refl _ w).alloc aH _).alloc (by simp) _,rfl,by simp⟩;have:=World.iter_heap (w.alloc (.cells #[.pointer none,.slice none 0 0] 286)) s 0
  simpa using this
 case round=>
  obtain⟨pos,acc,hI,hit,hbw,hacc,hal⟩:=hrel;have hsz:w.heap.size+1<wr.heap.size:=(Array.getElem?_eq_some_iff.1 hit).1;have hm0:wr.iterPos (w.heap.size+1)=pos:=by simp[World.iterPos,hit]
  by_cases hp:pos<s.size
  .have hnx:∀ty,(Instr.next (pv (w.heap.size+1) 0) true ty).run prog wr=_:=λty=>Lib.run_next_any_at wr (w.heap.size+1) s pos ty hit hp;have hwd:=jR s pos hp;have hd1:=Lib.rune_le s pos;have hI2:=hI.iterAt hit (pos+(Utf8.decode s pos).2);have hit2:=Lib.iterAt_heap wr (w.heap.size+1) s pos (pos+(Utf8.decode s pos).2) hit;have hbw2:=Lib.below_iterAt hbw (k:=w.heap.size+1) (by omega) s (pos+(Utf8.decode s pos).2);have hsz2:w.heap.size<=(wr.iterAt (w.heap.size+1) s (pos+(Utf8.decode s pos).2)).heap.size:=by rw[Lib.iterAt_size];omega
   rw[kT s pos hp,List.flatMap_cons] at hacc;generalize wr.iterAt (w.heap.size+1) s (pos+(Utf8.decode s pos).2)=w2 at*;generalize(Utf8.decode s pos).2=wd at*;generalize(Utf8.decode s pos).1=rn at*;have HH:=aA (aB hit2 (aB hbw2 (aB hacc (aB hal (aB hwd (aB hI2 (aB hm0 hp)))))));have HR:=aA (λ(bs:List Value) W hI hl hB=>Tryz.Builder_WriteRune_k w.heap.size w.heap.size bs (rn:Int) (by omega) (by omega) W hI hl hB);have HBY:=aA (λ(bs:List Value) W hI hl hB=>Tryz.Builder_WriteByte_k w.heap.size w.heap.size bs 92 W hI hl hB);have HZ:=aA (aB hsz (aB hsz2 hs));have hl4:=Lib.runeCells_le (rn:Int);rw[Lib.runeCells_length] at hl4;have HL4:=aA hl4;clear hit hbw hit2 hbw2 hacc hal hwd hI hI2 hsz hsz2 hd1 hl4 hs hm0
   by_cases hq:rn=44\/rn=92
   .have hqv:(((rn:Int)==44)||((rn:Int)==92))=true:=by rcases hq with rfl|rfl<;>rfl
    have HQR:Hid (aA7 rn=92::Lib.encodeRune (rn:Int)):=by show _=_;unfold aA7;rw[if_pos hq];rfl
    have fin:∀W1:World,Lib.BuilderAtF 286 5 w.heap.size w.heap.size (pv w.heap.size 0) (Lib.byteCells acc++[.int .u8 92]) W1/\Below w.heap.size w2 W1/\Lib.OthersKept 5 (some w.heap.size) w2 W1->Lib.IsBuilderF 286 5 w.heap.size w.heap.size (Lib.byteCells (acc++[92])) W1:=λW1 h=>by rw[Lib.byteCells_append];exact Or.inr h.1
    have HFIN:=aA fin;obtain⟨er,her⟩:∃er,er=Lib.encodeRune (rn:Int):=⟨_,rfl⟩;have HER:=aA her;clear fin her;rcases hq with rfl|rfl
    all_goals
     go_wp2_with fail;refine(HBY.out _ _ HH.out.2.2.2.2.2.1 (by rw[Lib.byteCells_length];have:=HH.out.2.2.2.1;have:=HH.out.2.2.2.2.2.2.2;have:=HZ.out.2.2;omega) HZ.out.2.1).mono ?_;rintro e W1 ⟨rfl,hb1⟩;have HB1:=aA (HFIN.out W1 hb1);have HK1:=aA (aB (hb1.2.2.iter HH.out.1 (by omega)) (aB (HH.out.2.1.trans hb1.2.1) (dR HZ.out.2.1 hb1.2.1.size)));clear hb1;go_wp2_with fail;refine(HR.out _ _ HB1.out (by rw[Lib.byteCells_length];have:=HH.out.2.2.2.1;have:=HH.out.2.2.2.2.2.2.2;have:=HZ.out.2.2;simp;omega) HK1.out.2.2).mono ?_;rintro e W2 ⟨rfl,hb2⟩;have hit4:=hb2.2.2.iter HK1.out.1 (by omega);have HB2:=aA (aB hb2.1 (aB hit4 (HK1.out.2.1.trans hb2.2.1)));clear hb2 hit4;go_wp2_with fail;go_roundw
     case rel=>
      refine⟨pos+wd,(acc++[92])++er,?_,HB2.out.2.1,HB2.out.2.2,?_,?_⟩
      .rw[Lib.byteCells_append,HER.out,Lib.byteCells_encodeRune];exact Or.inr HB2.out.1
      .rw[<-HH.out.2.2.1,HQR.out,HER.out];simp
      .rw[HER.out];have:=HH.out.2.2.2.1;have:=HH.out.2.2.2.2.1;have:=HL4.out;simp only[List.length_append,List.length_singleton];omega
     case measure=>
      have hm4:W2.iterPos (w.heap.size+1)=pos+wd:=by simp[World.iterPos,HB2.out.2.1]
      rw[hm4,HH.out.2.2.2.2.2.2.1];have:=HH.out.2.2.2.2;omega
   .have hqa:((rn:Int)==44)=false:=by simp;omega
    have hqb:((rn:Int)==92)=false:=by simp;omega
    have HQR:Hid (aA7 rn=Lib.encodeRune (rn:Int)):=by show _=_;unfold aA7;rw[if_neg hq];rfl
    clear hq;go_wp2_with fail;refine(HR.out _ _ HH.out.2.2.2.2.2.1 (by rw[Lib.byteCells_length];have:=HH.out.2.2.2.1;have:=HH.out.2.2.2.2.2.2.2;have:=HZ.out.2.2;omega) HZ.out.2.1).mono ?_;rintro e W2 ⟨rfl,hb2⟩;have hit4:=hb2.2.2.iter HH.out.1 (by omega);have HB2:=aA (aB hb2.1 (aB hit4 (HH.out.2.1.trans hb2.2.1)));clear hb2 hit4;go_wp2_with fail;go_roundw
    case rel=>
     refine⟨pos+wd,acc++Lib.encodeRune (rn:Int),?_,HB2.out.2.1,HB2.out.2.2,?_,?_⟩
     .rw[Lib.byteCells_append,Lib.byteCells_encodeRune];exact Or.inr HB2.out.1
     .rw[<-HH.out.2.2.1,HQR.out];simp
     .have:=HH.out.2.2.2.1;have:=HH.out.2.2.2.2.1;have:=HL4.out;simp only[List.length_append];omega
    case measure=>
     have hm4:W2.iterPos (w.heap.size+1)=pos+wd:=by simp[World.iterPos,HB2.out.2.1]
     rw[hm4,HH.out.2.2.2.2.2.2.1];have:=HH.out.2.2.2.2;omega
  .have hnx:∀ty,(Instr.next (pv (w.heap.size+1) 0) true ty).run prog wr=_:=λty=>Lib.run_next_end_at wr (w.heap.size+1) s pos ty hit hp;rw[qT s pos hp] at hacc;have HH:=aA (aB hI (aB hbw hacc));clear hI hbw hacc hal hm0;go_wp2_with fail;refine(Tryz.Builder_String_any_k w.heap.size w.heap.size acc _ HH.out.1 (by omega)).mono ?_;rintro e W1 ⟨rfl,_,b1,_⟩;go_wp2_with fail;go_ret;have:=HH.out.2.2;simp at this;subst this;exact⟨rfl,HH.out.2.1.trans b1⟩
section
def aBc (s:ByteArray):List Value:=[.string s]
theorem kE (s:ByteArray):(aBc s).length=1:=rfl
theorem aG6 (s:ByteArray):∀v∈aBc s,v.oneCell'=true:=by intro v hv;simp[aBc] at hv;subst hv;rfl
theorem aQv :eM prog 49 9 1 16:=eM.mk (z:=.string ⟨#[]⟩) underlying49 (by kernel_rfl) rfl (by decide)
def gV (x:dQ):ByteArray:=x.name++⟨#[61]⟩++⟨(qF x.val).toArray⟩
theorem xS {x:dQ}(h:x.name.size<=8000/\x.val.size<=8000):(gV x).size<=50000:=by
 have h1:=aDw x.val;have h2:(⟨(qF x.val).toArray⟩:ByteArray).size=(qF x.val).length:=by show(qF x.val).toArray.size=_;simp
 have h3:(⟨#[61]⟩:ByteArray).size=1:=rfl;unfold gV;rw[ByteArray.size_append,ByteArray.size_append,h2,h3];omega
theorem rJ (m:Nat):∀(r:List (List UInt8)),(∀x∈r,x.length<=m)->(Lib.joinTail [44] r).length<=r.length*(m+1)
 |[],_=>by simp[Lib.joinTail]
 |x::r,h=>by
  have h1:=h x (by simp);have h2:=rJ m r (λz hz=>h z (by simp[hz]));simp only[Lib.joinTail,List.map_cons,List.flatten_cons,List.length_append,List.length_cons,List.length_nil] at h2⊢;rw[show(r.length+1)*(m+1)=r.length*(m+1)+(m+1) by rw[Nat.add_mul];omega];omega
theorem aOv (m:Nat):∀(xs:List (List UInt8)),(∀x∈xs,x.length<=m)->(Lib.join xs [44]).length<=xs.length*(m+1)
 |[],_=>by simp[Lib.join_nil]
 |x::r,h=>by
  rw[Lib.join_cons];have h1:=h x (by simp);have h2:=rJ m r (λz hz=>h z (by simp[hz]));simp only[List.length_append,List.length_cons];rw[show(r.length+1)*(m+1)=r.length*(m+1)+(m+1) by rw[Nat.add_mul];omega];omega
def aUu (L:List dQ)(e:Ending):Prop:=∃(t:ByteArray) (E:Int),e=.returned (.tuple #[.string t,.int .i64 E])/\t.size<=500000/\(L=[bA]->t=⟨#[97,61,120]⟩)
theorem aEr (s:Option Addr)(cap:Nat)(w:World):Calls prog 109 #[.slice s 0 cap] w λe w'=>e=.returned (.bool false)/\w'=w:=by
 go_enter func109,ntmps109;go_wp2_with fail;refine wp_scope_straight ?_;go_wp2_with fail;rw[Exit.noGoto_ret];go_ret;exact⟨rfl,rfl⟩
def aOq (x:ByteArray):Value->World->Prop:=λv W=>∃A,v=.slice (some ⟨A,0,none⟩) 1 1/\W.heap[A]? =some (.cells #[.string x] 9 (0,0))
theorem aIa (x:ByteArray):bO (aOq x):=λ_ _ _ ⟨A,h1,h2⟩ hb=>⟨A,h1,(hb.block A (aC h2)).trans h2⟩
theorem aB1 {α:Type}{k:Nat}{enc:α->List Value}{P:Program}{t e:TypeId}{bytes:Nat}(el:eM P t e k bytes)(hk:∀x,(enc x).length=k)(h1:∀x,∀v∈enc x,v.oneCell'=true){F:Fence}{m:Nat}{ops:Array Oper}{rest:List Oper}{o:Oper}{a:Act}{Q:Exit->Act->World->Prop}{W:World}(hgd:o.guard=none)(s x:Operand)
  (ho:o.op=.call {callee:=.builtin .append,args:= #[s,x],argTypes:= #[t,t]}) (B:Nat) (v:Value) (L:List α) (hs:a.eval s=v) (hown:aL k enc e W B v L) (M:List α) (mm:Nat) (hm:mm=M.length) (g o' cx:Nat) (hx:a.eval x=.slice (some ⟨g,o',none⟩) mm cx) (hM:Rd k enc W (some ⟨g,o',none⟩) M)
  (hn:L.length+M.length<=1000000) (hby:bytes<=10000) (hB:B<=W.heap.size) (h:∀v' W',aL k enc e W' B v' (L++M)->W.grownBy W' v.ownBlock->wpListIn F m P ops Q rest (a.put o.dst v') W'):
  wpListIn F m P ops Q (o::rest) a W:=by
 subst hm;obtain⟨h2,h0,i,z,h3,h4,h5,h6,h7⟩:=el;have hmul:(L.length+M.length)*bytes<=1000000*10000:=Nat.mul_le_mul hn hby
 refine wpListIn_append_own _ hgd s x t ho B e i z k bytes h2 h3 h4 h5 h6 h7 h0 v L.length (L.flatMap enc) hs hown ⟨g,o',none⟩ M.length cx (M.flatMap enc) hx (eD hk M) (λj u hj=>kW hk h0 hM j u hj) (qU h1 M) (by unfold maxLen;omega) (by omega) hB ?_;intro v' w' hown' hgr _;exact h v' w' (by unfold aL;rw[List.length_append,List.flatMap_append];exact hown') hgr
theorem vD {W W':World}{ob:Option Nat}{e:TypeId}(hg:W.grownBy W' ob)(hr:∀r,ob=some r->∃cur,W.heap[r]? =some (.cells cur e (0,0))):KeepsOthers W W':=by
 cases ob with
 |none=>exact⟨hg.size,λk o hk _=>(hg.block k (Array.getElem?_eq_some_iff.1 hk).1 (by simp)).trans hk⟩
 |some r=>obtain⟨cur,hc⟩:=hr r rfl;exact wH hc hg
attribute [local go_sem] Oper.semAt_some
def TxX (B:Nat)(pre:List dQ)(d:Value)(W:World):Prop:=aL 1 aBc 9 W B d (pre.map gV)/\B<=W.heap.size
theorem aF6 (L:List dQ)(hL6:lD L)(s:Option Addr)(cap:Nat)(w:World)(hG:aQ w)(hL:Rd 2 cO w s L):
  Calls prog 74 #[.slice s L.length cap] w λe w'=>aUu L e/\Below w.heap.size w w':=by
 by_cases h0:L.length=0
 .have hne:L≠[bA]:=by rintro rfl;cases h0
  have HNE:=aA hne;rw[h0];clear hne h0;go_enter func74,ntmps74;go_wp2_with fail;refine(aEr _ _ _).mono ?_;rintro e w1 ⟨rfl,rfl⟩;go_wp2_with fail;go_ret2;exact⟨⟨_,_,rfl,by decide,λh=>absurd h HNE.out⟩,aW⟩
 have HR:=aA (gG L (λy hy=>by have:=hL6.sm y hy;exact⟨by omega,by omega⟩) (by have:=hL6.len;omega) s cap w hG hL);have HL:=aA (aB hL (aB hL6 h0));have hlen:L.length<=1000000:=by have:=hL6.len;omega
 clear hL hL6 hG h0;refine(callsIn_wide (n:=5)).1 ?_;refine callsIn_of_wp_marks func74 rfl trivial ?_ rfl;simp only[ntmps74,List.size_toArray,List.length_cons,List.length_nil,Nat.reduceAdd,Nat.reduceSub,Array.replicate_succ,Array.replicate_zero,List.push_toArray,List.append_toArray,List.nil_append,List.cons_append];refine wpIn_wide.2 ?_;go_wp2_with fail;refine HR.out.mono ?_;rintro e w1 ⟨⟨b,rfl,hb⟩,hb1⟩;have HB:=aA hb;clear hb;cases b with
 |false=>
  go_wp2_with fail;refine⟨.tuple #[.string ⟨#[]⟩,.int .i64 40],by simp[results,results74,go_sem],?_⟩;exact⟨⟨_,_,rfl,by decide,λh=>by have:=HB.out ⟨⟨#[120]⟩,h,.inl rfl⟩;cases this⟩,hb1⟩
 |true=>
 have stA:=((St.start w).to hb1).alloc (cs:= #[.slice none 0 0]) (T:=49);have st2:=stA.alloc (cs:= #[.slice s L.length cap]) (T:=161);have hz1:=hb1.size;simp only[World.size_alloc] at st2;clear hb1 stA;go_wp2_with fail;refine(tQ s L.length cap _).mono ?_;rintro e w2 ⟨rfl,rfl⟩;simp only[World.size_alloc];go_wp2_with fail;have hz3:((w1.alloc (.cells #[.slice none 0 0] 49)).alloc (.cells #[.slice s L.length cap] 161)).heap.size=w1.heap.size+1+1:=by simp
 generalize(w1.alloc (.cells #[.slice none 0 0] 49)).alloc (.cells #[.slice s L.length cap] 161)=w3 at*;have hw3:w.heap.size<=w3.heap.size:=by omega
 refine uG (w0:=w) hw3 L hlen s cap HL.out.1 (w1.heap.size+1) rfl rfl (TxX w3.heap.size) (λ_ _ _ _=>False) (λd=>[(w1.heap.size,#[d],49)])
  (λpre d A B row h hg hr=>⟨oE h.1 hg (λr e=>(hr r e).2),dR h.2 hg.size⟩) (λ_ _ _ _ _ _ h _ _=>h) (λd y hy=>by simp at hy;subst hy;simp) (.slice none 0 0) ⟨aL.nil _ _,aH⟩ st2
  (λx c=>{tmps:= #[.slice s L.length cap,undef,.string ⟨#[]⟩,.int .i64 0,pv w1.heap.size 0,pv c 0,.slice s L.length cap,.bool true,.bool false,.slice s L.length cap,.func (.func 197) #[] #[pv (w1.heap.size+1) 0],aIt x,undef,undef,undef,undef,undef,undef,undef,undef,undef,undef,undef,undef],defers:=[]}) ?assign ?body ?done ?stop
 case assign=>
  intro l x W K hK;have HK:=aA hK;clear hK;gi_wp2_with fail;exact HK.out
 case stop=>exact λ_ _ _ _ _ _ h=>h.elim
 case body=>
  rintro l pre x c d W hx hN hc0 ⟨ho,hBW⟩ st;have hsm:=HL.out.2.1.sm x hx;obtain⟨ss,sc,rfl,-⟩:=ho.form kE;rw[List.length_map] at st ho;have HP:=aA (show gV x=x.name++⟨#[61]⟩++⟨(qF x.val).toArray⟩ from rfl);have HPS:=aA (xS hsm);have hq:=aDw x.val;have hq2:(⟨(qF x.val).toArray⟩:ByteArray).size=(qF x.val).length:=by show(qF x.val).toArray.size=_;simp
  have h61:(⟨#[61]⟩:ByteArray).size=1:=rfl;have hadd1:∀W,(Op.stringOp .add x.name ⟨#[61]⟩).run prog W=.ok (.string (x.name++⟨#[61]⟩)) W:=λW=>run_string_add_sum W _ _ (by omega);have hadd2:∀W,(Op.stringOp .add (x.name++⟨#[61]⟩) ⟨(qF x.val).toArray⟩).run prog W=.ok (.string (gV x)) W:=λW=>run_string_add_sum W _ _ (by rw[ByteArray.size_append];omega);have HQ:=aA (λW=>aG4 x.val (by omega) W);have HO:=aA (aB ho (aB hBW (aB hc0 hN)));obtain⟨p,hp⟩:∃p,gV x=p:=⟨_,rfl⟩;rw[hp] at hadd2 HPS;have HPP:=aA hp;obtain⟨qv,hqv⟩:∃q,(⟨(qF x.val).toArray⟩:ByteArray)=q:=⟨_,rfl⟩;rw[hqv] at hadd2 HQ;obtain⟨xn,xv⟩:=x;simp only at hadd1 hadd2 HQ;clear hsm hq hq2 h61 ho hBW hc0 hN hx hp HP hqv;gi_wp2_with fail;refine aV7 st 9 [.val (.slice ss pre.length sc),.val (pv c 0),.val (.string xn),.val (.string (xn++⟨#[61]⟩)),.val (pv c 1),.val (.string xv),.val (.string qv),.val (.string p),.fct (aOq p) (aIa _)] rfl (by kernel_rfl) (by kernel_rfl) (by kernel_rfl) (by kernel_rfl) ?spec ?endd
  case spec=>
   refine⟨?_,?_,?_,?_,?_,?_,?_,?_,?_,trivial⟩
   all_goals(intro ρ W kc kf hW sW rl hu hd;simp only[aI] at rl)
   have u4:ρ (.tmp 4)=pv w1.heap.size 0:=cR hu 4;rotate_left;have u5:ρ (.tmp 5)=pv c 0:=cR hu 5;rotate_left;have u13:ρ (.tmp 13)=_:=aK hd 1 13;rotate_left;have u14:ρ (.tmp 14)=_:=aK hd 2 14;rotate_left;have u5:ρ (.tmp 5)=pv c 0:=cR hu 5;rotate_left;have u16:ρ (.tmp 16)=_:=aK hd 4 16;rotate_left
   .have u17:ρ (.tmp 17)=_:=aK hd 5 17;refine aF rfl ?_;go_simp;refine⟨aW,(HQ.out W).mono ?_⟩;rintro e w' ⟨rfl,hb'⟩;exact⟨_,rfl,hb',rfl⟩
   have u15:ρ (.tmp 15)=_:=aK hd 3 15;have u18:ρ (.tmp 18)=_:=aK hd 6 18;rotate_left
   .have u19:ρ (.tmp 19)=_:=aK hd 7 19;refine aF rfl ?_;go_simp;exact⟨aW.alloc aH _,W.heap.size,rfl,kH _ _⟩
   all_goals(refine aF rfl ?_;go_simp;exact aG rfl)
  case endd=>
   rintro v W hW sW rl ⟨h8,-⟩;simp only[List.take_succ_cons,List.take_zero,List.drop_succ_cons,List.drop_zero,nI];simp only[aI] at rl;obtain⟨A,hv8,hA⟩:=h8;rw[hv8];generalize v 8=q8 at*;have ho5:=aL.keep _ _ HO.out.1 hW;have hbw5:w3.heap.size<=W.heap.size:=dR HO.out.2.1 hW.size;have HH5:=aA (aB ho5 (aB hbw5 (aB sW (aB (aX hW) hA))));clear hv8 hA sW ho5 hW st rl HQ hadd1 hadd2;gi_wp2_with(gi_at_builtin;refine aB1 aQv kE aG6 rfl (.tmp 12) (.tmp 20) rfl w3.heap.size (.slice ss pre.length sc) (pre.map gV) (by simp[Act.eval,Act.put]) HH5.out.1 [p] 1 rfl A 0 1 (by simp[Act.eval,Act.put]) (Rd.aW2 kE HH5.out.2.2.2.2 rfl) (by have:=HO.out.2.2.2;simp;omega) (by decide) HH5.out.2.1 ?_;intro v6 W6 ho6 hg6;have hr6:=HH5.out.1.row;obtain⟨s6,c6,e6,-⟩:=ho6.form kE;subst e6;rw[show(pre.map gV++[p]).length=pre.length+1 by simp] at ho6;have st6:=(HH5.out.2.2.1.less _ (List.sublist_cons_self _ _)).aW7 hg6 (λr e=>by obtain⟨h1,h2⟩:=hr6 r e;exact⟨dR hw3 h1,h2⟩) (λy hy=>by simp at hy;rcases hy with rfl|rfl<;>simp);have hko6:=HH5.out.2.2.2.1.trans (vD hg6 (λr e=>(hr6 r e).2));have hbw6:=dR HH5.out.2.1 hg6.size;have rl6:=st6.rules;simp only[aI] at rl6);have st7:=st6.sx 1 (A:=w1.heap.size) rfl (o:=0) (v:=.slice s6 (pre.length+1) c6) hz1;have hb6:=st6.blk (w1.heap.size,#[.slice ss pre.length sc],49) (by simp);have ho7:=ho6.aW7 (e:=49) (by decide) (bF W6 w1.heap.size 0 (.slice s6 (pre.length+1) c6)) (λr e=>by cases e;exact⟨_,hb6⟩);refine⟨hko6.trans (KeepsOthers.setCell W6 ⟨w1.heap.size,0,none⟩ _),.slice s6 (pre.length+1) c6,⟨?_,by simpa[World.setCell] using hbw6⟩,st7⟩;rw[List.map_append,List.map_singleton,HPP.out];exact ho7
 case done=>
  rintro D d W hD ⟨ho,hBW⟩ st9 hK hput;obtain⟨ss,sc,rfl,hcap,hmax,hrd,-,-⟩:=ho.form kE;rw[List.length_map] at st9;simp only[List.length_map] at hput;obtain⟨g,o,e,hg,_⟩:∃g o,ss=some ⟨g,o,none⟩/\g<W.heap.size/\True:=by
   obtain⟨y,hy⟩:∃y,(L.map gV)[0]? =some y:=⟨_,cZ (by rw[List.length_map];have:=HL.out.2.2;omega)⟩;obtain⟨g,o,e,hg,_⟩:=hrd 0 y hy;exact⟨g,o,e,hg,trivial⟩
  subst e;have hcells:∀(j:Nat) x,(L.map gV)[j]? =some x->W.cell? ⟨g,o+j,none⟩=some (.string x):=λj x hx=>by
   obtain⟨g',o',e,_,hc⟩:=hrd j x hx;cases e;have:=hc 0 _ rfl;rwa[Nat.mul_one,Nat.add_zero] at this
  have hpl:∀x∈(L.map gV).map (·.data.toList),x.length<=50000:=λx hx=>by
   simp only[List.map_map,List.mem_map,Function.comp] at hx;obtain⟨y,hy,rfl⟩:=hx;have:=xS (HL.out.2.1.sm y hy);show(gV y).data.toList.length<=_;rw[Array.length_toList];exact this
  have hjl:=aOv 50000 _ hpl;have hl6:=HL.out.2.1.len;rw[List.length_map,List.length_map] at hjl;have hJ:=(Tryz.strings_Join g o sc (L.map gV) ⟨#[44]⟩ W hcells hg (by rw[List.length_map];omega) hcap (by show(Lib.join _ [44]).length<=_;omega));have hone:L=[bA]->(⟨(Lib.join ((L.map gV).map (·.data.toList)) [44]).toArray⟩:ByteArray)=⟨#[97,61,120]⟩:=by
   rintro rfl;simp only[List.map_cons,List.map_nil,Lib.join_one,gV,bA,aUy];rfl
  have hsz:(⟨(Lib.join ((L.map gV).map (·.data.toList)) [44]).toArray⟩:ByteArray).size<=500000:=by
   show(Lib.join _ [44]).toArray.size<=_;rw[List.size_toArray];omega
  rw[List.length_map] at hJ;have HJ:=aA hJ;clear hJ;change Hid (Calls prog 122 #[.slice (some ⟨g,o,none⟩) L.length sc,.string ⟨#[44]⟩] W λe w'=>e=.returned (.string ⟨(Lib.join ((L.map gV).map (·.data.toList)) [44]).toArray⟩)/\Below W.heap.size W w') at HJ;generalize(⟨(Lib.join ((L.map gV).map (·.data.toList)) [44]).toArray⟩:ByteArray)=tx at*;have HF:=aA (aB hone (aB hsz hK));have rl:=st9.rl;have HST:=aA st9;clear ho hrd hcells hpl hjl hl6 hone hsz hK hcap hmax hput st9;go_wp2_with fail;refine HJ.out.mono ?_;rintro e w5 ⟨rfl,hb5⟩;have st5:=HST.out.to hb5;have hKd:w5.heap[D]? =some (.deferred (some [])):=(hb5.block D (Array.getElem?_eq_some_iff.1 HF.out.2.2).1).trans HF.out.2.2;have hfin:∀o',Below w.heap.size w (w5.putObj D o'):=λo'=>(st5.own (base:=w.heap.size) (grownBy_putObj' w5 D o') (λr e=>by cases e;exact⟨hD,_,hKd,rfl⟩) aH).below;have HK5:=aA (aB hKd hfin);clear rl hb5 st5 hKd hfin;go_wp2_with fail;refine⟨by simp,.inl ⟨_,_,rfl,run_takeDeferred HK5.out.1,?_⟩⟩;exact⟨_,by simp[results,results74,go_sem],⟨tx,0,rfl,HF.out.2.1,HF.out.1⟩,HK5.out.2 _⟩
end
end Go.Proofs.YtmgdbfmlnmahpaaGreatDoor
