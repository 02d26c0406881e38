/- Part of TopAudits. -/
import Derived.Test.YtmgdbfmlnmahpaaGreatDoorG43
import Derived.Test.YtmgdbfmlnmahpaaGreatDoorG46
namespace Go.Proofs.YtmgdbfmlnmahpaaGreatDoor
set_option linter.unusedSimpArgs false
set_option linter.unusedVariables false
set_option maxRecDepth 100000
set_option maxHeartbeats 4000000
open Go.Proofs.Tryz
open Go.RowKit Go.Shelf
def gN (n:Nat):ByteArray:=⟨#[116,101,110,97,110,116]⟩++eZ n
theorem aGe (id bu ttl:Nat)(hbu:bu<=1000000)(a b:BitVec 64)(w:World):Calls prog 12 #[.agg #[.int .u64 id,.int .i64 bu,.int .u64 ttl],kv a b] w λe w'=>∃B,e=.returned (.tuple #[pv B 0,.int .i64 0])/\w.heap.size<=B/\w'.heap[B]? =some (.cells #[.slice none 0 0,.int .u64 1,.slice none 0 0,.int .u64 0,.slice none 0 0,.int .u64 0,.int .u64 id,.int .i64 bu,.int .u64 ttl,.int .u64 (un a),.int .u64 (un b)] 83 (0,0))/\Below w.heap.size w w':=by
 have h2:decide (1000000<bu)=false:=by simp;omega
 go_enter func12,ntmps12;go_wp2_with fail;have st0:=(((St.start w).alloc (cs:= #[.int .u64 id,.int .i64 bu,.int .u64 ttl]) (T:=59)).alloc (cs:= #[.int .u64 (un a),.int .u64 (un b)]) (T:=24)).alloc (cs:= #[.slice none 0 0,.int .u64 0,.slice none 0 0,.int .u64 0,.slice none 0 0,.int .u64 0,.int .u64 id,.int .i64 bu,.int .u64 ttl,.int .u64 (un a),.int .u64 (un b)]) (T:=83);simp only[World.size_alloc] at st0;refine(aJ2 _).mono ?_;rintro e w1 ⟨rfl,hb1⟩;have st1:=st0.to hb1;have rl:=st1.rl;clear st0 hb1;go_wp2_with fail;have st2:=(St.sx st1 0 (A:=w.heap.size+1+1) rfl (o:=1) (v:=.int .u64 1) (by omega)).sx 0 (A:=w.heap.size+1+1) rfl (o:=2) (v:=.slice none 0 0) (by omega);exact bodyPost_ret (v:=.tuple #[pv (w.heap.size+1+1) 0,.int .i64 0]) (by simp[results,results12,go_sem]) rfl ⟨_,rfl,by omega,st2.blk _ (bK (i:=0) rfl),st2.below⟩
theorem aU3 :((⟨#[116,101,110,97,110,116]⟩:ByteArray)).size=6:=rfl
theorem aRu (ka kb:BitVec 64)(n:Nat)(hn:n<18446744073709551616)(w:World):Calls prog 13 #[kv ka kb,.int .u64 n] w λe w'=>e=.returned (kv (qJ ka kb (gN n).data.toList) (qY ka kb (gN n).data.toList))/\Below w.heap.size w w':=by
 have HP:=aA (show∀W,Calls prog 27 #[.int .u64 n] W λe w'=>e=.returned (.string (eZ n))/\Below W.heap.size W w' from λW=>by have:=aJz (n:Int) (by omega) (by omega) W;rwa[Int.toNat_natCast] at this);have HC:=aA (λW=>aKm ka kb (gN n) (by have:=dZ n;unfold gN;rw[ByteArray.size_append,aU3];omega) W);have st0:=((St.start w).alloc (cs:= #[.int .u64 (un ka),.int .u64 (un kb)]) (T:=24)).alloc (cs:= #[.int .u64 0,.int .u64 0]) (T:=24);simp only[World.size_alloc] at st0;go_enter func13,ntmps13;go_wp2_with fail;refine rS st0 5 [.val (.agg #[.int .u64 (un ka),.int .u64 (un kb)]),.val (.int .u64 n),.val (.string (eZ n)),.val (.string (gN n)),.val (.agg #[.int .u64 (un (qJ ka kb (gN n).data.toList)),.int .u64 (un (qY ka kb (gN n).data.toList))])] ?spec ?endd
 case spec=>
  refine⟨?_,?_,?_,?_,?_,trivial⟩
  all_goals(intro ρ W kc kf hW sW rl hu hd;simp only[aI,World.size_alloc] at rl)
  have u2:ρ (.tmp 2)=pv w.heap.size 0:=cR hu 2;rotate_left;have u1:ρ (.tmp 1)=.int .u64 n:=cR hu 1;rotate_left
  .have u6:ρ (.tmp 6)=_:=aK hd 1 6;refine aF rfl ?_;go_simp;exact gY (HP.out W) (λ_ _=>rfl)
  .have u7:ρ (.tmp 7)=_:=aK hd 2 7;refine aF rfl ?_;go_simp;have:=dZ n;rw[if_neg (by omega)];exact aG rfl
  .have u5:ρ (.tmp 5)=_:=aK hd 0 5;have u8:ρ (.tmp 8)=_:=aK hd 3 8;refine aF rfl ?_;go_simp;exact gY (HC.out W) (λ_ _=>rfl)
  all_goals(refine aF rfl ?_;go_simp;exact aG rfl)
 case endd=>
  intro v W hW sW rl _;clear rl;have rl:=sW.rl;have hb:=sW.below;clear HP HC st0 hW;go_wp2_with fail;refine bodyPost_ret (v:=.agg #[.int .u64 (un (qJ ka kb (gN n).data.toList)),.int .u64 (un (qY ka kb (gN n).data.toList))]) (by simp[results,results13,go_sem,rl]) rfl ⟨rfl,?_⟩
  repeat(with_reducible refine Below.setCell ?_ (by simp;try omega) _)
  exact hb
section
variable {ka kb:BitVec 64} {bs:List Nat} {B:Nat} {W W':World}
structure mH where
 id:Nat
 bu:Int
 ttl:Nat
def yR (c:mH):List Value:=[.int .u64 c.id,.int .i64 c.bu,.int .u64 c.ttl]
theorem aEo (c:mH):(yR c).length=3:=rfl
def aAf (L:List mH):Prop:=1<=L.length/\L.length<=8/\(∀c∈L,0<=c.bu/\c.bu<=1000000)/\(L.map mH.id).Nodup
abbrev rN (ka kb:BitVec 64)(id:Nat):BitVec 64×BitVec 64:=(qJ ka kb (gN id).data.toList,qY ka kb (gN id).data.toList)
def aL4 (ka kb:BitVec 64)(c:mH):Array Value:= #[.slice none 0 0,.int .u64 1,.slice none 0 0,.int .u64 0,.slice none 0 0,.int .u64 0,.int .u64 c.id,.int .i64 c.bu,.int .u64 c.ttl,.int .u64 (un (rN ka kb c.id).1),.int .u64 (un (rN ka kb c.id).2)]
structure tP (ka kb:BitVec 64)(B:Nat)(L:List mH)(bs:List Nat)(W:World):Prop where
 at':∀(i b:Nat) (c:mH),bs[i]? =some b->L[i]? =some c->W.heap[b]? =some (.cells (aL4 ka kb c) 83 (0,0))
 nd:bs.Nodup
 len:bs.length=L.length
 new:∀b∈bs,B<=b/\b<W.heap.size
theorem tP.aWu {L:List mH}(h:tP ka kb B L bs W)(hb:Below W.heap.size W W'):tP ka kb B L bs W':=
 ⟨λi b c h1 h2=>(hb.block b (aC (h.at' i b c h1 h2))).trans (h.at' i b c h1 h2),h.nd,h.len,λb hm=>⟨(h.new b hm).1,kG (h.new b hm).2 hb.size⟩⟩
theorem tP.grown {L:List mH}(h:tP ka kb B L bs W){row:Option Nat}{e:TypeId}(he:83≠e)(hg:W.grownBy W' row)(hr:∀r,row=some r->∃cur,W.heap[r]? =some (.cells cur e (0,0))):tP ka kb B L bs W':=
 ⟨λi b c h1 h2=>gZ hg hr he (h.at' i b c h1 h2),h.nd,h.len,λb hm=>⟨(h.new b hm).1,kG (h.new b hm).2 hg.size⟩⟩
theorem tP.aXy {L:List mH}(h:tP ka kb B L bs W){b:Nat}{c:mH}(hb:W.heap[b]? =some (.cells (aL4 ka kb c) 83 (0,0)))(hB:B<=b)(hn:b∉bs):tP ka kb B (L++[c]) (bs++[b]) W:=by
 refine⟨λi b' c' h1 h2=> ?_,?_,by simp[h.len],λb' hm=> ?_⟩
 .by_cases hi:i<bs.length
  .rw[List.getElem?_append_left hi] at h1;rw[List.getElem?_append_left (by rw[<-h.len];exact hi)] at h2;exact h.at' i b' c' h1 h2
  .rw[List.getElem?_append_right (by omega)] at h1;rw[List.getElem?_append_right (by rw[<-h.len];omega)] at h2;have:i-bs.length=0:=by have:=(gJ.1 h1).1;simp at this;omega
   rw[this] at h1;rw[show i-L.length=0 by rw[<-h.len];exact this] at h2;simp at h1 h2;subst h1;subst h2;exact hb
 .rw[List.nodup_append];exact⟨h.nd,by simp,λx hx y hy=>by simp at hy;subst hy;rintro rfl;exact hn hx⟩
 .rcases List.mem_append.1 hm with hm|hm
  .exact h.new b' hm
  .simp at hm;subst hm;exact⟨hB,aC hb⟩
structure Col (W:World)(C:Nat)(ka kb:BitVec 64)(ids bs:List Nat):Prop where
 ex:∃vI vT,W.heap[C]? =some (.cells #[.int .u64 (un ka),.int .u64 (un kb),vI,vT] 57 (0,0))/\aL 1 cM 22 W 0 vI ids/\aL 1 aHg 60 W 0 vT bs
theorem aF4 (id:Nat)(bu:Int)(ttl:Nat)(hbu:bu<0\/1000000<bu)(a b:BitVec 64)(w:World):Calls prog 12 #[.agg #[.int .u64 id,.int .i64 bu,.int .u64 ttl],kv a b] w λe w'=>e=.returned (.tuple #[.pointer none,.int .i64 180])/\Below w.heap.size w w':=by
 by_cases h1:bu<0
 .go_enter func12,ntmps12;go_wp2_with fail;exact bodyPost_ret (v:=.tuple #[.pointer none,.int .i64 180]) (by simp[results,results12,go_sem]) rfl ⟨rfl,aW.alloc aH _|>.alloc (by simp) _⟩
 .have h2:1000000<bu:=by omega
  go_enter func12,ntmps12;go_wp2_with fail;exact bodyPost_ret (v:=.tuple #[.pointer none,.int .i64 180]) (by simp[results,results12,go_sem]) rfl ⟨rfl,aW.alloc aH _|>.alloc (by simp) _⟩
theorem aKu (id:Nat)(bu:Int)(ttl:Nat)(h0:0<=bu)(hbu:bu<=1000000)(ka kb:BitVec 64)(w:World):Calls prog 12 #[.agg #[.int .u64 id,.int .i64 bu,.int .u64 ttl],kv (rN ka kb id).1 (rN ka kb id).2] w λe w'=>∃B,e=.returned (.tuple #[pv B 0,.int .i64 0])/\w.heap.size<=B/\w'.heap[B]? =some (.cells (aL4 ka kb ⟨id,bu,ttl⟩) 83 (0,0))/\Below w.heap.size w w':=by
 obtain⟨n,rfl⟩:=Int.eq_ofNat_of_zero_le h0;exact aGe id n ttl (by omega) _ _ w
theorem aGw {α:Type}{k:Nat}{enc:α->List Value}{P:Program}{t e:TypeId}{bytes:Nat}(el:eM P t e k bytes)(hk:∀x,(enc x).length=k)(h1:∀x,∀v∈enc x,v.oneCell'=true){ops:Array Oper}{rest:List Oper}{o:Oper}{a:Act}{Q:Exit->Act->World->Prop}{W:World}(hgd:o.guard=none)(s x:Operand)
  (ho:o.op=.call {callee:=.builtin .append,args:= #[s,x],argTypes:= #[t,t]}) (B:Nat) (v:Value) (L:List α) (hs:a.eval s=v) (hown:aL k enc e W B v L) (M:List α) (mm:Nat) (hm:mm=M.length) (g o' cx:Nat) (hx:a.eval x=.slice (some ⟨g,o',none⟩) mm cx) (hM:Rd k enc W (some ⟨g,o',none⟩) M)
  (hn:L.length+M.length<=1000000) (hby:bytes<=10000) (hB:B<=W.heap.size) (h:∀v' W',aL k enc e W' B v' (L++M)->W.grownBy W' v.ownBlock->wpList P ops Q rest (a.put o.dst v') W'):
  wpList P ops Q (o::rest) a W:=by
 subst hm;obtain⟨h2,h0,i,z,h3,h4,h5,h6,h7⟩:=el;have hmul:(L.length+M.length)*bytes<=1000000*10000:=Nat.mul_le_mul hn hby
 refine wpList_append_own _ hgd s x t ho B e i z k bytes h2 h3 h4 h5 h6 h7 h0 v L.length (L.flatMap enc) hs hown ⟨g,o',none⟩ M.length cx (M.flatMap enc) hx (eD hk M) (λj u hj=>kW hk h0 hM j u hj) (qU h1 M) (by unfold maxLen;omega) (by omega) hB ?_;intro v' w' hown' hgr _;exact h v' w' (by unfold aL;rw[List.length_append,List.flatMap_append];exact hown') hgr
def aJo (B:Nat)(ka kb:BitVec 64)(c:mH):Value->World->Prop:=λv W=>∃b,v=pv b 0/\B<=b/\W.heap[b]? =some (.cells (aL4 ka kb c) 83 (0,0))
theorem aAl (B:Nat)(ka kb:BitVec 64)(c:mH):bO (aJo B ka kb c):=λ_ _ _ ⟨b,h1,h2,h3⟩ hb=>⟨b,h1,h2,(hb.block b (aC h3)).trans h3⟩
def tT (B:Nat)(ka kb:BitVec 64)(c:mH):Value->World->Prop:=λv W=>∃b,v=.tuple #[pv b 0,.int .i64 0]/\B<=b/\W.heap[b]? =some (.cells (aL4 ka kb c) 83 (0,0))
theorem yI (B:Nat)(ka kb:BitVec 64)(c:mH):bO (tT B ka kb c):=λ_ _ _ ⟨b,h1,h2,h3⟩ hb=>⟨b,h1,h2,(hb.block b (aC h3)).trans h3⟩
def aCv (ob:Option Nat)(n:Nat):Value->World->Prop:=λv W=>∃A,v=.slice (some ⟨A,0,none⟩) 1 1/\ob≠some A/\W.heap[A]? =some (.cells #[.int .u64 n] 22 (0,0))
theorem aMx (ob:Option Nat)(n:Nat):bO (aCv ob n):=λ_ _ _ ⟨A,h1,h2,h3⟩ hb=>⟨A,h1,h2,(hb.block A (aC h3)).trans h3⟩
theorem aHa (ob:Option Nat)(n:Nat):sS (λW W'=>W.grownBy W' ob) (aCv ob n):=λ_ _ _ ⟨A,h1,h2,h3⟩ hg=>⟨A,h1,h2,(hg.block A (aC h3) (λe=>h2 e.symm)).trans h3⟩
def aHc (B:Nat)(L:List Nat):Value->World->Prop:=λv W=>aL 1 cM 22 W B v L
theorem aH5 (B:Nat)(L:List Nat):bO (aHc B L):=λ_ W W' h hb=>aL.keep W W' h hb
theorem aSj {A B:Prop}(h:(A/\B)\/A):A:=h.elim (·.1) id
structure rZ (w:World)(ob:Option Nat)(bl:List cH)(vT:Value)(ka kb:BitVec 64)(L:List mH)(bs:List Nat)(c:mH)(b:Nat)(W:World):Prop where
 st:St w bl (λ_=>True) W
 own:aL 1 aHg 60 W (w.heap.size+2) vT bs
 ten:tP ka kb w.heap.size L bs W
 nw:W.heap[b]? =some (.cells (aL4 ka kb c) 83 (0,0))
 row:∀r,ob=some r->r<W.heap.size
theorem rZ.aWu {w:World}{ob:Option Nat}{bl:List cH}{vT:Value}{L:List mH}{c:mH}{b:Nat}(h:rZ w ob bl vT ka kb L bs c b W)(hb:Below W.heap.size W W'):rZ w ob bl vT ka kb L bs c b W':=
 ⟨h.st.to hb,aL.keep _ _ h.own hb,h.ten.aWu hb,(hb.block b (aC h.nw)).trans h.nw,λr e=>kG (h.row r e) hb.size⟩
theorem rZ.grown {w:World}{ob:Option Nat}{bl:List cH}{vT:Value}{L:List mH}{c:mH}{b:Nat}(h:rZ w ob bl vT ka kb L bs c b W)(hT:∀x∈bl,x.2.2≠22)(hr:∀r,ob=some r->w.heap.size<=r/\∃cur,W.heap[r]? =some (.cells cur 22 (0,0)))(hg:W.grownBy W' ob):rZ w ob bl vT ka kb L bs c b W':=
 ⟨h.st.aW7 hg hr hT,h.own.aW7 (by decide) hg (λr e=>(hr r e).2),h.ten.grown (by decide) hg (λr e=>(hr r e).2),gZ hg (λr e=>(hr r e).2) (by decide) h.nw,λr e=>kG (h.row r e) hg.size⟩
theorem xO (ka kb:BitVec 64)(L:List mH)(hN:∀c∈L,c.id<=aJ)(hl:L.length<=1000)(s:Option Addr)(cap:Nat)(w:World)(hL:Rd 3 yR w s L):
  Calls prog 6 #[kv ka kb,.slice s L.length cap] w λe w'=>(e=.returned (.tuple #[.pointer none,.int .i64 180])/\¬aAf L/\Below w.heap.size w w')\/
   (∃C bs,e=.returned (.tuple #[pv C 0,.int .i64 0])/\aAf L/\w.heap.size<=C/\Col w' C ka kb (L.map mH.id) bs/\tP ka kb w.heap.size L bs w'/\Below w.heap.size w w'):=by
 have st0:=((St.start w).alloc (cs:= #[.int .u64 (un ka),.int .u64 (un kb)]) (T:=24)).alloc (cs:= #[.int .u64 (un ka),.int .u64 (un kb),.slice none 0 0,.slice none 0 0]) (T:=57);simp only[World.size_alloc] at st0;have hb0:=(Below.refl w.heap.size w).alloc aH (.cells #[.int .u64 (un ka),.int .u64 (un kb)] 24)
 by_cases h1:L.length<1
 .go_enter func6,ntmps6;go_wp2_with fail;exact bodyPost_ret (v:=.tuple #[.pointer none,.int .i64 180]) (by simp[results,results6,go_sem]) rfl (.inl ⟨rfl,λh=>absurd h.1 (by omega),hb0⟩)
 by_cases h8:8<L.length
 .go_enter func6,ntmps6;go_wp2_with fail;exact bodyPost_ret (v:=.tuple #[.pointer none,.int .i64 180]) (by simp[results,results6,go_sem]) rfl (.inl ⟨rfl,λh=>absurd h.2.1 (by omega),hb0⟩)
 have HL:=aA hL;have HNN:=aA hN;clear hN hL hb0;go_enter func6,ntmps6;go_wp2_with fail
 go_loopw [24] (λi wr=>∃(k:Nat) (vI vT:Value) (bs:List Nat),k<=L.length/\i=.int .i64 k/\St w [(w.heap.size+1,#[.int .u64 (un ka),.int .u64 (un kb),vI,vT],57),(w.heap.size,#[.int .u64 (un ka),.int .u64 (un kb)],24)] (λ_=>True) wr/\aL 1 cM 22 wr (w.heap.size+2) vI ((L.take k).map mH.id)/\aL 1 aHg 60 wr (w.heap.size+2) vT bs/\tP ka kb w.heap.size (L.take k) bs wr/\Hid ((∀c∈L.take k,0<=c.bu/\c.bu<=1000000)/\((L.take k).map mH.id).Nodup)) (λi _=>L.length-(intOf i).toNat)
 case atStart=>exact⟨0,.slice none 0 0,.slice none 0 0,[],cJ _,rfl,st0,aL.nil _ _,aL.nil _ _,⟨λi b c h=>by simp at h,List.nodup_nil,by simp,λb h=>by cases h⟩,aA ⟨λc h=>by simp at h,by simp⟩⟩
 case round=>
  clear st0;obtain⟨k,vI,vT,bs,hk,rfl,st,hoI,hoT,hten,HG⟩:=hrel;obtain⟨sI,cI,rfl,hI1,hI2,hI3,hI4,hI5⟩:=hoI.form aY;obtain⟨sT,cT,rfl,hT1,hT2,hT3,hT4,hT5⟩:=hoT.form nV;have hIl:((L.take k).map mH.id).length=k:=by rw[List.length_map,List.length_take];omega
  have hTl:bs.length=k:=by rw[hten.len,List.length_take];omega
  obtain⟨ids,hids⟩:∃ids,(L.take k).map mH.id=ids:=⟨_,rfl⟩;rw[hids] at hoI hI1 hI3 hIl st HG;have rl:=st.rl
  by_cases hlt:k<L.length
  .obtain⟨x,hx⟩:∃x,L[k]? =some x:=⟨_,cZ hlt⟩;obtain⟨g,o,rfl,hg,hc⟩:=(HL.out.aWu aH st.below) k x hx;have hc0:=hc 0 _ rfl;have hc1:=hc 1 _ rfl;have hc2:=hc 2 _ rfl;rw[Nat.add_zero] at hc0;have hxn:=HNN.out x (bK hx);have HX:=aA hx;have HTK:=aA (show L.take (k+1)=L.take k++[x] by rw[List.take_add_one,hx];rfl);have HID:=aA hids;obtain⟨xi,xb,xt⟩:=x;simp only at hc0 hc1 hc2 hxn;have sta:=st.alloc (cs:= #[.int .u64 xi,.int .i64 xb,.int .u64 xt]) (T:=59);have hal:=(Below.refl wr.heap.size wr).alloc aH (.cells #[.int .u64 xi,.int .i64 xb,.int .u64 xt] 59);have HWa:=aA (aB (aL.keep _ _ hoI hal) (aB (aL.keep _ _ hoT hal) (aB (hten.aWu hal) (aB (hI3.aWu aH hal) (hT3.aWu aH hal)))));have hza:(wr.alloc (.cells #[.int .u64 xi,.int .i64 xb,.int .u64 xt] 59)).heap.size=wr.heap.size+1:=by simp
   have HZA:=aA hza;clear hx hc hoI hoT hten hI3 hT3 hal hids hza
   by_cases hin:xi∈ids
   .obtain⟨j0,hj0⟩:=List.mem_iff_getElem?.1 hin;obtain⟨n,hn,hmin⟩:=vW (λj=>ids[j]? =some xi) j0 hj0;obtain⟨b,hb⟩:∃b,bs[n]? =some b:=⟨_,cZ (by have:=(gJ.1 hn).1;omega)⟩;have HF:=aA (λW hW1 hW2 hc hd=>aJt (w.heap.size+1) ids xi n hn hmin (by omega) sI cI bs sT cT b hb W hW1 hW2 hc hd);have HBAD:Hid (¬aAf L):=by
     intro h;have h2:=h.2.2.2;rw[<-List.take_append_drop (k+1) L,List.map_append,HTK.out,List.map_append,HID.out] at h2;have h3:=(List.nodup_append.1 h2).1;exact(List.nodup_append.1 h3).2.2 xi hin xi (by simp) rfl
    clear hin hj0 hn hmin hb;go_wp2_with fail;refine(HF.out _ HWa.out.2.2.2.1 HWa.out.2.2.2.2 (aE (sta.blk _ (bK (i:=1) rfl)) 2) (aE (sta.blk _ (bK (i:=1) rfl)) 3)).mono ?_;rintro e w2 ⟨rfl,hw2⟩;subst hw2;go_wp2_with fail;go_ret2;exact .inl ⟨rfl,HBAD.out,sta.below⟩
   have HF:=aA (λW hW1 hc=>aJ1 (w.heap.size+1) ids xi hin (by omega) sI cI W hW1 hc);have HIN:=aA hin;clear hin;go_wp2_with fail;refine(HF.out _ HWa.out.2.2.2.1 (aE (sta.blk _ (bK (i:=1) rfl)) 2)).mono ?_;rintro e w2 ⟨rfl,hw2⟩;subst hw2;clear HF;have HKEY:=aA (λW=>aRu ka kb xi (by unfold aJ at hxn;omega) W);generalize wr.alloc (.cells #[.int .u64 xi,.int .i64 xb,.int .u64 xt] 59)=wa at*;go_wp2_with fail
   by_cases hbu:xb<0\/1000000<xb
   .have HT:=aA (λW=>aF4 xi xb xt hbu (rN ka kb xi).1 (rN ka kb xi).2 W);have HBAD:Hid (¬aAf L):=by
     intro h;have h2:=h.2.2.1 ⟨xi,xb,xt⟩ (bK HX.out);simp only at h2;omega
    clear hbu;refine rA sta 11 [.val (.agg #[.int .u64 xi,.int .i64 xb,.int .u64 xt]),.val (.agg #[.int .u64 (un ka),.int .u64 (un kb)]),.val (pv wr.heap.size 0),.val (.int .u64 xi),.val (.agg #[.int .u64 (un (rN ka kb xi).1),.int .u64 (un (rN ka kb xi).2)]),.val (.tuple #[.pointer none,.int .i64 180]),.val (.tuple #[.pointer none,.int .i64 180]),.val (.pointer none),.val (.int .i64 180),.val (.pointer none),.val (.int .i64 180)] ?spec ?endd
    case spec=>
     refine⟨?_,?_,?_,?_,?_,?_,?_,?_,?_,?_,?_,trivial⟩
     all_goals(intro ρ W kc kf hW sW rl hu hd;simp only[aI,World.size_alloc] at rl)
     have u8:ρ (.tmp 8)=pv wr.heap.size 0:=cR hu 8;rotate_left;have u2:ρ (.tmp 2)=pv w.heap.size 0:=cR hu 2;rotate_left;have u8:ρ (.tmp 8)=pv wr.heap.size 0:=cR hu 8;rotate_left;have u36:ρ (.tmp 36)=_:=aK hd 2 36;rotate_left
     .have u35:ρ (.tmp 35)=_:=aK hd 1 35;have u37:ρ (.tmp 37)=_:=aK hd 3 37;refine aF rfl ?_;go_simp;exact gY (HKEY.out W) (λ_ _=>rfl)
     .have u34:ρ (.tmp 34)=_:=aK hd 0 34;have u38:ρ (.tmp 38)=_:=aK hd 4 38;refine aF rfl ?_;go_simp;exact gY (HT.out W) (λ_ _=>rfl)
     have u39:ρ (.tmp 39)=_:=aK hd 5 39;rotate_left;have u33:ρ (.tmp 33)=_:=aK hd 6 33;rotate_left;have u33:ρ (.tmp 33)=_:=aK hd 6 33;rotate_left;have u40:ρ (.tmp 40)=_:=aK hd 7 40;rotate_left;have u41:ρ (.tmp 41)=_:=aK hd 8 41;rotate_left
     all_goals(refine aF rfl ?_;go_simp;exact aG rfl)
    case endd=>
     intro v W hW sW rl _;clear rl;go_wp2_with fail;go_ret2;exact .inl ⟨rfl,HBAD.out,sW.below⟩
   have hbu0:0<=xb:=by omega
   have hbu1:xb<=1000000:=by omega
   have HBU:=aA (aB hbu0 hbu1);have HT:=aA (λW=>aKu xi xb xt hbu0 hbu1 ka kb W);clear hbu hbu0 hbu1;refine rA sta 11 [.val (.agg #[.int .u64 xi,.int .i64 xb,.int .u64 xt]),.val (.agg #[.int .u64 (un ka),.int .u64 (un kb)]),.val (pv wr.heap.size 0),.val (.int .u64 xi),.val (.agg #[.int .u64 (un (rN ka kb xi).1),.int .u64 (un (rN ka kb xi).2)]),.fct (tT wa.heap.size ka kb ⟨xi,xb,xt⟩) (yI _ _ _ _),.fct (tT wa.heap.size ka kb ⟨xi,xb,xt⟩) (yI _ _ _ _),.fct (aJo wa.heap.size ka kb ⟨xi,xb,xt⟩) (aAl _ _ _ _),.val (.int .i64 0),.fct (aJo wa.heap.size ka kb ⟨xi,xb,xt⟩) (aAl _ _ _ _),.val (.int .i64 0)] ?spec ?endd
   case spec=>
    refine⟨?_,?_,?_,?_,?_,?_,?_,?_,?_,?_,?_,trivial⟩
    all_goals(intro ρ W kc kf hW sW rl hu hd;simp only[aI,World.size_alloc] at rl)
    have u8:ρ (.tmp 8)=pv wr.heap.size 0:=cR hu 8;rotate_left;have u2:ρ (.tmp 2)=pv w.heap.size 0:=cR hu 2;rotate_left;have u8:ρ (.tmp 8)=pv wr.heap.size 0:=cR hu 8;rotate_left;have u36:ρ (.tmp 36)=_:=aK hd 2 36;rotate_left
    .have u35:ρ (.tmp 35)=_:=aK hd 1 35;have u37:ρ (.tmp 37)=_:=aK hd 3 37;refine aF rfl ?_;go_simp;exact gY (HKEY.out W) (λ_ _=>rfl)
    .have u34:ρ (.tmp 34)=_:=aK hd 0 34;have u38:ρ (.tmp 38)=_:=aK hd 4 38;refine aF rfl ?_;go_simp;refine⟨aW,(HT.out W).mono ?_⟩;rintro e w' ⟨b9,rfl,hB9,hc9,hb'⟩;exact⟨_,rfl,hb',b9,rfl,dR hW.size hB9,hc9⟩
    .have f39:tT wa.heap.size ka kb ⟨xi,xb,xt⟩ (ρ (.tmp 39)) W:=aK hd 5 39;obtain⟨b9,u39,hB9,hc9⟩:=f39;refine aF rfl ?_;go_simp;exact aG ⟨b9,rfl,hB9,hc9⟩
    .have f33:tT wa.heap.size ka kb ⟨xi,xb,xt⟩ (ρ (.tmp 33)) W:=aK hd 6 33;obtain⟨b9,u33,hB9,hc9⟩:=f33;refine aF rfl ?_;go_simp;exact aG ⟨b9,rfl,hB9,hc9⟩
    have f33:tT wa.heap.size ka kb ⟨xi,xb,xt⟩ (ρ (.tmp 33)) W:=aK hd 6 33;obtain⟨b9,u33,hB9,hc9⟩:=f33;rotate_left
    .have f40:aJo wa.heap.size ka kb ⟨xi,xb,xt⟩ (ρ (.tmp 40)) W:=aK hd 7 40;obtain⟨b9,u40,hB9,hc9⟩:=f40;refine aF rfl ?_;go_simp;exact aG ⟨b9,rfl,hB9,hc9⟩
    have u41:ρ (.tmp 41)=_:=aK hd 8 41;rotate_left
    all_goals(refine aF rfl ?_;go_simp;exact aG rfl)
   case endd=>
    rintro v W hW sW rl ⟨hf5,hf6,hf7,hf9,-⟩;clear rl;obtain⟨b9,v9,hB9,hc9⟩:=hf9;rw[v9];generalize v 5=q5 at*;generalize v 6=q6 at*;generalize v 7=q7 at*;have o1:=aL.keep _ _ HWa.out.1 hW;have hten:=HWa.out.2.2.1.aWu hW;have hnb:b9∉bs:=λhm=>by have:=(HWa.out.2.2.1.new b9 hm).2;omega
    have hBw:w.heap.size<=b9:=dR sta.below.size hB9;have X:rZ w (Value.slice sI ids.length cI).ownBlock [(wr.heap.size,#[.int .u64 xi,.int .i64 xb,.int .u64 xt],59),(w.heap.size+1,#[.int .u64 (un ka),.int .u64 (un kb),.slice sI ids.length cI,.slice sT bs.length cT],57),(w.heap.size,#[.int .u64 (un ka),.int .u64 (un kb)],24)] (.slice sT bs.length cT) ka kb (L.take k) bs ⟨xi,xb,xt⟩ b9 W:=⟨sW,aL.keep _ _ HWa.out.2.1 hW,hten,hc9,λr e=>by obtain⟨_,cur,hr⟩:=o1.row r e;exact aC hr⟩;have hRow:∀W,aL 1 cM 22 W (w.heap.size+2) (.slice sI ids.length cI) ids->∀r,(Value.slice sI ids.length cI).ownBlock=some r->w.heap.size<=r/\∃cur,W.heap[r]? =some (.cells cur 22 (0,0)):=λW h r e=>by
     obtain⟨h1,h2⟩:=h.row r e;exact⟨by omega,h2⟩
    have HROW:=aA hRow;have HX9:=aA (aB X o1);have HIL:=aA hIl;have HTL:=aA hTl;have HW9:=aA (aB hten (aB hnb hBw));clear hIl hTl hf5 hf6 hf7 hten hnb hRow o1 X hB9 hc9 hBw hW HT HKEY HWa sta;have rl:=sW.rl;go_wp2_with fail;refine wP 11 8 (Fs [dC (pv (w.heap.size+1) 0),dC (pv (w.heap.size+1) 0),dC (pv (w.heap.size+1) 0),dC (pv (w.heap.size+1) 2),dC (.slice sI ids.length cI),dC (pv wr.heap.size 0),dC (.int .u64 xi),aCv (Value.slice sI ids.length cI).ownBlock xi,aHc (w.heap.size+2) (ids++[xi]),dC (pv (w.heap.size+1) 0),dC (pv (w.heap.size+1) 2)]) (λb W=>cond b (rZ w (Value.slice sI ids.length cI).ownBlock [(wr.heap.size,#[.int .u64 xi,.int .i64 xb,.int .u64 xt],59),(w.heap.size+1,#[.int .u64 (un ka),.int .u64 (un kb),.slice sI ids.length cI,.slice sT bs.length cT],57),(w.heap.size,#[.int .u64 (un ka),.int .u64 (un kb)],24)] (.slice sT bs.length cT) ka kb (L.take k) bs ⟨xi,xb,xt⟩ b9 W) (rZ w (Value.slice sI ids.length cI).ownBlock [(wr.heap.size,#[.int .u64 xi,.int .i64 xb,.int .u64 xt],59),(w.heap.size+1,#[.int .u64 (un ka),.int .u64 (un kb),.slice sI ids.length cI,.slice sT bs.length cT],57),(w.heap.size,#[.int .u64 (un ka),.int .u64 (un kb)],24)] (.slice sT bs.length cT) ka kb (L.take k) bs ⟨xi,xb,xt⟩ b9 W/\aL 1 cM 22 W (w.heap.size+2) (.slice sI ids.length cI) ids)) (λW W'=>W.grownBy W' (Value.slice sI ids.length cI).ownBlock) (by kernel_rfl) (by kernel_rfl) (by kernel_rfl) (by decide) ?h0 (tG _ ?stab) (xW _ _ _ ?stabR) ?keepG ?spec ?endd
    case h0=>exact⟨HX9.out.1.aWu aW.drew,aL.keep _ _ HX9.out.2 aW.drew⟩
    case stab=>
     simp only[List.forall_mem_cons];exact⟨aS _,aS _,aS _,aS _,aS _,aS _,aS _,aMx _ _,aH5 _ _,aS _,aS _,by simp⟩
    case stabR=>exact⟨bE _ _,bE _ _,bE _ _,bE _ _,bE _ _,bE _ _,bE _ _,aHa _ _,trivial,bE _ _,bE _ _,trivial⟩
    case keepG=>
     intro b W1 W2 h hb;cases b with
     |false=>exact⟨h.1.aWu hb,aL.keep _ _ h.2 hb⟩
     |true=>exact rZ.aWu h hb
    case spec=>
     refine⟨?_,?_,?_,?_,?_,?_,?_,?_,?_,?_,?_,trivial⟩;rotate_left 8
     .intro a W hW hu hd;have kc:∀c,a.eval (Operand.const c)=c:=λ_=>rfl;have kf:∀f,a.eval (Operand.func f)=.func (.func f) #[] #[]:=λ_=>rfl;have hW:rZ w (Value.slice sI ids.length cI).ownBlock [(wr.heap.size,#[.int .u64 xi,.int .i64 xb,.int .u64 xt],59),(w.heap.size+1,#[.int .u64 (un ka),.int .u64 (un kb),.slice sI ids.length cI,.slice sT bs.length cT],57),(w.heap.size,#[.int .u64 (un ka),.int .u64 (un kb)],24)] (.slice sT bs.length cT) ka kb (L.take k) bs ⟨xi,xb,xt⟩ b9 W/\aL 1 cM 22 W (w.heap.size+2) (.slice sI ids.length cI) ids:=hW;have u48:a.eval (Operand.tmp 48)=.slice sI ids.length cI:=hd 4 48 (by kernel_rfl) rfl;have f51:aCv (Value.slice sI ids.length cI).ownBlock xi (a.eval (Operand.tmp 51)) W:=hd 7 51 (by kernel_rfl) rfl;obtain⟨A,u51,hA,hN⟩:=f51;change cond true _ _;rw[cond_true];exact sD oK aY fF rfl (.tmp 48) (.tmp 51) rfl (w.heap.size+2) _ ids u48 hW.2 [xi] 1 rfl A 0 1 u51 (Rd.aW2 aY hN rfl) (by have:=HIL.out;simp;omega) (by decide) (aC (hW.1.st.blk _ (bK (i:=1) rfl))) (λv' W' ho hg=>⟨hg,ho,hW.1.grown (by simp) (HROW.out W hW.2) hg⟩)
     rotate_right 8
     all_goals(intro a W hW hu hd;have kc:∀c,a.eval (Operand.const c)=c:=λ_=>rfl;have kf:∀f,a.eval (Operand.func f)=.func (.func f) #[] #[]:=λ_=>rfl;have hW:(rZ w (Value.slice sI ids.length cI).ownBlock [(wr.heap.size,#[.int .u64 xi,.int .i64 xb,.int .u64 xt],59),(w.heap.size+1,#[.int .u64 (un ka),.int .u64 (un kb),.slice sI ids.length cI,.slice sT bs.length cT],57),(w.heap.size,#[.int .u64 (un ka),.int .u64 (un kb)],24)] (.slice sT bs.length cT) ka kb (L.take k) bs ⟨xi,xb,xt⟩ b9 W/\aL 1 cM 22 W (w.heap.size+2) (.slice sI ids.length cI) ids)\/(rZ w (Value.slice sI ids.length cI).ownBlock [(wr.heap.size,#[.int .u64 xi,.int .i64 xb,.int .u64 xt],59),(w.heap.size+1,#[.int .u64 (un ka),.int .u64 (un kb),.slice sI ids.length cI,.slice sT bs.length cT],57),(w.heap.size,#[.int .u64 (un ka),.int .u64 (un kb)],24)] (.slice sT bs.length cT) ka kb (L.take k) bs ⟨xi,xb,xt⟩ b9 W):=hW;have sW:=(aSj hW).st;have rl:=sW.rules;simp only[aI,World.size_alloc] at rl)
     have u6:a.eval (Operand.tmp 6)=pv (w.heap.size+1) 0:=hu 6 (by decide);rotate_left;have u6:a.eval (Operand.tmp 6)=pv (w.heap.size+1) 0:=hu 6 (by decide);rotate_left;have u45:a.eval (Operand.tmp 45)=pv (w.heap.size+1) 0:=hd 1 45 (by kernel_rfl) rfl;rotate_left;have u46:a.eval (Operand.tmp 46)=pv (w.heap.size+1) 0:=hd 2 46 (by kernel_rfl) rfl;rotate_left;have u47:a.eval (Operand.tmp 47)=pv (w.heap.size+1) 2:=hd 3 47 (by kernel_rfl) rfl;rotate_left;have u8:a.eval (Operand.tmp 8)=pv wr.heap.size 0:=hu 8 (by decide);rotate_left;have u49:a.eval (Operand.tmp 49)=pv wr.heap.size 0:=hd 5 49 (by kernel_rfl) rfl;rotate_left
     .have u50:a.eval (Operand.tmp 50)=.int .u64 xi:=hd 6 50 (by kernel_rfl) rfl;show eH _ _ _ _ _ _;unfold eH;rw[if_pos (by rfl)];clear hu hd;generalize a.eval=ρ at*;go_simp;exact⟨aW.alloc aH _,W.heap.size,rfl,(λe=>absurd ((aSj hW).row _ e) (Nat.lt_irrefl _)),kH _ _⟩
     have u44:a.eval (Operand.tmp 44)=pv (w.heap.size+1) 0:=hd 0 44 (by kernel_rfl) rfl;rotate_left;have u53:a.eval (Operand.tmp 53)=pv (w.heap.size+1) 0:=hd 9 53 (by kernel_rfl) rfl;rotate_left
     all_goals(show eH _ _ _ _ _ _;unfold eH;rw[if_pos (by rfl)];clear hu hd;generalize a.eval=ρ at*;go_simp;exact aG rfl)
    case endd=>
     intro v W hW hv;have hW:rZ w (Value.slice sI ids.length cI).ownBlock [(wr.heap.size,#[.int .u64 xi,.int .i64 xb,.int .u64 xt],59),(w.heap.size+1,#[.int .u64 (un ka),.int .u64 (un kb),.slice sI ids.length cI,.slice sT bs.length cT],57),(w.heap.size,#[.int .u64 (un ka),.int .u64 (un kb)],24)] (.slice sT bs.length cT) ka kb (L.take k) bs ⟨xi,xb,xt⟩ b9 W:=hW;have v0:v 0=(pv (w.heap.size+1) 0):=hv 0 (by omega);have v1:v 1=(pv (w.heap.size+1) 0):=hv 1 (by omega);have v2:v 2=(pv (w.heap.size+1) 0):=hv 2 (by omega);have v3:v 3=(pv (w.heap.size+1) 2):=hv 3 (by omega);have v4:v 4=(.slice sI ids.length cI):=hv 4 (by omega);have v5:v 5=(pv wr.heap.size 0):=hv 5 (by omega);have v6:v 6=(.int .u64 xi):=hv 6 (by omega);have hf7:aCv (Value.slice sI ids.length cI).ownBlock xi (v 7) W:=hv 7 (by omega);have hf8:aHc (w.heap.size+2) (ids++[xi]) (v 8) W:=hv 8 (by omega);have v9:v 9=(pv (w.heap.size+1) 0):=hv 9 (by omega);have v10:v 10=(pv (w.heap.size+1) 2):=hv 10 (by omega);clear hv;simp only[List.take_succ_cons,List.take_zero,List.drop_succ_cons,List.drop_zero,fS,Nat.zero_add,Nat.reduceAdd];rw[v0,v1,v2,v3,v4,v5,v6,v9,v10];clear v0 v1 v2 v3 v4 v5 v6 v9 v10;obtain⟨sI',cI',v8,-,-,-,-,-⟩:=aL.form aY hf8;rw[List.length_append,List.length_singleton] at v8;rw[v8] at hf8⊢;generalize v 7=q8 at*;have hC:=hW.st.blk _ (bK (i:=1) rfl);have g2:=bZ W (w.heap.size+1) 2 (.slice sI' (ids.length+1) cI');have r2:∀r,some (w.heap.size+1)=some r->∃cur,W.heap[r]? =some (.cells cur 57 (0,0)):=λr e=>by cases e;exact⟨_,hC⟩
     have st2:=hW.st.sx 1 (A:=w.heap.size+1) rfl (o:=2) (v:=(.slice sI' (ids.length+1) cI')) (by omega);have oI2:=aL.aW7 hf8 (by decide) g2 r2;have oT2:=hW.own.aW7 (by decide) g2 r2;have tn2:=hW.ten.grown (by decide) g2 r2;have nw2:=gZ g2 r2 (by decide) hW.nw;have al3:=(Below.refl (W.setCell ⟨w.heap.size+1,2,none⟩ (.slice sI' (ids.length+1) cI')).heap.size (W.setCell ⟨w.heap.size+1,2,none⟩ (.slice sI' (ids.length+1) cI'))).alloc aH (.cells #[pv b9 0] 60);have HA3:=aA (aB (aL.keep _ _ oI2 al3) (aB (aL.keep _ _ oT2 al3) (aB (tn2.aWu al3) (aB ((al3.block b9 (aC nw2)).trans nw2) (st2.alloc (cs:= #[pv b9 0]) (T:=60))))));have hz2:(W.setCell ⟨w.heap.size+1,2,none⟩ (.slice sI' (ids.length+1) cI')).heap.size=W.heap.size:=by simp[World.setCell]
     have hN3:=kH (W.setCell ⟨w.heap.size+1,2,none⟩ (.slice sI' (ids.length+1) cI')) (.cells #[pv b9 0] 60);rw[hz2] at hN3;have HN3:=aA hN3;have rl:=hW.st.rl;clear hz2 hN3 hf7 hf8 v8 hC g2 r2 st2 oI2 oT2 tn2 nw2 al3 hW HX9 HROW sW;go_wp2_with(at_builtin;go_must (refine aGw aVc nV aQc rfl (.tmp 59) (.tmp 61) rfl (w.heap.size+2) (.slice sT bs.length cT) bs rfl HA3.out.2.1 [b9] 1 rfl _ 0 1 rfl (Rd.aW2 nV HN3.out rfl) (by have:=HTL.out;simp;omega) (by decide) (dR (Nat.succ_le_of_lt (aC (HA3.out.2.2.2.2.blk _ (bK (i:=2) rfl)))) aH) ?_);intro v4 W4 ho4 hg4;obtain⟨sT',cT',e4,-,-,-,-,-⟩:=ho4.form nV;rw[List.length_append,List.length_singleton] at e4;subst e4;have st4:=(HA3.out.2.2.2.2.less _ (List.sublist_cons_self _ _)).aW7 hg4 (λr e=>by obtain⟨h1,h2⟩:=HA3.out.2.1.row r e;exact⟨by omega,h2⟩) (by simp);have rl4:=st4.rules;simp only[aI] at rl4);have r4:∀r,(Value.slice sT bs.length cT).ownBlock=some r->∃cur,_=some (Obj.cells cur 60 (0,0)):=λr e=>(HA3.out.2.1.row r e).2;have g5:=bZ W4 (w.heap.size+1) 3 (.slice sT' (bs.length+1) cT');have hC4:=st4.blk _ (bK (i:=1) rfl);have r5:∀r,some (w.heap.size+1)=some r->∃cur,W4.heap[r]? =some (.cells cur 57 (0,0)):=λr e=>by cases e;exact⟨_,hC4⟩
     have st5:=st4.sx 1 (A:=w.heap.size+1) rfl (o:=3) (v:=(.slice sT' (bs.length+1) cT')) (by omega);have oI5:=aL.aW7 (aL.aW7 HA3.out.1 (by decide) hg4 r4) (by decide) g5 r5;have oT5:=aL.aW7 ho4 (by decide) g5 r5;have tn5:=(((HA3.out.2.2.1.grown (by decide) hg4 r4).grown (by decide) g5 r5).aXy (gZ g5 r5 (by decide) (gZ hg4 r4 (by decide) HA3.out.2.2.2.1)) HW9.out.2.2 HW9.out.2.1);have HF5:=aA (aB oI5 (aB oT5 (aB tn5 (st5.less _ (List.sublist_cons_self _ _)))));clear oI5 oT5 tn5 st5 st4 ho4 hg4 g5 r5 r4 hC4 rl4;go_roundw
     case rel=>
      refine⟨k+1,(.slice sI' (ids.length+1) cI'),(.slice sT' (bs.length+1) cT'),bs++[b9],hlt,by go_num,?_⟩;rw[HTK.out,List.map_append,HID.out];refine⟨HF5.out.2.2.2,HF5.out.1,HF5.out.2.1,HF5.out.2.2.1,aA ⟨λc hc=> ?_,?_⟩⟩
      .rcases List.mem_append.1 hc with hc|hc
       .exact HG.out.1 c hc
       .simp at hc;subst hc;exact HBU.out
      .refine List.nodup_append.2 ⟨HG.out.2,by simp,λa ha b hb=> ?_⟩;simp at hb;subst hb;rintro rfl;exact HIN.out ha
     case measure=>simp[intOf];omega
  .obtain rfl:k=L.length:=by omega
   rw[List.take_length] at hten HG hids;have hlen1:=HG.out;go_wp2_with fail;go_ret2;exact .inr ⟨_,bs,rfl,⟨by omega,by omega,hlen1.1,by rw[hids];exact hlen1.2⟩,by omega,⟨_,_,st.blk _ (bK (i:=0) rfl),by rw[hids];exact aL.base hoI (cJ _),aL.base hoT (cJ _)⟩,hten,st.below⟩
end
end Go.Proofs.YtmgdbfmlnmahpaaGreatDoor
