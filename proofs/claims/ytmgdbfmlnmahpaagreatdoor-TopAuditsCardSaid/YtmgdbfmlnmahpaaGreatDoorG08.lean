/- Part of TopAudits. -/
import Derived.Test.YtmgdbfmlnmahpaaGreatDoorG02
import Derived.WalkKit
import Derived.WalkLawsBesides
import Derived.WalkSpells
import Derived.Outline
import Derived.Test.YtmgdbfmlnmahpaaGreatDoorG03
import Derived.LoopTactic
import Derived.Lib.Hide
import Derived.RegionTactic
import Derived.OrdersIn
import Derived.TacticsIn
import Derived.WalkMore
import Derived.RangeFuncCalls
import Derived.RangeFuncLeaves
import Derived.Shelf.Abstract
import Derived.TacticsInMore
import Derived.LoopNIn
import Derived.LoopIn
namespace Go.Proofs.YtmgdbfmlnmahpaaGreatDoor
set_option linter.unusedSimpArgs false
set_option linter.unusedVariables false
set_option maxRecDepth 100000
set_option maxHeartbeats 4000000
open Go.Proofs.Tryz
section
open Go.RowKit
attribute [local go_sem] oF oG fL sB oH lN tC
theorem gF {P:Program}{id:Nat}{Q:Exit->Act->World->Prop}{a:Act}{w:World}{l:List Oper}(n:Nat)(hm:P.follows .mixedOrders=true)(hB:Region.lexTailB .any l.toArray n=true)
  (h:wpStill P l.toArray w.drew (λa'=>wpList P l.toArray Q (l.drop n) a' w.drew) (l.take n) a):(Code.region id l.toArray true).wp P Q a w:=
 wp_region_still_tail n hm hB h
theorem jQ (x:BitVec 64)(k:Int)(h0:0<k)(h1:k<64)(w:World):
  Calls prog 140 #[.int .u64 (un x),.int .i64 k] w λe w'=>e=.returned (.int .u64 (un (aGi x k.toNat)))/\w'=w:=by
 obtain⟨k,rfl⟩:=Int.eq_ofNat_of_zero_le (Int.le_of_lt h0);have hb:bits .and .u64 (k:Int) 63=k:=by
  rw[show(63:Int)=((63:Nat):Int) from rfl,u64_and_nat _ _ (by omega) (by omega)];rw[show(63:Nat)=2^6-1 from rfl,Nat.and_two_pow_sub_one_eq_mod,Nat.mod_eq_of_lt (by omega)]
 go_enter func140,ntmps140
 go_wp2
 go_ret;exact⟨rfl,rfl⟩
abbrev vs (v:V4):Value:=.agg #[.int .u64 (un v.a),.int .u64 (un v.b),.int .u64 (un v.c),.int .u64 (un v.d)]
set_option maxRecDepth 100000 in
theorem aA3 (v:V4)(w:World):
  Calls prog 97 #[vs v] w λe w'=>e=.returned (vs (sR v))/\Below w.heap.size w w':=by
 obtain⟨a,b,c,d⟩:=v;go_enter func97,ntmps97;go_wp2_with(go_at_call 140;refine(jQ _ _ (by omega) (by omega) _).mono ?_;rintro e w' ⟨rfl,rfl⟩);refine gF 7 (by kernel_rfl) (by kernel_rfl) ?_;simp only[List.take_succ_cons,List.take_zero,List.drop_succ_cons,List.drop_zero]
 repeat(first|still_step|still_call (jQ _ _ (by omega) (by omega) _))
 refine wpStill_nil ?_;go_wp2_with(go_at_call 140;refine(jQ _ _ (by omega) (by omega) _).mono ?_;rintro e w' ⟨rfl,rfl⟩);refine gF 7 (by kernel_rfl) (by kernel_rfl) ?_;simp only[List.take_succ_cons,List.take_zero,List.drop_succ_cons,List.drop_zero]
 repeat(first|still_step|still_call (jQ _ _ (by omega) (by omega) _))
 refine wpStill_nil ?_;go_wp2_with(go_at_call 140;refine(jQ _ _ (by omega) (by omega) _).mono ?_;rintro e w' ⟨rfl,rfl⟩);refine gF 7 (by kernel_rfl) (by kernel_rfl) ?_;simp only[List.take_succ_cons,List.take_zero,List.drop_succ_cons,List.drop_zero]
 repeat(first|still_step|still_call (jQ _ _ (by omega) (by omega) _))
 refine wpStill_nil ?_;go_wp2_with(go_at_call 140;refine(jQ _ _ (by omega) (by omega) _).mono ?_;rintro e w' ⟨rfl,rfl⟩);refine gF 7 (by kernel_rfl) (by kernel_rfl) ?_;simp only[List.take_succ_cons,List.take_zero,List.drop_succ_cons,List.drop_zero]
 repeat(first|still_step|still_call (jQ _ _ (by omega) (by omega) _))
 refine wpStill_nil ?_;go_wp2_with(go_at_call 140;refine(jQ _ _ (by omega) (by omega) _).mono ?_;rintro e w' ⟨rfl,rfl⟩);refine bodyPost_ret (v:=vs (sR ⟨a,b,c,d⟩)) (by simp[results,results97,go_sem,sR]) rfl ⟨rfl,?_⟩
 repeat refine Below.drew ?_
 exact(aW.alloc aH _).alloc (by simp) _
end
section
open Go.RowKit
variable {row:Option Nat}
attribute [local go_sem] oF oG fL sB oH lN tC aE8 aSv aT3 aT0 aTu aNx
def dT (W:World)(b:Nat)(T:TypeId)(v:V4):Prop:=
 W.heap[b]? =some (.cells #[.int .u64 (un v.a),.int .u64 (un v.b),.int .u64 (un v.c),.int .u64 (un v.d)] T (0,0))
section
variable {W W':World} {b:Nat} {T:TypeId} {v:V4}
theorem dT.lt (h:dT W b T v):b<W.heap.size:=(Array.getElem?_eq_some_iff.1 h).1
theorem dT.cells (h:dT W b T v):W.cell? ⟨b,0,none⟩=some (.int .u64 (un v.a))/\W.cell? ⟨b,1,none⟩=some (.int .u64 (un v.b))/\W.cell? ⟨b,2,none⟩=some (.int .u64 (un v.c))/\W.cell? ⟨b,3,none⟩=some (.int .u64 (un v.d)):=by
 simp[World.cell?,show W.heap[b]? =_ from h]
theorem dT.frozen (h:dT W b T v):∀i,W.frozen? ⟨b,i,none⟩=false:=by
 intro i;simp[World.frozen?,show W.heap[b]? =_ from h]
theorem dT.kept (h:dT W b T v)(hg:W.grownBy W' row)(hne:some b≠row):dT W' b T v:=(hg.block b h.lt hne).trans h
theorem dT.own (h:dT W b T v)(hg:W.grownBy W' row)(hr:∀r,row=some r->∃o:Obj,W.heap[r]? =some o/\o.isCells=false):dT W' b T v:=
 h.kept hg (λe=>by
  obtain⟨o,ho,hc⟩:=hr b e.symm;rw[show W.heap[b]? =_ from h] at ho;cases ho;cases hc)
theorem dT.others (h:dT W b T v)(hg:W.grownBy W' (some b)):KeepsOthers W W':=
 ⟨hg.size,λk o hk ho=>(hg.block k (Array.getElem?_eq_some_iff.1 hk).1 (λe=>by
  obtain rfl:k=b:=by simpa using e
  rw[show W.heap[k]? =_ from h] at hk;cases hk;cases ho)).trans hk⟩
theorem dT.below (h:dT W b T v)(hg:Below W.heap.size W W'):dT W' b T v:=(hg.block b h.lt).trans h
theorem lI (hg:Below W.heap.size W W')(row:Option Nat):W.grownBy W' row:=⟨hg.os,hg.tape,hg.output,hg.size,λk hk _=>hg.block k hk⟩
theorem cF {X Y Z:World}(h:X.grownBy Y row)(k:Y.grownBy Z row):X.grownBy Z row:=
 ⟨k.os.trans h.os,k.tape.trans h.tape,k.output.trans h.output,dR h.size k.size,λi hi hne=>(k.block i (kG hi h.size) hne).trans (h.block i hi hne)⟩
theorem fK (W:World)(b o:Nat)(u:Value):W.grownBy (W.setCell ⟨b,o,none⟩ u) (some b):=
 ⟨rfl,rfl,rfl,by simp[World.setCell],λk _ hk=>Below.heap_setCell _ _ _ k (λe=>hk (by rw[e]))⟩
theorem sC (W:World)(row:Option Nat):W.grownBy W.drew row:=⟨rfl,rfl,rfl,aH,λ_ _ _=>rfl⟩
theorem aCn (W:World)(b:Nat)(x0 x1 x2 x3:Value):
  W.grownBy ((((W.setCell ⟨b,0,none⟩ x0).setCell ⟨b,1,none⟩ x1).setCell ⟨b,2,none⟩ x2).setCell ⟨b,3,none⟩ x3) (some b):=
 cF (cF (cF (fK W b 0 x0) (fK _ b 1 x1)) (fK _ b 2 x2)) (fK _ b 3 x3)
theorem dT.drew (h:dT W b T v):dT W.drew b T v:=h
theorem dT.aW9 (h:dT W b T v)(m:BitVec 64):dT (W.setCell ⟨b,3,none⟩ (.int .u64 (un m))) b T ⟨v.a,v.b,v.c,m⟩:=by
 unfold dT at*;simp only[World.setCell,Array.getElem?_modify,h];simp
theorem dT.aYk (h:dT W b T v)(m:BitVec 64):dT (W.setCell ⟨b,2,none⟩ (.int .u64 (un m))) b T ⟨v.a,v.b,m,v.d⟩:=by
 unfold dT at*;simp only[World.setCell,Array.getElem?_modify,h];simp
theorem dT.aYl (h:dT W b T v)(m:BitVec 64):dT (W.setCell ⟨b,0,none⟩ (.int .u64 (un m))) b T ⟨m,v.b,v.c,v.d⟩:=by
 unfold dT at*;simp only[World.setCell,Array.getElem?_modify,h];simp
theorem dT.set (h:dT W b T v)(u:V4):dT ((((W.setCell ⟨b,0,none⟩ (.int .u64 (un u.a))).setCell ⟨b,1,none⟩ (.int .u64 (un u.b))).setCell ⟨b,2,none⟩ (.int .u64 (un u.c))).setCell ⟨b,3,none⟩ (.int .u64 (un u.d))) b T u:=by
 unfold dT at*;simp only[World.setCell,Array.getElem?_modify,h];simp
end
set_option maxRecDepth 100000 in
theorem wC (n:Int)(h0:0<=n)(hn:n<=100)(b:Nat)(T:TypeId)(v:V4)(w:World)(hb:dT w b T v):
  Calls prog 63 #[pv b 0,.int .i64 n] w λe w'=>(∃u,e=.returned u)/\dT w' b T (Nat.repeat sR n.toNat v)/\w.grownBy w' (some b):=by
 obtain⟨n,rfl⟩:=Int.eq_ofNat_of_zero_le h0;rw[Int.toNat_natCast];go_enter func63,ntmps63
 go_wp2
 go_loopw [5] (λi wr=>∃k:Nat,k<=n/\i=.int .i64 k/\dT wr b T (Nat.repeat sR k v)/\w.grownBy wr (some b)) (λi _=>n-(intOf i).toNat)
 case atStart=>exact⟨0,cJ _,rfl,hb,lI aW _⟩
 case round=>
  obtain⟨k,hk,rfl,hB,hG⟩:=hrel;clear hb
  by_cases hlt:k<n
  .generalize hv0:Nat.repeat sR k v=v0 at*;have HV:=aA hv0;clear hv0;obtain⟨c0,c1,c2,c3⟩:=hB.cells;go_wp2_with fail;refine(aA3 v0 _).mono ?_;rintro e w1 ⟨rfl,hb1⟩;have hB1:=hB.below hb1;have hG1:=cF hG (lI hb1 (some b));clear c0 c1 c2 c3 hB hG hb1;obtain⟨c0,c1,c2,c3⟩:=hB1.cells;have f:=hB1.frozen;go_wp2_with fail;go_roundw
   case rel=>exact⟨k+1,by omega,by go_num,by show dT _ b T (sR (Nat.repeat sR k v));rw[HV.out];exact hB1.set _,cF hG1 (aCn _ _ _ _ _ _)⟩
   case measure=>simp[intOf];omega
  .go_wp2
   obtain rfl:k=n:=by omega
   go_end0;exact⟨⟨_,rfl⟩,hB,hG⟩
def aI4 (v:V4)(m:BitVec 64):V4:=
 let u:=sR (sR ⟨v.a,v.b,v.c,v.d^^^m⟩)
 ⟨u.a^^^m,u.b,u.c,u.d⟩
set_option maxRecDepth 100000 in
theorem aN4 (b:Nat)(T:TypeId)(v:V4)(m:BitVec 64)(w:World)(hb:dT w b T v):
  Calls prog 62 #[pv b 0,.int .u64 (un m)] w λe w'=>(∃u,e=.returned u)/\dT w' b T (aI4 v m)/\w.grownBy w' (some b):=by
 obtain⟨c0,c1,c2,c3⟩:=hb.cells;have f:=hb.frozen;go_enter func62,ntmps62;go_wp2_with fail;refine gF 10 (by kernel_rfl) (by kernel_rfl) ?_;simp only[List.take_succ_cons,List.take_zero,List.drop_succ_cons,List.drop_zero]
 repeat still_step
 refine wpStill_nil ?_;go_wp2_with fail;refine(wC 2 (by omega) (by omega) b T ⟨v.a,v.b,v.c,v.d^^^m⟩ _ (hb.aW9 _).drew).mono ?_;rintro e w1 ⟨⟨u,rfl⟩,hb1,hg1⟩;have hg:w.grownBy w1 (some b):=cF (cF (fK w b 3 _) (sC _ _)) hg1;clear c0 c1 c2 c3 f hb hg1;have hv:Nat.repeat sR (2:Int).toNat ⟨v.a,v.b,v.c,v.d^^^m⟩=sR (sR ⟨v.a,v.b,v.c,v.d^^^m⟩):=rfl;rw[hv] at hb1;clear hv;have HT:Hid (aI4 v m=⟨(sR (sR ⟨v.a,v.b,v.c,v.d^^^m⟩)).a^^^m,(sR (sR ⟨v.a,v.b,v.c,v.d^^^m⟩)).b,(sR (sR ⟨v.a,v.b,v.c,v.d^^^m⟩)).c,(sR (sR ⟨v.a,v.b,v.c,v.d^^^m⟩)).d⟩):=rfl;generalize sR (sR ⟨v.a,v.b,v.c,v.d^^^m⟩)=r at*;obtain⟨c0,c1,c2,c3⟩:=hb1.cells;have f:=hb1.frozen;go_wp2_with fail;refine gF 10 (by kernel_rfl) (by kernel_rfl) ?_;simp only[List.take_succ_cons,List.take_zero,List.drop_succ_cons,List.drop_zero]
 repeat still_step
 refine wpStill_nil ?_;go_wp2_with fail;go_end0;exact⟨⟨_,rfl⟩,by rw[HT.out];exact(hb1.aYl _).drew,cF (cF hg (fK w1 b 0 _)) (sC _ _)⟩
set_option maxRecDepth 100000 in
theorem aKx (b:Nat)(T:TypeId)(v:V4)(w:World)(hb:dT w b T v):
  Calls prog 64 #[.slice (some ⟨b,0,none⟩) 4 4] w λe w'=>e=.returned (.int .u64 (un (v.a^^^v.b^^^v.c^^^v.d)))/\w'=w:=by
 obtain⟨c0,c1,c2,c3⟩:=hb.cells;go_enter func64,ntmps64
 go_wp2
 refine wp_loop_rounds 5 ?_;rw[rounds_succ]
 go_wp2
 rw[rounds_succ]
 go_wp2
 rw[rounds_succ]
 go_wp2
 rw[rounds_succ]
 go_wp2
 rw[rounds_succ]
 go_wp2
 go_ret;exact⟨rfl,rfl⟩
def bL (a b:BitVec 64):V4:=⟨a^^^0x736f6d6570736575#64,b^^^0x646f72616e646f6d#64,a^^^0x6c7967656e657261#64,b^^^0x7465646279746573#64⟩
set_option maxRecDepth 100000 in
theorem aJ4 (a b:BitVec 64)(n T:Nat)(w:World)(hb:w.heap[n]? =some (.cells #[.int .u64 8317987319222330741,.int .u64 7237128888997146477,.int .u64 7816392313619706465,.int .u64 8387220255154660723] T (0,0))):
  Calls prog 60 #[.agg #[.int .u64 (un a),.int .u64 (un b)],.slice (some ⟨n,0,none⟩) 4 4] w λe w'=>e=.returned (vs (bL a b))/\Below w.heap.size w w':=by
 have hn:n<w.heap.size:=(Array.getElem?_eq_some_iff.1 hb).1;have c0:w.cell? ⟨n,0,none⟩=some (.int .u64 8317987319222330741):=by simp[World.cell?,hb]
 have c1:w.cell? ⟨n,1,none⟩=some (.int .u64 7237128888997146477):=by simp[World.cell?,hb]
 have c2:w.cell? ⟨n,2,none⟩=some (.int .u64 7816392313619706465):=by simp[World.cell?,hb]
 have c3:w.cell? ⟨n,3,none⟩=some (.int .u64 8387220255154660723):=by simp[World.cell?,hb]
 have hn1:n<w.heap.size+1:=by omega
 have hn2:n<w.heap.size+1+1:=by omega
 have hn3:n<w.heap.size+1+1+1:=by omega
 clear hb;go_enter func60,ntmps60
 go_wp2
 refine wp_loop_rounds 5 ?_;rw[rounds_succ]
 go_wp2
 rw[rounds_succ]
 go_wp2
 rw[rounds_succ]
 go_wp2
 rw[rounds_succ]
 go_wp2
 rw[rounds_succ]
 go_wp2
 refine bodyPost_ret (v:=vs (bL a b)) (by simp[results,results60,go_sem,bL]) rfl ⟨rfl,?_⟩;exact(((aW.alloc aH _).alloc (by simp) _).alloc (by simp;omega) _).alloc (by simp;omega) _
end
def le :List UInt8->Nat
 |[]=>0
 |b::l=>b.toNat+256*le l
theorem aU0 (l:List UInt8):le l<256^l.length:=by
 induction l with
 |nil=>simp[le]
 |cons b l ih=>
  have hb:=b.toNat_lt;simp only[le,List.length_cons,Nat.pow_succ];omega
theorem aLx (l m:List UInt8):le (l++m)=le l+256^l.length*le m:=by
 induction l with
 |nil=>simp[le]
 |cons b l ih=>
  simp only[List.cons_append,le,List.length_cons,ih,Nat.pow_succ];rw[Nat.mul_add,<-Nat.mul_assoc,Nat.mul_comm 256 (256^l.length)];omega
def num (l:List UInt8):BitVec 64:=BitVec.ofNat 64 (le l)
theorem aTh (l:List UInt8)(b:BitVec 64):num l|||b<<<(8*l.length)=num l+b<<<(8*l.length):=by
 have hl:=aU0 l;have e:(256:Nat)^l.length=2^(8*l.length):=by
  rw[Nat.pow_mul]
 symm;apply BitVec.add_eq_or_of_and_eq_zero;apply BitVec.eq_of_getLsbD_eq;intro i hi;simp only[BitVec.getLsbD_and,BitVec.getLsbD_shiftLeft,num,BitVec.getLsbD_ofNat]
 by_cases h1:i<8*l.length
 .simp[h1]
 .have:(le l).testBit i=false:=Nat.testBit_lt_two_pow (by
   calc le l<2^(8*l.length):=by rw[<-e];exact hl
    _<=2^i:=Nat.pow_le_pow_right (by omega) (by omega))
  simp[this]
theorem aA2 (l:List UInt8)(c:UInt8):num (l++[c])=num l+(BitVec.ofNat 64 c.toNat)<<<(8*l.length):=by
 have e:(256:Nat)^l.length=2^(8*l.length):=by
  rw[Nat.pow_mul]
 unfold num;rw[aLx];simp only[le,Nat.mul_zero,Nat.add_zero];apply BitVec.eq_of_toNat_eq;simp only[BitVec.toNat_ofNat,BitVec.toNat_add,BitVec.toNat_shiftLeft,Nat.shiftLeft_eq];rw[e,Nat.mul_comm (2^(8*l.length)) c.toNat];have h2:c.toNat%2^64=c.toNat:=Nat.mod_eq_of_lt (Nat.lt_of_lt_of_le c.toNat_lt (by decide));rw[h2,Nat.add_mod]
theorem aPl (l:List UInt8)(c:UInt8):num (l++[c])=num l|||(BitVec.ofNat 64 c.toNat)<<<(8*l.length):=by
 rw[aTh,aA2]
def blk (l:List UInt8)(i:Nat):BitVec 64:=num ((l.drop (8*i)).take 8)
def mY (l:List UInt8):BitVec 64:=num (l.drop (8*(l.length/8)))|||(BitVec.ofNat 64 l.length)<<<56
def aQd (l:List UInt8):List (BitVec 64):=(List.range (l.length/8)).map (blk l)++[mY l]
def evs (l:List UInt8):List (BitVec 64×Bool):=(List.range (l.length/8)).map (λi=>(blk l i,false))++[(mY l,true)]
def jG (l:List UInt8)(k:Nat):List (BitVec 64×Bool):=(List.range k).map (λi=>(blk l i,false))
theorem xG (l:List UInt8)(k:Nat):jG l (k+1)=jG l k++[(blk l k,false)]:=by
 simp[jG,List.range_succ]
theorem mS (l:List UInt8)(k:Nat):(jG l k).length=k:=by simp[jG]
theorem aIj (l:List UInt8):evs l=jG l (l.length/8)++[(mY l,true)]:=rfl
theorem aB2 (l:List UInt8)(k:Nat)(h:k<=l.length/8):jG l k<+:evs l:=by
 refine⟨(evs l).drop k,?_⟩;have e:jG l k=(evs l).take k:=by
  rw[aIj,List.take_append_of_le_length (by rw[mS];exact h)];unfold jG;rw[<-List.map_take,List.take_range,Nat.min_eq_left h]
 rw[e,List.take_append_drop]
theorem aKn (l:List UInt8)(p:List (BitVec 64×Bool))(x:BitVec 64×Bool)(h:p++[x]<+:evs l)(hx:x.2=true):p++[x]=evs l:=by
 obtain⟨r,hr⟩:=h;rw[aIj] at hr⊢;rcases List.eq_nil_or_concat r with rfl|⟨r',y,rfl⟩
 .rw[List.append_nil] at hr;exact hr
 .have h2:p++[x]++r'=jG l (l.length/8):=by
   rw[List.concat_eq_append,<-List.append_assoc] at hr;exact(List.append_inj' hr rfl).1
  have h3:x∈jG l (l.length/8):=by rw[<-h2];simp
  simp only[jG,List.mem_map] at h3;obtain⟨i,_,rfl⟩:=h3;simp at hx
theorem aR0 (l:List UInt8):(evs l).map Prod.fst=aQd l:=by
 simp[evs,aQd,List.map_map,Function.comp_def]
section
open Go.RowKit
variable {a:Act} {Q Q':Exit->Act->World->Prop} {w:World}
section
variable {n:Nat} {P:Program} {ops:Array Oper} {md:Region.Mode} {C:World->Prop}
theorem zM {o:Oper}{K:Act->Prop}{K':Act->World->Prop}(hw:C w)(h:∀a w',C w'->K a->K' a w')(hh:o.quiet P a C K):o.wpIn Fence.wide n P a w K' Q':=by
 obtain⟨v,h1,h2⟩:=hh;have h3:=h1 w hw;unfold Oper.quietAt at h3;unfold Oper.wpIn;refine⟨λ_ _=>trivial,?_⟩;rw[show Fence.wide.round=none from rfl,Oper.semAt_none];generalize(execOp a.eval o).run P w=r at*;cases r with
 |ok n w'=>
  cases n<;>simp only[Oper.quietUpon] at h3<;>simp only[Oper.uponIn]
  case value u=>
   obtain⟨e1,e2⟩:=h3;rw[e1,e2];exact h _ _ hw h2
  case skip=>
   obtain⟨e1,e2⟩:=h3;rw[e1,<-e2];exact h _ _ hw h2
  case enter f args=>
   obtain⟨e1,hc⟩:=h3;rw[e1];refine⟨λhd=>by simp[Fence.wide] at hd,callsIn_wide.2 ?_⟩;exact hc.mono λe w'' ⟨he,hw''⟩=>by subst he;exact h _ _ hw'' h2
 |halt x w'=>simp only[Oper.quietUpon] at h3
theorem yS {i:Nat}{K:Act->Prop}{K':Act->World->Prop}(hC:C w)(h:∀a w',C w'->K a->K' a w')(hh:qOp P ops C i K a):wpOpIn Fence.wide n P ops Q' i K' a w:=by
 unfold qOp at hh;unfold wpOpIn;split
 .rename_i ho;simp only[ho] at hh;exact h _ _ hC hh
 .rename_i o ho;simp only[ho] at hh;split
  .rename_i hw;simp only[hw,if_true] at hh;exact zM hC h hh
  .rename_i hw;simp only[hw] at hh;exact⟨λ_ _=>trivial,h _ _ hC hh⟩
theorem lK {m g:Nat}{L:Array Bool->Act->Prop}(hL:∀listed a w,C w->L listed a->wpAnyIn Fence.wide n P md ops Q' g listed a w):
  ∀(f:Nat) (listed:Array Bool) (a:Act) (w:World),C w->mC P md ops C m L f listed a->wpAnyIn Fence.wide n P md ops Q' (f+g) listed a w
 |0,listed,a,w,hw,h=>by rw[Nat.zero_add];exact hL _ _ _ hw h
 |f+1,listed,a,w,hw,h=>by
  rw[show f+1+g=(f+g)+1 by omega];exact⟨λh0=>absurd h0 h.1,λi hi=>yS hw (λa' w' hw' h'=>lK hL f _ a' w' hw' h') (h.2 i hi).2⟩
theorem nT :∀(l:List Oper) (k:Nat) (listed:Array Bool) (a:Act) (w:World),(∀j,l[j]? =ops[k+j]?)->
  Region.seqB md ops l.length k listed=true->wpListIn Fence.wide n P ops Q' l a w->wpAnyIn Fence.wide n P md ops Q' l.length listed a w
 |[],_,_,_,_,_,hB,h=>⟨by simpa[Region.seqB] using hB,h⟩
 |o::l,k,listed,a,w,hl,hB,h=>by
  have h0:ops[k]? =some o:=by simpa using(hl 0).symm
  simp only[List.length_cons,Region.seqB,Bool.and_eq_true,decide_eq_true_eq] at hB;refine⟨λh1=>(by rw[hB.1] at h1;cases h1),λi hi=> ?_⟩;rw[hB.1] at hi;have hik:i=k:=by simpa using hi
  subst hik;have hw:wpOpIn Fence.wide n P ops Q' i (wpListIn Fence.wide n P ops Q' l) a w:=by unfold wpOpIn;simp only[h0];exact h
  exact wpOpIn_mono (λa' w' h'=>nT l (i+1) _ a' w' (λj=>by have:=hl (j+1);simpa[Nat.add_assoc,Nat.add_comm 1 j] using this) hB.2 h') hw
theorem jL {id:Nat}{l:List Oper}(C:World->Prop)(m:Nat)(hm:P.follows .mixedOrders=true)(hB:Region.lexTailB .any l.toArray m=true)(hC:C w.drew)
  (h:wpQuiet P l.toArray C (λa'=>∀w',C w'->wpListIn Fence.wide n P l.toArray Q (l.drop m) a' w') (l.take m) a):(Code.region id l.toArray true).wpIn Fence.wide n P Q a w:=by
 simp only[Region.lexTailB,Bool.and_eq_true,decide_eq_true_eq] at hB;obtain⟨⟨⟨⟨hsel,hn⟩,hs⟩,hc⟩,hlex⟩:=hB;have hn':m<l.length:=by simpa using hn
 have htl:(l.take m).length=m:=by simp;omega
 have hdl:(l.drop m).length=l.toArray.size-m:=by simp
 have inv0:HeadInv .any l.toArray m (Array.replicate l.toArray.size false):=
  ⟨by simp,λj oj _ hl=>(by rw[getD_replicate_false] at hl;cases hl),λt _ ht=>getD_in (by simpa using ht) (getD_replicate_false _ _)⟩
 have H:=kK (md:=.any) (g:=l.toArray.size-m) hsel hs hc hn (l.take m) 0 _ a (λj hj=>by
  have hj':j<m:=by rw[htl] at hj;exact hj
  simp[hj']) (by simpa using htl) inv0 (by rw[htl];exact hlex) h
 refine wpIn_region_any hm ?_;have:=lK (n:=n) (Q':=Q) (g:=l.toArray.size-m) (λlisted a' w' hw' hL=>by
  have:=nT (n:=n) (md:=.any) (Q':=Q) (l.drop m) m listed a' w' (λj=>by simp[List.getElem?_drop]) (by rw[hdl];exact hL.1) (hL.2 w' hw');rwa[hdl] at this) _ _ _ w.drew hC H
 rw[htl,show m+(l.toArray.size-m)=l.toArray.size by omega] at this;exact this
theorem qL {id:Nat}{l:List Oper}(m:Nat)(hm:P.follows .mixedOrders=true)(hB:Region.lexTailB .any l.toArray m=true)
  (h:wpQuiet P l.toArray (λW=>∃m,W=w.drewN m) (λa'=>∀k,wpListIn Fence.wide n P l.toArray Q (l.drop m) a' (w.drewN k)) (l.take m) a):(Code.region id l.toArray true).wpIn Fence.wide n P Q a w:=
 jL (λW=>∃m,W=w.drewN m) m hm hB ⟨1,rfl⟩ (by
  have e:(λa':Act=>∀w',(∃m,w'=w.drewN m)->wpListIn Fence.wide n P l.toArray Q (l.drop m) a' w')=λa'=>∀k,wpListIn Fence.wide n P l.toArray Q (l.drop m) a' (w.drewN k):=by
   funext a';exact propext ⟨λh m=>h _ ⟨m,rfl⟩,λh w' ⟨m,e⟩=>e▸h m⟩
  rw[e];exact h)
theorem aG7 {c:Code}(h:c.wpIn Fence.wide n P (Exit.noGoto Q) a w):(Code.scope c).wpIn Fence.wide n P Q a w:=
 wpIn_wide.2 (wp_scope_straight (wpIn_wide.1 h))
theorem aGq {l:Nat}(h:Q .normal a w):(Code.label l).wpIn Fence.wide n P Q a w:=
 wpIn_wide.2 (wp_label h)
end
end
section
open Go.RowKit Go.Shelf
attribute [local go_sem] oF oG fL sB oH lN tC qI aAd Oper.semAt_some
theorem aQs (b:UInt8):((b.toNat:Nat):Int)=un (BitVec.ofNat 64 b.toNat):=
 aUd _ (kG b.toNat_lt (by decide))
theorem aLq (s:ByteArray)(k:Nat)(h:k<s.size):s.data.toList.take (k+1)=s.data.toList.take k++[s[k]]:=by
 rw[List.take_succ_eq_append_getElem (by simpa using h)];rfl
section
attribute [local go_sem] aQs
theorem qD (s:ByteArray)(hs:s.size<=8)(w:World):
  Calls prog 96 #[.string s] w λe w'=>e=.returned (.int .u64 (un (num s.data.toList)))/\w'=w:=by
 go_enter func96,ntmps96
 go_wp2
 go_loop [3,7] (λn i=>∃k:Nat,k<=s.size/\i=.int .i64 k/\n=.int .u64 (un (num (s.data.toList.take k)))) (λ_ i=>s.size-(intOf i).toNat)
 case atStart=>exact⟨0,cJ _,rfl,rfl⟩
 case round=>
  obtain⟨k,hk,rfl,rfl⟩:=hrel
  by_cases hlt:k<s.size
  .have HS:Hid (num (s.data.toList.take (k+1))=num (s.data.toList.take k)|||(BitVec.ofNat 64 s[k].toNat)<<<(8*k)):=by
    show _=_;rw[aLq s k hlt,aPl];rw[List.length_take,Nat.min_eq_left (by simpa using hk)]
   go_wp2
   go_round
   case rel=>exact⟨k+1,by omega,by go_num,by rw[HS.out]⟩
   case measure=>simp[intOf];omega
  .go_wp2
   go_ret;obtain rfl:k=s.size:=by omega
   have e:s.data.toList.take s.size=s.data.toList:=List.take_of_length_le (by simp);exact⟨aRl (by rw[e]),rfl⟩
end
theorem wZ (s:ByteArray)(a b:Nat):(s.extract a b).data.toList=(s.data.toList.drop a).take (b-a):=by
 rw[ByteArray.data_extract,Array.toList_extract]
theorem aUe (s:ByteArray)(k:Nat):num (s.extract (8*k) (8*k+8)).data.toList=blk s.data.toList k:=by
 rw[wZ];unfold blk;rw[show 8*k+8-8*k=8 by omega]
theorem aT5 (s:ByteArray):num (s.extract (8*(s.size/8)) s.size).data.toList|||(BitVec.ofNat 64 s.size)<<<56=mY s.data.toList:=by
 rw[wZ];unfold mY;rw[List.take_of_length_le (by simp)];simp
set_option maxRecDepth 100000 in
theorem aGc (n:Nat)(hn:1<=n)(l Bn:Nat)(s:ByteArray)(hs:s.size<=9223372036854775807)(J Jx:List (BitVec 64×Bool)->World->Prop)(hJd:∀pre W k,J pre W->J pre (W.drewN k))
  (hY:∀pre x W,J pre W->pre.length<s.size/8+1->YieldAt Fence.wide (n-1) prog l #[.int .u64 (un x.1),.bool x.2] W λe W'=>
   (e=.returned (.bool true)/\J (pre++[x]) W'/\W'.cell? ⟨Bn,0,none⟩=W.cell? ⟨Bn,0,none⟩)\/(e=.returned (.bool false)/\Jx (pre++[x]) W'))
  (W:World) (hBn:W.cell? ⟨Bn,0,none⟩=some (.string s)) (h0:J [] W):
  CallsIn Fence.wide n prog 95 #[.func (.yield l) #[] #[],pv Bn 0] W λe W'=>(∃v,e=.returned v)/\
   ((∃ys,ys=evs s.data.toList/\J ys W')\/(∃pre,pre<+:evs s.data.toList/\Jx pre W')):=by
 refine callsIn_of_wp func95 rfl trivial ?_ rfl;simp only[ntmps95,List.size_toArray,List.length_cons,List.length_nil,Nat.reduceAdd,Nat.reduceSub,Array.replicate_succ,Array.replicate_zero,List.push_toArray,List.append_toArray,List.nil_append,List.cons_append]
 gi_wp2
 gi_loopw [3] (λp wr=>∃k:Nat,8*k<=s.size/\p=.int .i64 (8*(k:Int))/\wr.cell? ⟨Bn,0,none⟩=some (.string s)/\J (jG s.data.toList k) wr)
  (λp _=>s.size-(intOf p).toNat)
 case atStart=>
  exact⟨0,by omega,rfl,hBn,h0⟩
 case round=>
  obtain⟨k,hk,rfl,hc,hJ⟩:=hrel
  by_cases hlt:8*k+8<=s.size
  .obtain⟨fn,tmps,assign,body,hy,hR⟩:=hY (jG s.data.toList k) (blk s.data.toList k,false) wr hJ (by rw[mS];omega);simp only at hy hR;gi_wp2_with fail;refine⟨trivial,callsIn_wide.2 ((qD _ (by simp;omega) _).mono ?_)⟩;rintro e w' ⟨rfl,rfl⟩;rw[aUe];gi_wp2_with fail;refine hR.mono ?_;rintro e W3 (⟨rfl,hJ3,hk3⟩|⟨rfl,hJx3⟩)
   .have hc3:W3.cell? ⟨Bn,0,none⟩=some (.string s):=hk3.trans hc;clear hy hR hc hJ hBn hY
    gi_wp2
    go_roundw
    case rel=>exact⟨k+1,by omega,by go_num,hc3,by rw[xG];exact hJ3⟩
    case measure=>simp[intOf];omega
   .clear hy hR hc hJ hBn hY
    gi_wp2
    refine bodyPost_ret (results_none rfl _ _ _) rfl ?_;exact⟨⟨_,rfl⟩,.inr ⟨_,by rw[<-xG];exact aB2 _ _ (by simp;omega),hJx3⟩⟩
  .have HK:Hid (k=s.size/8):=(by omega:k=s.size/8);gi_wp2_with fail;refine qL 10 (by kernel_rfl) (by kernel_rfl) ?_;simp only[List.take_succ_cons,List.take_zero,List.drop_succ_cons,List.drop_zero]
   repeat(first|go_big_quiet_step ((go_at_call 96;exact Calls.quiet_of_same (qD _ (by simp;omega) _)))|quiet_step ((go_at_call 96;exact Calls.quiet_of_same (qD _ (by simp;omega) _))))
   refine wpQuiet_nil ?_;intro m;have e:num (List.take (s.size-8*k) (List.drop (8*k) s.data.toList))|||BitVec.ofNat 64 s.size<<<56=mY s.data.toList:=by
    rw[<-aT5,<-HK.out,wZ]
   rw[e];clear e;obtain⟨fn,tmps,assign,body,hy,hR⟩:=hY (jG s.data.toList k) (mY s.data.toList,true) (wr.drewN m) (hJd _ _ _ hJ) (by rw[mS];omega);simp only at hy hR;clear hc hBn hY hJ;gi_wp2_with fail;refine hR.mono ?_;have hpre:Hid (jG s.data.toList k++[(mY s.data.toList,true)]=evs s.data.toList):=by
    show _=_;rw[aIj,HK.out];simp
   rintro e W3 (⟨rfl,hJ3,hk3⟩|⟨rfl,hJx3⟩)
   .rw[hpre.out] at hJ3;clear hpre hy hR
    gi_wp2
    go_end0;exact⟨⟨_,rfl⟩,.inl ⟨_,rfl,hJ3⟩⟩
   .rw[hpre.out] at hJx3;clear hpre hy hR
    gi_wp2
    go_end0;exact⟨⟨_,rfl⟩,.inr ⟨_,List.prefix_refl _,hJx3⟩⟩
theorem aIu (s:ByteArray)(w:World):
  Calls prog 61 #[.string s] w λe w'=>e=.returned (.func (.func 95) #[] #[pv w.heap.size 0])/\w.alloc (.cells #[.string s] 9)=w':=by
 go_enter func61,ntmps61
 go_wp2
 go_ret;exact⟨rfl,rfl⟩
theorem aBl (n:Nat)(hn:1<=n)(Bn:Nat)(s:ByteArray)(hs:s.size<=9223372036854775807)(w:World)(hBn:Bn<w.heap.size)
  (hc:w.cell? ⟨Bn,0,none⟩=some (.string s)):
  SeqStopsK Fence.wide n prog 95 #[pv Bn 0] (λx:BitVec 64×Bool=> #[Value.int .u64 (un x.1),.bool x.2]) (λW W'=>W'.cell? ⟨Bn,0,none⟩=W.cell? ⟨Bn,0,none⟩) (λys=>ys=evs s.data.toList) (λpre=>pre<+:evs s.data.toList) (s.size/8+1) w:=λl J Jx W hW hJ _ hY h0=>
 aGc n hn l Bn s hs J Jx (λpre W k h=>hJ pre W (W.drewN k) none h ⟨rfl,rfl,rfl,aH,λ_ _ _=>rfl⟩ (λr e=>by cases e)) hY W ((hW.cell (p:=⟨Bn,0,none⟩) hBn).trans hc) h0
end
section
open Go.RowKit Go.Shelf
attribute [local go_sem] oF oG fL sB oH lN tC qI aAd Oper.semAt_some aNx
def uY (v:V4)(ms:List (BitVec 64)):V4:=ms.foldl aI4 v
def aT2 (v:V4):BitVec 64:=
 let u:=Nat.repeat sR 4 ⟨v.a,v.b,v.c^^^255#64,v.d⟩
 u.a^^^u.b^^^u.c^^^u.d
def yH (a b:BitVec 64)(l:List UInt8):BitVec 64:=aT2 (uY (bL a b) (aQd l))
set_option maxRecDepth 100000 in
theorem aCm (a b:BitVec 64)(s:ByteArray)(hs:s.size<=9223372036854775807)(w:World):
  Calls prog 41 #[.agg #[.int .u64 (un a),.int .u64 (un b)],.string s] w λe w'=>e=.returned (.int .u64 (un (yH a b s.data.toList)))/\Below w.heap.size w w':=by
 refine(callsIn_wide (n:=5)).1 ?_;refine callsIn_of_wp_marks func41 rfl trivial ?_ rfl;simp only[ntmps41,List.size_toArray,List.length_cons,List.length_nil,Nat.reduceAdd,Nat.reduceSub,Array.replicate_succ,Array.replicate_zero,List.push_toArray,List.append_toArray,List.nil_append,List.cons_append];gi_wp2_with fail;refine aG7 ?_;gi_wp2_with fail;refine⟨trivial,callsIn_wide.2 ((aJ4 a b (w.heap.size+1) 22 _ ?_).mono ?_)⟩
 .have h:=kH (w.alloc (Obj.cells #[Value.int IntKind.u64 (un a),Value.int IntKind.u64 (un b)] 24)) (.cells #[.int .u64 8317987319222330741,.int .u64 7237128888997146477,.int .u64 7816392313619706465,.int .u64 8387220255154660723] 22);rw[World.size_alloc] at h;exact h
 rintro e w1 ⟨rfl,hb1⟩;have hz:w.heap.size+2<=w1.heap.size:=by have:=hb1.size;simp at this;omega
 have hB1:Below w.heap.size w w1:=((aW.alloc aH _).alloc (by simp) _).trans (hb1.mono (by simp;omega));clear hb1;gi_wp2_with fail;refine aGq ?_;gi_wp2_with fail;refine⟨trivial,callsIn_wide.2 ((aIu s _).mono ?_)⟩;rintro e w2 ⟨rfl,rfl⟩;have hz2:(w1.alloc (.cells #[.int .u64 (un (bL a b).a),.int .u64 (un (bL a b).b),.int .u64 (un (bL a b).c),.int .u64 (un (bL a b).d)] 149)).heap.size=w1.heap.size+1:=World.size_alloc _ _;have hH:dT ((w1.alloc (.cells #[.int .u64 (un (bL a b).a),.int .u64 (un (bL a b).b),.int .u64 (un (bL a b).c),.int .u64 (un (bL a b).d)] 149)).alloc (.cells #[.string s] 9)) w1.heap.size 149 (bL a b):=
  (Below.heap_alloc _ _ _ (by rw[hz2];omega)).trans (kH w1 _)
 have hS:Boxed ((w1.alloc (.cells #[.int .u64 (un (bL a b).a),.int .u64 (un (bL a b).b),.int .u64 (un (bL a b).c),.int .u64 (un (bL a b).d)] 149)).alloc (.cells #[.string s] 9)) (w1.heap.size+1) 9 (.string s):=by
  have h:=kH (w1.alloc (.cells #[.int .u64 (un (bL a b).a),.int .u64 (un (bL a b).b),.int .u64 (un (bL a b).c),.int .u64 (un (bL a b).d)] 149)) (.cells #[.string s] 9);rw[World.size_alloc] at h;exact h
 have hB2:=(hB1.alloc (by omega) (.cells #[.int .u64 (un (bL a b).a),.int .u64 (un (bL a b).b),.int .u64 (un (bL a b).c),.int .u64 (un (bL a b).d)] 149)).alloc (by rw[hz2];omega) (.cells #[.string s] 9);rw[hz2];clear hz2 hB1;have hs2:((w1.alloc (.cells #[.int .u64 (un (bL a b).a),.int .u64 (un (bL a b).b),.int .u64 (un (bL a b).c),.int .u64 (un (bL a b).d)] 149)).alloc (.cells #[.string s] 9)).heap.size=w1.heap.size+2:=by simp
 have HS2:=aA hs2;clear hs2;generalize(w1.alloc (.cells #[.int .u64 (un (bL a b).a),.int .u64 (un (bL a b).b),.int .u64 (un (bL a b).c),.int .u64 (un (bL a b).d)] 149)).alloc (.cells #[.string s] 9)=w2 at*;generalize w1.heap.size=B at*;gi_wp2_with fail;refine wpIn_rangeFunc_ownF (n:=5) rfl (by omega) (gf:=95) (lb:= #[pv (B+1) 0]) rfl trivial (enters_of func95 (by kernel_rfl) rfl)
  (aBl 4 (by omega) (B+1) s hs w2 (by rw[HS2.out];omega) hS.cell) (λh k=>k.trans h) ?kb aW (λ_=>rfl)
  (λ(pre:List (BitVec 64×Bool)) W=>((∀x∈pre,x.2=false)/\dT W B 149 (uY (bL a b) (pre.map Prod.fst))/\B+2<=W.heap.size)/\Below w.heap.size w W)
  (λc pre W=>(c=.exit 0/\(∃(p:List (BitVec 64×Bool)) (x:BitVec 64×Bool),pre=p++[x]/\x.2=true)/\dT W B 149 (uY (bL a b) (pre.map Prod.fst)))/\Below w.heap.size w W)
  (OwnFrom.and (Own.from (λs A B row hs hg hr=>⟨hs.1,hs.2.1.own hg hr,dR hs.2.2 hg.size⟩) _) (ownFrom_below aH (by rw[HS2.out];omega)))
  (λc=>OwnFrom.and (Own.from (λs A B row hs hg hr=>⟨hs.1,hs.2.1,hs.2.2.own hg hr⟩) _) (ownFrom_below aH (by rw[HS2.out];omega)))
  ⟨⟨by simp,hH,Nat.le_of_eq HS2.out.symm⟩,hB2⟩
  (λx=>{tmps:= #[.agg #[.int .u64 (un a),.int .u64 (un b)],.string s,pv w.heap.size 0,undef,.int .u64 0,pv B 0,.int .u64 (un x.1),.bool x.2,
   .agg #[.int .u64 (un a),.int .u64 (un b)],.slice (some ⟨w.heap.size+1,0,none⟩) 4 4,vs (bL a b),.string s,.func (.func 95) #[] #[pv (B+1) 0],.int .u64 (un x.1),.bool x.2,undef,undef,
   undef,undef,undef,undef,undef,undef,undef,undef,undef,undef,undef,undef],defers:=[]}) ?assign ?body ?done ?stop
 case kb=>
  intro W l o o' hl h hc _;exact World.cell?_of_block (w:=W) ((grownBy_putObj' W l o').block (B+1) (by have:=(Array.getElem?_eq_some_iff.1 h).1;rw[HS2.out] at hl;omega) (λe=>by rw[HS2.out] at hl;simp at e;omega))
 case assign=>
  intro l x W K hK
  gi_wp2
  exact hK
 case body=>
  rintro l pre ⟨m,last⟩ W ⟨⟨hpre,hv,hsz⟩,hB⟩ _;gi_wp2_with fail;refine⟨trivial,CallsIn.inRound l (callsIn_wide.2 ((aN4 B 149 _ m W hv).mono ?_))⟩;rintro e W1 ⟨⟨u,rfl⟩,hv1,hg1⟩;have hfold:Hid (uY (bL a b) (List.map Prod.fst (pre++[(m,last)]))=aI4 (uY (bL a b) (List.map Prod.fst pre)) m):=by
   show _=_;simp[uY]
  have hko:=hv.others hg1;have hkc:=aA (World.cell?_of_block (w:=W) (a:=⟨B+1,0,none⟩) (hg1.block (B+1) (by omega) (by simp)));have hB1:=hB.grown hg1 hB.size (λk e=>by cases e;omega);cases last
  .gi_wp2_with fail;exact⟨hko,hkc.out,⟨λx hx=>(List.mem_append.1 hx).elim (hpre x) (λh=>by simp at h;rw[h]),by rw[hfold.out];exact hv1,dR hsz hg1.size⟩,hB1⟩
  .gi_wp2_with fail;exact⟨hko,⟨rfl,⟨pre,(m,true),rfl,rfl⟩,by rw[hfold.out];exact hv1⟩,hB1⟩
 case done=>
  rintro D ys W hD rfl ⟨⟨hall,_⟩,_⟩ _;exact absurd (hall (mY s.data.toList,true) (by simp[evs])) (by simp)
 case stop=>
  rintro D c pre W hD hpre ⟨⟨rfl,⟨p,x,rfl,hx⟩,hv⟩,hB⟩ hK;rw[aKn _ _ _ hpre hx,aR0] at hv;have hBD:B<D:=by rw[HS2.out] at hD;omega
  obtain⟨c0,c1,c2,c3⟩:=hv.cells;have f:=hv.frozen;have HR:Hid (yH a b s.data.toList=aT2 (uY (bL a b) (aQd s.data.toList))):=rfl;generalize uY (bL a b) (aQd s.data.toList)=v at*;gi_wp2_with fail;refine⟨trivial,callsIn_wide.2 ((wC 4 (by omega) (by omega) B 149 ⟨v.a,v.b,v.c^^^255#64,v.d⟩ _ (hv.aYk _)).mono ?_)⟩;rintro e W1 ⟨⟨u,rfl⟩,hv1,hg1⟩;have hg2:=cF (fK W B 2 (.int .u64 (un (v.c^^^255#64)))) hg1;have hK1:W1.heap[D]? =some (Obj.deferred (some [])):=(hg2.block D (Array.getElem?_eq_some_iff.1 hK).1 (by simp;omega)).trans hK;have hB1:=hB.grown hg2 hB.size (λk e=>by cases e;omega);clear c0 c1 c2 c3 f hg1 hg2 hK hB hv;have HE:Hid (aT2 v=(Nat.repeat sR (4:Int).toNat ⟨v.a,v.b,v.c^^^255#64,v.d⟩).a^^^(Nat.repeat sR (4:Int).toNat ⟨v.a,v.b,v.c^^^255#64,v.d⟩).b^^^(Nat.repeat sR (4:Int).toNat ⟨v.a,v.b,v.c^^^255#64,v.d⟩).c^^^(Nat.repeat sR (4:Int).toNat ⟨v.a,v.b,v.c^^^255#64,v.d⟩).d):=rfl;generalize Nat.repeat sR (4:Int).toNat ⟨v.a,v.b,v.c^^^255#64,v.d⟩=r at*;gi_wp2_with fail;refine⟨trivial,callsIn_wide.2 ((aKx B 149 r W1 hv1).mono ?_)⟩;rintro e W2 ⟨rfl,rfl⟩;gi_wp2_with fail;refine⟨by simp,.inl ⟨_,_,rfl,run_takeDeferred hK1,?_⟩⟩;exact⟨.int .u64 (un (r.a^^^r.b^^^r.c^^^r.d)),results_tmp (t:=4) rfl _ _ _,by rw[HR.out,HE.out],hB1.trans (belowK_b (w:=w) aH W2 D _ _ (by omega) hK1 rfl rfl)⟩
end
end Go.Proofs.YtmgdbfmlnmahpaaGreatDoor
